/- A part. -/
import Derived.Test.YtngchmkoadaecaaGreatDoorClJS7
set_option linter.unusedVariables false
set_option linter.unusedSimpArgs false
set_option maxHeartbeats 16000000
set_option maxRecDepth 100000
open List renaming getElem?_eq_getElem->Uq,mem_of_getElem?->Us,length_take->UJ,map_append->UH
open Option renaming isSome_none->VH,map_some->UM,getD_some->Vb,isSome_some->Vv
namespace Go.Proofs.YtngchmkoadaecaaGreatDoor
open Go Go.Ab
attribute [local irreducible] vc
def named (name:List UInt8)(x:TFd):Bool:=decide (x.name=name)
def iy (name:List UInt8)(x:Fld):Bool:=decide (x.name=name)
def kG:TFd:=.mk 0 [] 0 (.mk 0 0 0 0 [] [] []) []
def Jg:Val:=.mk 0 0 0 [] [] []
def tfR (o:Option TFd):PV:=.tup [(o.getD kG).pv,.bool o.isSome]
def vlR (o:Option Val):PV:=.tup [(o.getD Jg).pv,.bool o.isSome]
theorem GU (l:List (List UInt8))(s:List UInt8)(h:l.length<=9000000000000):ap Tryz.prog aB 187 [.list (l.map PV.str),.str s] (.int .i64 (ib (fun x=>decide (x=s)) l 0)):=by
 refine ap.intro SD.2 (by simp[SD]) ?_
 generalize hR:ib (fun x=>decide (x=s)) l 0=R
 simp(disch:=try exact dI) only[SD,push_cast,seval]
 refine aw ([]) (fun m:Nat=>[(8,.pv (.int .i64 (m:Int)))]) (fun m=>[]) (fun m=>m<=l.length/\R=ib (fun x=>decide (x=s)) (l.drop m) m) (fun m=>l.length - m) (0) ?_;intro e0 σ0 n0 h0;simp(disch:=try exact dI) only[push_cast,seval] at h0;obtain⟨rfl,rfl,rfl⟩:=h0;refine⟨?_,?_,?_⟩
 ·exact qsZ
 ·exact⟨by omega,hR.symm⟩
 ·rintro i ⟨hi,he⟩
  by_cases hlt:i<l.length
  ·have hltI:(i:Int)<l.length:=by omega
   obtain⟨x,hx⟩:∃ x,l[i]? = some x:=⟨_,Uq hlt⟩
   by_cases hn:s=x
   ·rw[he,jP hx (by simp[hn])]
    simp(disch:=try exact dI) only[hx,hn,push_cast,seval]
   ·rw[gA hx (by simp;exact fun h=>hn h.symm)] at he
    simp(disch:=try exact dI) only[hx,hn,push_cast,seval]
    exact⟨i+1,aN qsZ,⟨by omega,he⟩,by omega⟩
  ·have hltI:¬ (i:Int)<l.length:=by omega
   rw[he,jQ hlt]
   exact qsZ
theorem wV (l:List (List UInt8))(s:List UInt8)(h:l.length<=9000000000000):ap Tryz.prog aB 160 [.list (l.map PV.str),.str s] (.bool (l.any fun x=>decide (x=s))):=by
 have h111:=GU l s h
 have hfa:=i6 (p:=fun x=>decide (x=s)) l
 refine ap.intro Ri.2 (by simp[Ri]) ?_
 rcases er (p:=fun x=>decide (x=s)) l 0 with ⟨h1,h2⟩ | ⟨k,x,h1,h2,h3⟩
 ·rw[h2] at h111
  rw[h1] at hfa
  rw[<- hfa]
  simp(disch:=try exact dI) only[Ri,push_cast,seval]
  refine ab.pure h111 rfl ?_
  refine zgZ ?_
  exact .refl _
 ·rw[h3] at h111
  rw[h2] at hfa
  rw[<- hfa]
  have hk:(0:Int)<=((0+k:Nat):Int):=by omega
  generalize ((0+k:Nat):Int)=z at *
  simp(disch:=try exact dI) only[Ri,push_cast,seval]
  refine ab.pure h111 rfl ?_
  refine zgZ ?_
  exact .refl _
theorem PD (x:Fld)(name:List UInt8):ap Tryz.prog aB 197 [x.pv,.eptr [.str name] 0 0] (.bool (iy name x)):=by
 obtain⟨a,⟨k,m,n,s,w,e⟩⟩:=x
 refine ap.intro Sx.2 (by simp[Sx]) ?_
 simp(disch:=try exact dI) only[Sx,TY,Uo,iy,Fld.name,push_cast,seval]
 exact decide_eq_decide.2 Iff.rfl
theorem GS (l:List Fld)(g:Nat)(cs:List PV)(q:Fld->Bool)(hq:∀ x∈l,ap Tryz.prog aB g (x.pv::cs) (.bool (q x)))(hl:l.length<=9000000000000) :
  ap Tryz.prog aB 196 [.list (l.map Fld.pv),.clo g [] cs] (.int .i64 (ib q l 0)):=by
 refine ap.intro Sy.2 (by simp[Sy]) ?_
 simp(disch:=try exact dI) only[Sy,push_cast,seval]
 refine aw ([]) (fun m:Nat=>[(8,.pv (.int .i64 (m:Int)))]) (fun m=>[]) (fun m=>m<=l.length/\ib q l 0=ib q (l.drop m) m) (fun m=>l.length - m) (0) ?_;intro e0 σ0 n0 h0;simp(disch:=try exact dI) only[push_cast,seval] at h0;obtain⟨rfl,rfl,rfl⟩:=h0;refine⟨?_,?_,?_⟩
 ·exact qsZ
 ·exact⟨by omega,by simp⟩
 ·rintro m ⟨hm,he⟩
  by_cases hlt:m<l.length
  ·have hltI:(m:Int)<l.length:=by omega
   obtain⟨x,hx⟩:∃ x,l[m]? = some x:=⟨_,Uq hlt⟩
   have hcall:=hq x (Us hx)
   simp(disch:=try exact dI) only[hx,Fld.cells_len,Fld.isAgg,push_cast,seval]
   refine ab.pure hcall (by exact sr (x.pv::cs)) ?_
   cases hqx:q x with
   | true=>
     rw[he,jP hx hqx]
     exact qsZ
   | false=>
     rw[gA hx hqx] at he
     refine zgZ ?_
     exact⟨m+1,aN qsZ,⟨by omega,he⟩,by omega⟩
  ·have hltI:¬ (m:Int)<l.length:=by omega
   rw[he,jQ hlt]
   exact qsZ
theorem GR (v:Val)(name:List UInt8)(h:v.fields.length<=9000000000000):ap Tryz.prog aB 191 [v.pv,.str name] (.int .i64 (ib (iy name) v.fields 0)):=by
 obtain⟨k,i,s,t,l,f⟩:=v
 simp only[Val.fields] at h ⊢
 have h117:=GS f 197 [.eptr [.str name] 0 0] (iy name) (fun x _=>PD x name) (by omega)
 refine ap.intro SA.2 (by simp[SA]) ?_
 simp(disch:=try exact dI) only[SA,Uo,push_cast,seval]
 refine ab.pure h117 rfl ?_
 exact qsZ
theorem Hq (v:Val)(name:List UInt8)(hv:v.ok)(hk:v.kind=9)(h:v.fields.length<=9000000000000):ap Tryz.prog aB 165 [v.pv,.str name] (vlR ((v.fields.find? (iy name)).map Fld.value)):=by
 have h127:=GR v name h
 obtain⟨k,i,s,t,l,f⟩:=v
 rw[Un] at hv
 simp only[Val.fields,Val.kind] at h hk h127 ⊢
 rw[Uo] at h127
 refine ap.intro Re.2 (by simp[Re]) ?_
 rcases er (p:=iy name) f 0 with ⟨h1,h2⟩ | ⟨i',x,h1,h2,h3⟩
 ·rw[h1]
  rw[h2] at h127
  simp(disch:=try exact dI) only[Re,Uo,push_cast,seval]
  refine ab.pure h127 rfl ?_
  simp(disch:=try exact dI) only[hk,vlR,Option.map_none,Option.getD_none,VH,Jg,Uo,push_cast,seval]
 ·rw[h2]
  rw[h3,Nat.zero_add] at h127
  have hxo:=hv.2.2.2.2.2.2.2 x (Us h1)
  obtain⟨x1,x2⟩:=x
  rw[TX] at hxo
  have hcl:=j5 _ x2 (Nat.lt_succ_self _) hxo.2
  obtain⟨y1,y2,y3,y4,y5,y6⟩:=x2
  rw[Uo] at hcl
  have hi:¬ (i':Int)<0:=by omega
  simp(disch:=try exact dI) only[Re,Uo,push_cast,seval]
  refine ab.pure h127 rfl ?_
  simp(disch:=try exact dI) only[h1,hk,TY,Uo,push_cast,seval]
  refine ab.pure hcl rfl ?_
  simp(disch:=try exact dI) only[vlR,UM,Fld.value,Vb,Vv,Uo,push_cast,seval]
theorem HF (w:List (List UInt8))(hw:w.length*16<=140737488351232):ap Tryz.prog aB 199 [.list (w.map PV.str)] (.list (w.map PV.str)):=by
 refine ap.intro Rc.2 (by simp[Rc]) ?_
 cases w with
 | nil=>
   simp(maxSteps:=9^7) (disch:=try exact dI) only[Rc,push_cast,seval]
   intro b
   cases b<;>simp(maxSteps:=9^7) (disch:=try exact dI) only[push_cast,seval]
 | cons x r=>
   rw[List.length_cons] at hw
   simp(maxSteps:=9^7) (disch:=try exact dI) only[Rc,push_cast,seval]
theorem tq (n:Int)(nm:List UInt8)(nd k m M s:Int)(w:List (List UInt8))(e:List Typ)(f:List TFd)(d:List Val)(hT:ap Tryz.prog aB 198 [(Typ.mk k m M s w e f).pv] (Typ.mk k m M s w e f).pv)(hd:d.length*88<=140737488351232)(hv:∀ v∈d,v.ok) :
  ap Tryz.prog aB 195 [(TFd.mk n nm nd (Typ.mk k m M s w e f) d).pv] (TFd.mk n nm nd (Typ.mk k m M s w e f) d).pv:=by
 simp only[Um] at hT
 refine ap.intro Sz.2 (by simp[Sz]) ?_
 simp(maxSteps:=9^7) (disch:=try exact dI) only[Sz,Uh,Um,ae,push_cast,seval]
 refine ab.pure hT rfl ?_
 simp(maxSteps:=9^7) (disch:=try exact dI) only[push_cast,seval]
 refine aw ([]) (fun i:Nat=>[(17,.pv (.int .i64 (i:Int))),(3,.olist 2 6 ((d.take i).map Val.pv))]) (fun _=>[]) (fun i=>i<=d.length) (fun i=>d.length - i) (0) ?_;intro e0 σ0 n0 h0;simp(maxSteps:=9^7) (disch:=try exact dI) only[push_cast,seval] at h0;obtain⟨rfl,rfl,rfl⟩:=h0;refine⟨?_,?_,?_⟩
 ·simp(maxSteps:=9^7) (disch:=try exact dI) only[push_cast,seval]
 ·omega
 intro i hi
 by_cases hlt:i<d.length
 ·have hltI:(i:Int)<(d.length:Int):=by omega
  obtain⟨x,hx⟩:∃ x,d[i]? = some x:=⟨_,Uq hlt⟩
  have hc:=j5 _ x (Nat.lt_succ_self _) (hv x (Us hx))
  have hts:=aC hx
  have hlt2:(d.take i).length=i:=by rw[UJ];omega
  obtain⟨vk,vn,vs,vt,vl,vf⟩:=x
  simp only[Uo] at hc
  simp(maxSteps:=9^7) (disch:=try exact dI) only[hx,UM,Uo,push_cast,seval]
  refine ab.pure hc rfl ?_
  simp(maxSteps:=9^7) (disch:=try exact dI) only[hlt2,push_cast,seval]
  exact⟨i+1,aN (by simp(maxSteps:=9^7) (disch:=try exact dI) only[hts,UH,Uo,push_cast,seval]),by omega,by omega⟩
 ·obtain rfl:i=d.length:=by omega
  simp(maxSteps:=9^7) (disch:=try exact dI) only[List.take_length,Int.lt_irrefl,push_cast,seval]
def bR:Nat->Typ->Prop
 | 0,_=>False
 | n+1,.mk k m M s w e f=>w.length*16<=140737488351232/\e.length*104<=140737488351232/\f.length*160<=140737488351232/\(∀ x∈e,bR n x)/\∀ g∈f,g.dflt.length*88<=140737488351232/\(∀ v∈g.dflt,v.ok)/\bR n g.typ
theorem tp:∀ (n:Nat) (t:Typ),bR n t->ap Tryz.prog aB 198 [t.pv] t.pv
 | 0,_,h=>h.elim
 | n+1,.mk k m M s w e f,h=>by
   have ih:=tp n
   simp only[bR] at h
   obtain⟨hw,hel,hfl,he,hf⟩:=h
   have h297:=HF w hw
   refine ap.intro Sw.2 (by simp[Sw]) ?_
   simp(maxSteps:=9^7) (disch:=try exact dI) only[Sw,Um,push_cast,seval]
   refine aw ([]) (fun i:Nat=>[(16,.pv (.int .i64 (i:Int))),(3,.olist 2 7 ((e.take i).map Typ.pv))]) (fun _=>[]) (fun i=>i<=e.length) (fun i=>e.length - i) (0) ?_;intro e0 σ0 n0 h0;simp(maxSteps:=9^7) (disch:=try exact dI) only[push_cast,seval] at h0;obtain⟨rfl,rfl,rfl⟩:=h0;refine⟨?_,?_,?_⟩
   ·simp(maxSteps:=9^7) (disch:=try exact dI) only[push_cast,seval]
   ·omega
   intro i hi
   by_cases hlt:i<e.length
   ·have hltI:(i:Int)<(e.length:Int):=by omega
    obtain⟨x,hx⟩:∃ x,e[i]? = some x:=⟨_,Uq hlt⟩
    have hc:=ih x (he x (Us hx))
    have hts:=aC hx
    have hlt2:(e.take i).length=i:=by rw[UJ];omega
    obtain⟨k',m',M',s',w',e',f'⟩:=x
    simp only[Um] at hc
    simp(maxSteps:=9^7) (disch:=try exact dI) only[hx,UM,Um,ae,push_cast,seval]
    refine ab.pure hc rfl ?_
    simp(maxSteps:=9^7) (disch:=try exact dI) only[hlt2,push_cast,seval]
    exact⟨i+1,aN (by simp(maxSteps:=9^7) (disch:=try exact dI) only[hts,UH,Um,push_cast,seval]),by omega,by omega⟩
   obtain rfl:i=e.length:=by omega
   clear hi hlt
   simp(maxSteps:=9^7) (disch:=try exact dI) only[List.take_length,Int.lt_irrefl,push_cast,seval]
   refine aw ([]) (fun i:Nat=>[(33,.pv (.int .i64 (i:Int))),(6,.olist 3 11 ((f.take i).map TFd.pv))]) (fun _=>[]) (fun i=>i<=f.length) (fun i=>f.length - i) (0) ?_;intro e0 σ0 n0 h0;simp(maxSteps:=9^7) (disch:=try exact dI) only[push_cast,seval] at h0;obtain⟨rfl,rfl,rfl⟩:=h0;refine⟨?_,?_,?_⟩
   ·simp(maxSteps:=9^7) (disch:=try exact dI) only[push_cast,seval]
   ·omega
   intro i hi
   by_cases hlt:i<f.length
   ·have hltI:(i:Int)<(f.length:Int):=by omega
    obtain⟨x,hx⟩:∃ x,f[i]? = some x:=⟨_,Uq hlt⟩
    obtain⟨hdl,hdv,hds⟩:=hf x (Us hx)
    have hts:=aC hx
    have hlt2:(f.take i).length=i:=by rw[UJ];omega
    obtain⟨n',nm',nd',⟨k',m',M',s',w',e',f'⟩,d'⟩:=x
    have hc:=tq n' nm' nd' k' m' M' s' w' e' f' d' (ih _ hds) hdl hdv
    simp only[Uh,Um,ae] at hc
    simp(maxSteps:=9^7) (disch:=try exact dI) only[hx,UM,Uh,Um,ae,push_cast,seval]
    refine ab.pure hc rfl ?_
    simp(maxSteps:=9^7) (disch:=try exact dI) only[hlt2,push_cast,seval]
    exact⟨i+1,aN (by simp(maxSteps:=9^7) (disch:=try exact dI) only[hts,UH,Uh,Um,ae,push_cast,seval]),by omega,by omega⟩
   obtain rfl:i=f.length:=by omega
   clear hi hlt
   simp(maxSteps:=9^7) (disch:=try exact dI) only[List.take_length,Int.lt_irrefl,push_cast,seval]
   refine ab.pure h297 rfl ?_
   simp(maxSteps:=9^7) (disch:=try exact dI) only[push_cast,seval]
theorem PA (x:TFd)(name:List UInt8):ap Tryz.prog aB 190 [x.pv,.eptr [.str name] 0 0] (.bool (named name x)):=by
 obtain⟨a,b,c,⟨k,m,n,s,w,e,fs⟩,d⟩:=x
 refine ap.intro SB.2 (by simp[SB]) ?_
 simp(maxSteps:=9^7) (disch:=try exact dI) only[SB,Uh,Um,named,TFd.name,push_cast,seval]
 exact decide_eq_decide.2 Iff.rfl
theorem nj {n:Nat}{k m M s:Int}{w:List (List UInt8)}{e:List Typ}{f:List TFd}(h:bR (n+1) (.mk k m M s w e f)){x:TFd}(hx:x∈f):ap Tryz.prog aB 195 [x.pv] x.pv:=by
 simp only[bR] at h
 obtain⟨h1,h2,h3⟩:=h.2.2.2.2 x hx
 obtain⟨n',nm',nd',⟨k',m',M',s',w',e',f'⟩,d'⟩:=x
 exact tq _ _ _ _ _ _ _ _ _ _ _ (tp n _ h3) h1 h2
def cE (t:Typ)(name:List UInt8):Option TFd:=if t.kind=9\/t.kind=10 then t.fields.find? (named name) else none
theorem Mc (n:Nat)(t:Typ)(name:List UInt8)(h:bR n t):ap Tryz.prog aB 189 [t.pv,.clo 190 [] [.eptr [.str name] 0 0]] (tfR (cE t name)):=by
 cases n with
 | zero=>exact h.elim
 | succ n=>
 obtain⟨k,m,M,s,w,e,f⟩:=t
 have hcl:=fun x hx=>nj h (x:=x) hx
 have hfl:f.length<=9000000000000:=by simp only[bR] at h;have:=h.2.2.1;omega
 clear h
 have h147:=Ca f 190 [.eptr [.str name] 0 0] (named name) (fun x _=>PA x name) (by omega)
 refine ap.intro QE.2 (by simp[QE]) ?_
 by_cases hk:k=9\/k=10
 ·rw[show cE (.mk k m M s w e f) name=f.find? (named name) from if_pos hk]
  rcases er (p:=named name) f 0 with ⟨h1,h2⟩ | ⟨i,x,h1,h2,h3⟩
  ·rw[h1]
   rw[h2] at h147
   rcases hk with rfl | rfl
   all_goals
    simp(maxSteps:=9^7) (disch:=try exact dI) only[QE,Um,push_cast,seval]
    refine ab.pure h147 rfl ?_
    simp(maxSteps:=9^7) (disch:=try exact dI) only[tfR,Option.getD_none,VH,kG,Uh,Um,ae,push_cast,seval]
  ·rw[h2]
   rw[h3,Nat.zero_add] at h147
   have hc:=hcl x (Us h1)
   obtain⟨x1,x2,x3,⟨y1,y2,y3,y4,y5,y6,y7⟩,x5⟩:=x
   simp only[Uh,Um,ae] at hc
   have hi:¬ (i:Int)<0:=by omega
   rcases hk with rfl | rfl
   all_goals
    simp(maxSteps:=9^7) (disch:=try exact dI) only[QE,Um,push_cast,seval]
    refine ab.pure h147 rfl ?_
    simp(maxSteps:=9^7) (disch:=try exact dI) only[h1,UM,Uh,Um,ae,push_cast,seval]
    refine ab.pure hc rfl ?_
    simp(maxSteps:=9^7) (disch:=try exact dI) only[tfR,Vb,Vv,Uh,Um,ae,push_cast,seval]
 ·rw[show cE (.mk k m M s w e f) name=none from if_neg hk]
  have h9:¬ k=9:=by omega
  have h10:¬ k=10:=by omega
  simp(maxSteps:=9^7) (disch:=try exact dI) only[QE,Um,tfR,Option.getD_none,VH,kG,Uh,ae,push_cast,seval]
theorem ta (n:Nat)(t:Typ)(name:List UInt8)(h:bR n t):ap Tryz.prog aB 163 [t.pv,.str name] (tfR (cE t name)):=by
 have hf:=Mc n t name h
 generalize cE t name=o at hf ⊢
 obtain⟨k,m,M,s,w,e,f⟩:=t
 simp only[Um] at hf
 refine ap.intro Rg.2 (by simp[Rg]) ?_
 cases o with
 | none=>
   simp only[tfR,Option.getD_none,VH,kG,Uh,Um,ae] at hf ⊢
   simp(maxSteps:=9^7) (disch:=try exact dI) only[Rg,Um,push_cast,seval]
   refine ab.pure hf rfl ?_
   simp(maxSteps:=9^7) (disch:=try exact dI) only[push_cast,seval]
 | some x=>
   obtain⟨x1,x2,x3,⟨y1,y2,y3,y4,y5,y6,y7⟩,x5⟩:=x
   simp only[tfR,Vb,Vv,Uh,Um,ae] at hf ⊢
   simp(maxSteps:=9^7) (disch:=try exact dI) only[Rg,Um,push_cast,seval]
   refine ab.pure hf rfl ?_
   simp(maxSteps:=9^7) (disch:=try exact dI) only[push_cast,seval]
