/- A part. -/
import Derived.Test.YtamoeblcphjbaaaGreatDoorBlLK13
set_option linter.unusedVariables false
set_option linter.unusedSimpArgs false
set_option maxHeartbeats 16000000
set_option maxRecDepth 100000
open List renaming getElem?_eq_getElem->Uo,mem_of_getElem?->Uw,length_take->UM,map_append->Vs,take_length->U2
open Option renaming map_some->UD,getD_some->Vg
namespace Go.Proofs.YtamoeblcphjbaaaGreatDoor
open Go Go.Ab
attribute [local irreducible] vc
def named (name:List UInt8)(x:TFd):Bool:=decide (x.name=name)
def jN (name:List UInt8)(x:Fld):Bool:=decide (x.name=name)
def mS:TFd:=.mk 0 [] 0 (.mk 0 0 0 0 [] [] []) []
def JO:Val:=.mk 0 0 0 [] [] []
def tfR (o:Option TFd):PV:=.tup [(o.getD mS).pv,.bool o.isSome]
def vlR (o:Option Val):PV:=.tup [(o.getD JO).pv,.bool o.isSome]
theorem Hf (l:List (List UInt8))(s:List UInt8)(h:l.length<=9000000000000):au Tryz.prog aH 255 [.list (l.map PV.str),.str s] (.int .i64 (jw (fun x=>decide (x=s)) l 0)):=by
 refine au.intro SZ.2 (by simp[SZ]) ?_
 generalize hR:jw (fun x=>decide (x=s)) l 0=R
 simp(disch:=try exact dI) only[SZ,push_cast,seval]
 refine aK ([]) (fun m:Nat=>[(8,.pv (.int .i64 (m:Int)))]) (fun m=>[]) (fun m=>m<=l.length/\R=jw (fun x=>decide (x=s)) (l.drop m) m) (fun m=>l.length - m) (0) ?_;intro e0 σ0 n0 h0;simp(disch:=try exact dI) only[push_cast,seval] at h0;obtain⟨rfl,rfl,rfl⟩:=h0;refine⟨?_,?_,?_⟩
 ·exact qsZ
 ·exact⟨by omega,hR.symm⟩
 ·rintro i ⟨hi,he⟩
  by_cases hlt:i<l.length
  ·have hltI:(i:Int)<l.length:=by omega
   obtain⟨x,hx⟩:∃ x,l[i]? = some x:=⟨_,Uo hlt⟩
   by_cases hn:s=x
   ·rw[he,lV hx (by simp[hn])]
    simp(disch:=try exact dI) only[hx,hn,push_cast,seval]
   ·rw[iJ hx (by simp;exact fun h=>hn h.symm)] at he
    simp(disch:=try exact dI) only[hx,hn,push_cast,seval]
    exact⟨i+1,bu qsZ,⟨by omega,he⟩,by omega⟩
  ·have hltI:¬ (i:Int)<l.length:=by omega
   rw[he,lW hlt]
   exact qsZ
theorem yF (l:List (List UInt8))(s:List UInt8)(h:l.length<=9000000000000):au Tryz.prog aH 227 [.list (l.map PV.str),.str s] (.bool (l.any fun x=>decide (x=s))):=by
 have h111:=Hf l s h
 have hfa:=kw (p:=fun x=>decide (x=s)) l
 refine au.intro Rl.2 (by simp[Rl]) ?_
 rcases e8 (p:=fun x=>decide (x=s)) l 0 with ⟨h1,h2⟩ | ⟨k,x,h1,h2,h3⟩
 ·rw[h2] at h111
  rw[h1] at hfa
  rw[<- hfa]
  simp(disch:=try exact dI) only[Rl,push_cast,seval]
  refine ae.pure h111 rfl ?_
  refine zgZ ?_
  exact .refl _
 ·rw[h3] at h111
  rw[h2] at hfa
  rw[<- hfa]
  have hk:(0:Int)<=((0+k:Nat):Int):=by omega
  generalize ((0+k:Nat):Int)=z at *
  simp(disch:=try exact dI) only[Rl,push_cast,seval]
  refine ae.pure h111 rfl ?_
  refine zgZ ?_
  exact .refl _
theorem Qb (x:Fld)(name:List UInt8):au Tryz.prog aH 275 [x.pv,.eptr [.str name] 0 0] (.bool (jN name x)):=by
 obtain⟨a,⟨k,m,n,s,w,e⟩⟩:=x
 refine au.intro SS.2 (by simp[SS]) ?_
 simp(disch:=try exact dI) only[SS,Ub,Un,jN,Fld.name,push_cast,seval]
 exact decide_eq_decide.2 Iff.rfl
theorem He (l:List Fld)(g:Nat)(cs:List PV)(q:Fld->Bool)(hq:∀ x∈l,au Tryz.prog aH g (x.pv::cs) (.bool (q x)))(hl:l.length<=9000000000000) :
  au Tryz.prog aH 274 [.list (l.map Fld.pv),.clo g [] cs] (.int .i64 (jw q l 0)):=by
 refine au.intro SU.2 (by simp[SU]) ?_
 simp(disch:=try exact dI) only[SU,push_cast,seval]
 refine aK ([]) (fun m:Nat=>[(8,.pv (.int .i64 (m:Int)))]) (fun m=>[]) (fun m=>m<=l.length/\jw q l 0=jw q (l.drop m) m) (fun m=>l.length - m) (0) ?_;intro e0 σ0 n0 h0;simp(disch:=try exact dI) only[push_cast,seval] at h0;obtain⟨rfl,rfl,rfl⟩:=h0;refine⟨?_,?_,?_⟩
 ·exact qsZ
 ·exact⟨by omega,by simp⟩
 ·rintro m ⟨hm,he⟩
  by_cases hlt:m<l.length
  ·have hltI:(m:Int)<l.length:=by omega
   obtain⟨x,hx⟩:∃ x,l[m]? = some x:=⟨_,Uo hlt⟩
   have hcall:=hq x (Uw hx)
   simp(disch:=try exact dI) only[hx,Fld.cells_len,Fld.isAgg,push_cast,seval]
   refine ae.pure hcall (by exact pW (x.pv::cs)) ?_
   cases hqx:q x with
   | true=>
     rw[he,lV hx hqx]
     exact qsZ
   | false=>
     rw[iJ hx hqx] at he
     refine zgZ ?_
     exact⟨m+1,bu qsZ,⟨by omega,he⟩,by omega⟩
  ·have hltI:¬ (m:Int)<l.length:=by omega
   rw[he,lW hlt]
   exact qsZ
theorem Hc (v:Val)(name:List UInt8)(h:v.fields.length<=9000000000000):au Tryz.prog aH 259 [v.pv,.str name] (.int .i64 (jw (jN name) v.fields 0)):=by
 obtain⟨k,i,s,t,l,f⟩:=v
 simp only[Val.fields] at h ⊢
 have h117:=He f 275 [.eptr [.str name] 0 0] (jN name) (fun x _=>Qb x name) (by omega)
 refine au.intro SW.2 (by simp[SW]) ?_
 simp(disch:=try exact dI) only[SW,Un,push_cast,seval]
 refine ae.pure h117 rfl ?_
 exact qsZ
theorem HE (v:Val)(name:List UInt8)(hv:v.ok)(hk:v.kind=9)(h:v.fields.length<=9000000000000):au Tryz.prog aH 232 [v.pv,.str name] (vlR ((v.fields.find? (jN name)).map Fld.value)):=by
 have h127:=Hc v name h
 obtain⟨k,i,s,t,l,f⟩:=v
 rw[Um] at hv
 simp only[Val.fields,Val.kind] at h hk h127 ⊢
 rw[Un] at h127
 refine au.intro Ri.2 (by simp[Ri]) ?_
 rcases e8 (p:=jN name) f 0 with ⟨h1,h2⟩ | ⟨i',x,h1,h2,h3⟩
 ·rw[h1]
  rw[h2] at h127
  simp(disch:=try exact dI) only[Ri,Un,push_cast,seval]
  refine ae.pure h127 rfl ?_
  simp(disch:=try exact dI) only[hk,vlR,Option.map_none,Option.getD_none,Option.isSome_none,JO,Un,push_cast,seval]
 ·rw[h2]
  rw[h3,Nat.zero_add] at h127
  have hxo:=hv.2.2.2.2.2.2.2 x (Uw h1)
  obtain⟨x1,x2⟩:=x
  rw[Ua] at hxo
  have hcl:=mo _ x2 (Nat.lt_succ_self _) hxo.2
  obtain⟨y1,y2,y3,y4,y5,y6⟩:=x2
  rw[Un] at hcl
  have hi:¬ (i':Int)<0:=by omega
  simp(disch:=try exact dI) only[Ri,Un,push_cast,seval]
  refine ae.pure h127 rfl ?_
  simp(disch:=try exact dI) only[h1,hk,Ub,Un,push_cast,seval]
  refine ae.pure hcl rfl ?_
  simp(disch:=try exact dI) only[vlR,UD,Fld.value,Vg,Option.isSome_some,Un,push_cast,seval]
theorem HU (w:List (List UInt8))(hw:w.length*16<=140737488351232):au Tryz.prog aH 281 [.list (w.map PV.str)] (.list (w.map PV.str)):=by
 refine au.intro Rf.2 (by simp[Rf]) ?_
 cases w with
 | nil=>
   simp(disch:=try exact dI) only[Rf,push_cast,seval]
   intro b
   cases b<;>simp(disch:=try exact dI) only[push_cast,seval]
 | cons x r=>
   rw[List.length_cons] at hw
   simp(disch:=try exact dI) only[Rf,push_cast,seval]
theorem wa (n:Int)(nm:List UInt8)(nd k m M s:Int)(w:List (List UInt8))(e:List Typ)(f:List TFd)(d:List Val)(hT:au Tryz.prog aH 280 [(Typ.mk k m M s w e f).pv] (Typ.mk k m M s w e f).pv)(hd:d.length*88<=140737488351232)(hv:∀ v∈d,v.ok) :
  au Tryz.prog aH 273 [(TFd.mk n nm nd (Typ.mk k m M s w e f) d).pv] (TFd.mk n nm nd (Typ.mk k m M s w e f) d).pv:=by
 simp only[Ul] at hT
 refine au.intro SV.2 (by simp[SV]) ?_
 simp(disch:=try exact dI) only[SV,Ue,Ul,aw,push_cast,seval]
 refine ae.pure hT rfl ?_
 refine zgZ ?_
 refine aK ([]) (fun i:Nat=>[(17,.pv (.int .i64 (i:Int))),(3,.olist 2 6 ((d.take i).map Val.pv))]) (fun _=>[]) (fun i=>i<=d.length) (fun i=>d.length - i) (0) ?_;intro e0 σ0 n0 h0;simp(disch:=try exact dI) only[push_cast,seval] at h0;obtain⟨rfl,rfl,rfl⟩:=h0;refine⟨?_,?_,?_⟩
 ·exact qsZ
 ·omega
 intro i hi
 by_cases hlt:i<d.length
 ·have hltI:(i:Int)<(d.length:Int):=by omega
  obtain⟨x,hx⟩:∃ x,d[i]? = some x:=⟨_,Uo hlt⟩
  have hc:=mo _ x (Nat.lt_succ_self _) (hv x (Uw hx))
  have hts:=bc hx
  have hlt2:(d.take i).length=i:=by rw[UM];omega
  obtain⟨vk,vn,vs,vt,vl,vf⟩:=x
  simp only[Un] at hc
  simp(disch:=try exact dI) only[hx,UD,Un,push_cast,seval]
  refine ae.pure hc rfl ?_
  simp(disch:=try exact dI) only[hlt2,push_cast,seval]
  exact⟨i+1,bu (by simp(disch:=try exact dI) only[hts,Vs,Un,push_cast,seval]),by omega,by omega⟩
 ·obtain rfl:i=d.length:=by omega
  simp(disch:=try exact dI) only[U2,Int.lt_irrefl,push_cast,seval]
def bS:Nat->Typ->Prop
 | 0,_=>False
 | n+1,.mk k m M s w e f=>w.length*16<=140737488351232/\e.length*104<=140737488351232/\f.length*160<=140737488351232/\(∀ x∈e,bS n x)/\∀ g∈f,g.dflt.length*88<=140737488351232/\(∀ v∈g.dflt,v.ok)/\bS n g.typ
theorem v8:∀ (n:Nat) (t:Typ),bS n t->au Tryz.prog aH 280 [t.pv] t.pv
 | 0,_,h=>h.elim
 | n+1,.mk k m M s w e f,h=>by
   have ih:=v8 n
   simp only[bS] at h
   obtain⟨hw,hel,hfl,he,hf⟩:=h
   have h297:=HU w hw
   refine au.intro SR.2 (by simp[SR]) ?_
   simp(disch:=try exact dI) only[SR,Ul,push_cast,seval]
   refine aK ([]) (fun i:Nat=>[(16,.pv (.int .i64 (i:Int))),(3,.olist 2 7 ((e.take i).map Typ.pv))]) (fun _=>[]) (fun i=>i<=e.length) (fun i=>e.length - i) (0) ?_;intro e0 σ0 n0 h0;simp(disch:=try exact dI) only[push_cast,seval] at h0;obtain⟨rfl,rfl,rfl⟩:=h0;refine⟨?_,?_,?_⟩
   ·exact qsZ
   ·omega
   intro i hi
   by_cases hlt:i<e.length
   ·have hltI:(i:Int)<(e.length:Int):=by omega
    obtain⟨x,hx⟩:∃ x,e[i]? = some x:=⟨_,Uo hlt⟩
    have hc:=ih x (he x (Uw hx))
    have hts:=bc hx
    have hlt2:(e.take i).length=i:=by rw[UM];omega
    obtain⟨k',m',M',s',w',e',f'⟩:=x
    simp only[Ul] at hc
    simp(disch:=try exact dI) only[hx,UD,Ul,aw,push_cast,seval]
    refine ae.pure hc rfl ?_
    simp(disch:=try exact dI) only[hlt2,push_cast,seval]
    exact⟨i+1,bu (by simp(disch:=try exact dI) only[hts,Vs,Ul,push_cast,seval]),by omega,by omega⟩
   obtain rfl:i=e.length:=by omega
   clear hi hlt
   simp(disch:=try exact dI) only[U2,Int.lt_irrefl,push_cast,seval]
   refine aK ([]) (fun i:Nat=>[(33,.pv (.int .i64 (i:Int))),(6,.olist 3 11 ((f.take i).map TFd.pv))]) (fun _=>[]) (fun i=>i<=f.length) (fun i=>f.length - i) (0) ?_;intro e0 σ0 n0 h0;simp(disch:=try exact dI) only[push_cast,seval] at h0;obtain⟨rfl,rfl,rfl⟩:=h0;refine⟨?_,?_,?_⟩
   ·exact qsZ
   ·omega
   intro i hi
   by_cases hlt:i<f.length
   ·have hltI:(i:Int)<(f.length:Int):=by omega
    obtain⟨x,hx⟩:∃ x,f[i]? = some x:=⟨_,Uo hlt⟩
    obtain⟨hdl,hdv,hds⟩:=hf x (Uw hx)
    have hts:=bc hx
    have hlt2:(f.take i).length=i:=by rw[UM];omega
    obtain⟨n',nm',nd',⟨k',m',M',s',w',e',f'⟩,d'⟩:=x
    have hc:=wa n' nm' nd' k' m' M' s' w' e' f' d' (ih _ hds) hdl hdv
    simp only[Ue,Ul,aw] at hc
    simp(disch:=try exact dI) only[hx,UD,Ue,Ul,aw,push_cast,seval]
    refine ae.pure hc rfl ?_
    simp(disch:=try exact dI) only[hlt2,push_cast,seval]
    exact⟨i+1,bu (by simp(disch:=try exact dI) only[hts,Vs,Ue,Ul,aw,push_cast,seval]),by omega,by omega⟩
   obtain rfl:i=f.length:=by omega
   clear hi hlt
   simp(disch:=try exact dI) only[U2,Int.lt_irrefl,push_cast,seval]
   refine ae.pure h297 rfl ?_
   exact qsZ
theorem P8 (x:TFd)(name:List UInt8):au Tryz.prog aH 258 [x.pv,.eptr [.str name] 0 0] (.bool (named name x)):=by
 obtain⟨a,b,c,⟨k,m,n,s,w,e,fs⟩,d⟩:=x
 refine au.intro SX.2 (by simp[SX]) ?_
 simp(disch:=try exact dI) only[SX,Ue,Ul,named,TFd.name,push_cast,seval]
 exact decide_eq_decide.2 Iff.rfl
theorem pB {n:Nat}{k m M s:Int}{w:List (List UInt8)}{e:List Typ}{f:List TFd}(h:bS (n+1) (.mk k m M s w e f)){x:TFd}(hx:x∈f):au Tryz.prog aH 273 [x.pv] x.pv:=by
 simp only[bS] at h
 obtain⟨h1,h2,h3⟩:=h.2.2.2.2 x hx
 obtain⟨n',nm',nd',⟨k',m',M',s',w',e',f'⟩,d'⟩:=x
 exact wa _ _ _ _ _ _ _ _ _ _ _ (v8 n _ h3) h1 h2
def dd (t:Typ)(name:List UInt8):Option TFd:=if t.kind=9\/t.kind=10 then t.fields.find? (named name) else none
theorem Mu (n:Nat)(t:Typ)(name:List UInt8)(h:bS n t):au Tryz.prog aH 257 [t.pv,.clo 258 [] [.eptr [.str name] 0 0]] (tfR (dd t name)):=by
 cases n with
 | zero=>exact h.elim
 | succ n=>
 obtain⟨k,m,M,s,w,e,f⟩:=t
 have hcl:=fun x hx=>pB h (x:=x) hx
 have hfl:f.length<=9000000000000:=by simp only[bS] at h;have:=h.2.2.1;omega
 clear h
 have h147:=C4 f 258 [.eptr [.str name] 0 0] (named name) (fun x _=>P8 x name) (by omega)
 refine au.intro QJ.2 (by simp[QJ]) ?_
 by_cases hk:k=9\/k=10
 ·rw[show dd (.mk k m M s w e f) name=f.find? (named name) from if_pos hk]
  rcases e8 (p:=named name) f 0 with ⟨h1,h2⟩ | ⟨i,x,h1,h2,h3⟩
  ·rw[h1]
   rw[h2] at h147
   rcases hk with rfl | rfl
   all_goals
    simp(disch:=try exact dI) only[QJ,Ul,push_cast,seval]
    refine ae.pure h147 rfl ?_
    simp(disch:=try exact dI) only[tfR,Option.getD_none,Option.isSome_none,mS,Ue,Ul,aw,push_cast,seval]
  ·rw[h2]
   rw[h3,Nat.zero_add] at h147
   have hc:=hcl x (Uw h1)
   obtain⟨x1,x2,x3,⟨y1,y2,y3,y4,y5,y6,y7⟩,x5⟩:=x
   simp only[Ue,Ul,aw] at hc
   have hi:¬ (i:Int)<0:=by omega
   rcases hk with rfl | rfl
   all_goals
    simp(disch:=try exact dI) only[QJ,Ul,push_cast,seval]
    refine ae.pure h147 rfl ?_
    simp(disch:=try exact dI) only[h1,UD,Ue,Ul,aw,push_cast,seval]
    refine ae.pure hc rfl ?_
    simp(disch:=try exact dI) only[tfR,Vg,Option.isSome_some,Ue,Ul,aw,push_cast,seval]
 ·rw[show dd (.mk k m M s w e f) name=none from if_neg hk]
  have h9:¬ k=9:=by omega
  have h10:¬ k=10:=by omega
  simp(disch:=try exact dI) only[QJ,Ul,tfR,Option.getD_none,Option.isSome_none,mS,Ue,aw,push_cast,seval]
theorem vQ (n:Nat)(t:Typ)(name:List UInt8)(h:bS n t):au Tryz.prog aH 230 [t.pv,.str name] (tfR (dd t name)):=by
 have hf:=Mu n t name h
 generalize dd t name=o at hf ⊢
 obtain⟨k,m,M,s,w,e,f⟩:=t
 simp only[Ul] at hf
 refine au.intro Rj.2 (by simp[Rj]) ?_
 cases o with
 | none=>
   simp only[tfR,Option.getD_none,Option.isSome_none,mS,Ue,Ul,aw] at hf ⊢
   simp(disch:=try exact dI) only[Rj,Ul,push_cast,seval]
   refine ae.pure hf rfl ?_
   exact qsZ
 | some x=>
   obtain⟨x1,x2,x3,⟨y1,y2,y3,y4,y5,y6,y7⟩,x5⟩:=x
   simp only[tfR,Vg,Option.isSome_some,Ue,Ul,aw] at hf ⊢
   simp(disch:=try exact dI) only[Rj,Ul,push_cast,seval]
   refine ae.pure hf rfl ?_
   exact qsZ
theorem Ha (l:List Val)(g:Nat)(cs:List PV)(q:Val->Bool)(hq:∀ x∈l,au Tryz.prog aH g (x.pv::cs) (.bool (q x)))(hl:l.length<=9000000000000) :
  au Tryz.prog aH 256 [.list (l.map Val.pv),.clo g [] cs] (.int .i64 (jw q l 0)):=by
 refine au.intro SY.2 (by simp[SY]) ?_
 simp(disch:=try exact dI) only[SY,push_cast,seval]
 refine aK ([]) (fun m:Nat=>[(8,.pv (.int .i64 (m:Int)))]) (fun m=>[]) (fun m=>m<=l.length/\jw q l 0=jw q (l.drop m) m) (fun m=>l.length - m) (0) ?_;intro e0 σ0 n0 h0;simp(disch:=try exact dI) only[push_cast,seval] at h0;obtain⟨rfl,rfl,rfl⟩:=h0;refine⟨?_,?_,?_⟩
 ·exact qsZ
 ·exact⟨by omega,by simp⟩
 ·rintro m ⟨hm,he⟩
  by_cases hlt:m<l.length
  ·have hltI:(m:Int)<l.length:=by omega
   obtain⟨x,hx⟩:∃ x,l[m]? = some x:=⟨_,Uo hlt⟩
   have hcall:=hq x (Uw hx)
   have hcl:x.pv.cells.length=6:=by cases x;rw[Un];rfl
   have hag:x.pv.isAgg=true:=by cases x;rw[Un];rfl
   simp(disch:=try exact dI) only[hx,hcl,hag,push_cast,seval]
   refine ae.pure hcall (by exact pW (x.pv::cs)) ?_
   cases hqx:q x with
   | true=>
     rw[he,lV hx hqx]
     exact qsZ
   | false=>
     rw[iJ hx hqx] at he
     refine zgZ ?_
     exact⟨m+1,bu qsZ,⟨by omega,he⟩,by omega⟩
  ·have hltI:¬ (m:Int)<l.length:=by omega
   rw[he,lW hlt]
   exact qsZ
theorem tC (l:List Val)(g:Nat)(cs:List PV)(q:Val->Bool)(hq:∀ x∈l,au Tryz.prog aH g (x.pv::cs) (.bool (q x)))(hl:l.length<=9000000000000) :
  au Tryz.prog aH 228 [.list (l.map Val.pv),.clo g [] cs] (.bool (l.any q)):=by
 have h94:=Ha l g cs q hq hl
 have hfa:=kw (p:=q) l
 refine au.intro Rk.2 (by simp[Rk]) ?_
 rcases e8 (p:=q) l 0 with ⟨h1,h2⟩ | ⟨k,x,h1,h2,h3⟩
 ·rw[h2] at h94
  rw[h1] at hfa
  rw[<- hfa]
  simp(disch:=try exact dI) only[Rk,push_cast,seval]
  refine ae.pure h94 rfl ?_
  refine zgZ ?_
  exact .refl _
 ·rw[h3] at h94
  rw[h2] at hfa
  rw[<- hfa]
  have hk:(0:Int)<=((0+k:Nat):Int):=by omega
  generalize ((0+k:Nat):Int)=z at *
  simp(disch:=try exact dI) only[Rk,push_cast,seval]
  refine ae.pure h94 rfl ?_
  refine zgZ ?_
  exact .refl _
def x7 (v:Val):TFd->Bool
 | .mk _ nm nd _ _=>(v.fields.find? (jN nm)).isNone&&!decide (nd=2)
theorem P9 (v:Val)(g:TFd)(hv:v.ok)(hk:v.kind=9)(h:v.fields.length<=9000000000000):au Tryz.prog aH 231 [g.pv,.eptr [v.pv] 0 0] (.bool (x7 v g)):=by
 obtain⟨n',nm',nd',⟨k',m',M',s',w',e',f'⟩,d'⟩:=g
 have h52:=HE v nm' hv hk h
 simp only[x7]
 generalize v.fields.find? (jN nm')=o at h52 ⊢
 obtain⟨vk,vn,vs,vt,vl,vf⟩:=v
 simp only[Un] at h52
 refine au.intro QK.2 (by simp[QK]) ?_
 cases o with
 | none=>
   simp only[vlR,Option.map_none,Option.getD_none,Option.isSome_none,Option.isNone_none,JO,Un] at h52 ⊢
   by_cases hnd:nd'=2
   ·simp(disch:=try exact dI) only[QK,Un,Ue,Ul,aw,push_cast,seval]
    refine ae.pure h52 rfl ?_
    simp(disch:=try exact dI) only[hnd,push_cast,seval]
   ·simp(disch:=try exact dI) only[QK,Un,Ue,Ul,aw,push_cast,seval]
    refine ae.pure h52 rfl ?_
    simp(disch:=try exact dI) only[hnd,push_cast,seval]
 | some x=>
   obtain⟨xn,⟨xk,xi,xs,xt,xl,xf⟩⟩:=x
   simp only[vlR,UD,Vg,Option.isSome_some,Option.isNone_some,Fld.value,Un] at h52 ⊢
   simp(disch:=try exact dI) only[QK,Un,Ue,Ul,aw,push_cast,seval]
   refine ae.pure h52 rfl ?_
   exact qsZ
def Hm (p:Typ->Bool):List Typ->Bool
 | []=>false
 | x::_=>p x
def C9 (p:Val->Bool):List Val->Bool
 | []=>false
 | x::_=>p x
def QX (p:Typ->Val->Bool)(l:List Val):Option TFd->Bool
 | none=>false
 | some g=>C9 (p g.typ) l
def NB (p:Typ->Val->Bool)(v:Val):Option TFd->Bool
 | none=>false
 | some g=>p g.typ v
def TK (t:Typ)(v:Val):Bool:=inB v.num t.min t.max&&decide (v.scale=t.scale)
def TH (t:Typ)(v:Val):Bool:=if 0<t.words.length then t.words.any fun x=>decide (x=v.text) else inB v.text.length t.min t.max
def Jo (p:Typ->Val->Bool)(t:Typ)(v:Val):Bool:=
 if t.kind=2\/t.kind=6\/t.kind=7\/t.kind=3 then TK t v else if t.kind=4 then TH t v else if t.kind=5 then inB v.text.length t.min t.max
 else if t.kind=8 then inB v.lst.length t.min t.max&&!(v.lst.any fun x=>!(Hm (fun e=>p e x) t.elem)) else if t.kind=10 then QX p v.lst (dd t v.text)
 else if t.kind=9 then (v.fields.all fun x=>NB p x.value (dd t x.name))&&!(t.fields.any (x7 v)) else true
def e7:Nat->Typ->Val->Bool
 | 0,_,_=>false
 | n+1,t,v=>decide (v.kind=t.kind)&&Jo (e7 n) t v
def Dd:Nat->Typ->Val->Prop
 | 0,_,_=>False
 | n+1,t,v=>(∃ N,bS N t)/\(1<=t.kind/\t.kind<=10)/\t.words.length<=9000000000000/\v.ok/\v.lst.length<=9000000000000/\v.fields.length<=9000000000000/\(v.kind=t.kind ->
   (t.kind=2\/t.kind=6\/t.kind=7->v.scale=t.scale)/\(t.kind=8->∀ y∈v.lst,∃ x r,t.elem=x::r/\Dd n x y)/\(t.kind=10->∀ g,dd t v.text=some g->∃ y r,v.lst=y::r/\Dd n g.typ y)/\(t.kind=9->∀ x∈v.fields,∀ g,dd t x.name=some g->Dd n g.typ x.value))
def rG (n:Nat):Prop:=∀ t v,Dd n t v->au Tryz.prog aH 199 [t.pv,v.pv] (.bool (e7 n t v))
theorem De (n:Nat)(t:Typ)(v:Val)(h:¬ v.kind=t.kind):au Tryz.prog aH 199 [t.pv,v.pv] (.bool (e7 (n+1) t v)):=by
 rw[show e7 (n+1) t v=false by simp[e7,h]]
 obtain⟨k,m,M,s,w,e,f⟩:=t
 obtain⟨vk,vn,vs,vt,vl,vf⟩:=v
 simp only[Val.kind,Typ.kind] at h
 refine au.intro g8.2 (by simp[g8]) ?_
 simp(disch:=try exact dI) only[g8,Ul,Un,push_cast,seval]
theorem yh (n:Nat)(k m M s:Int)(w:List (List UInt8))(e:List Typ)(f:List TFd)(vn vs:Int)(vt:List UInt8)(vl:List Val)(vf:List Fld)(hk:k=2\/k=6\/k=7\/k=3):au Tryz.prog aH 199 [(Typ.mk k m M s w e f).pv,(Val.mk k vn vs vt vl vf).pv] (.bool (e7 (n+1) (.mk k m M s w e f) (.mk k vn vs vt vl vf))):=by
 have hi:=qL vn m M
 rw[show e7 (n+1) (.mk k m M s w e f) (.mk k vn vs vt vl vf)=(inB vn m M&&decide (vs=s)) by simp[e7,Jo,Typ.kind,Val.kind,hk,TK,Val.num,Typ.min,Typ.max,Val.scale,Typ.scale];rfl]
 generalize inB vn m M=b at hi ⊢
 by_cases hs:vs=s
 ·rcases hk with rfl | rfl | rfl | rfl
  all_goals
   refine au.intro g8.2 (by simp[g8]) ?_
   simp(disch:=try exact dI) only[g8,Ul,Un,push_cast,seval]
   refine ae.pure hi rfl ?_
   cases b with
   | false=>simp(disch:=try exact dI) only[push_cast,seval]
   | true=>simp(disch:=try exact dI) only[hs,push_cast,seval]
 ·rcases hk with rfl | rfl | rfl | rfl
  all_goals
   refine au.intro g8.2 (by simp[g8]) ?_
   simp(disch:=try exact dI) only[g8,Ul,Un,push_cast,seval]
   refine ae.pure hi rfl ?_
   cases b with
   | false=>simp(disch:=try exact dI) only[push_cast,seval]
   | true=>simp(disch:=try exact dI) only[hs,push_cast,seval]
theorem Hs (n:Nat)(m M s:Int)(w:List (List UInt8))(e:List Typ)(f:List TFd)(vn vs:Int)(vt:List UInt8)(vl:List Val)(vf:List Fld)(hw:w.length<=9000000000000):au Tryz.prog aH 199 [(Typ.mk 4 m M s w e f).pv,(Val.mk 4 vn vs vt vl vf).pv] (.bool (e7 (n+1) (.mk 4 m M s w e f) (.mk 4 vn vs vt vl vf))):=by
 have hi:=qL vt.length m M
 have hc:=yF w vt hw
 rw[show e7 (n+1) (.mk 4 m M s w e f) (.mk 4 vn vs vt vl vf)=if 0<w.length then w.any (fun x=>decide (x=vt)) else inB vt.length m M by simp[e7,Jo,Typ.kind,Val.kind,TH,Val.text,Typ.min,Typ.max,Typ.words];rfl]
 refine au.intro g8.2 (by simp[g8]) ?_
 by_cases h0:0<w.length
 ·have h0I:(0:Int)<(w.length:Int):=by omega
  rw[if_pos h0]
  generalize w.any (fun x=>decide (x=vt))=b at hc ⊢
  simp(disch:=try exact dI) only[g8,Ul,Un,push_cast,seval]
  refine ae.pure hc rfl ?_
  exact qsZ
 ·have h0I:¬ (0:Int)<(w.length:Int):=by omega
  rw[if_neg h0]
  generalize inB vt.length m M=b at hi ⊢
  simp(disch:=try exact dI) only[g8,Ul,Un,push_cast,seval]
  refine ae.pure hi rfl ?_
  exact qsZ
theorem Hr (n:Nat)(m M s:Int)(w:List (List UInt8))(e:List Typ)(f:List TFd)(vn vs:Int)(vt:List UInt8)(vl:List Val)(vf:List Fld):au Tryz.prog aH 199 [(Typ.mk 5 m M s w e f).pv,(Val.mk 5 vn vs vt vl vf).pv] (.bool (e7 (n+1) (.mk 5 m M s w e f) (.mk 5 vn vs vt vl vf))):=by
 have hi:=qL vt.length m M
 rw[show e7 (n+1) (.mk 5 m M s w e f) (.mk 5 vn vs vt vl vf)=inB vt.length m M by simp[e7,Jo,Typ.kind,Val.kind,Val.text,Typ.min,Typ.max]]
 generalize inB vt.length m M=b at hi ⊢
 refine au.intro g8.2 (by simp[g8]) ?_
 simp(disch:=try exact dI) only[g8,Ul,Un,push_cast,seval]
 refine ae.pure hi rfl ?_
 exact qsZ
theorem Qa (n:Nat)(ih:rG n)(m M s:Int)(w:List (List UInt8))(x:Typ)(r:List Typ)(f:List TFd)(y:Val)(h:Dd n x y):au Tryz.prog aH 229 [y.pv,.eptr [(Typ.mk 8 m M s w (x::r) f).pv] 0 0] (.bool (!e7 n x y)):=by
 have hc:=ih x y h
 generalize e7 n x y=b at hc ⊢
 obtain⟨k',m',M',s',w',e',f'⟩:=x
 obtain⟨vk,vn,vs,vt,vl,vf⟩:=y
 simp only[Ul,Un] at hc
 refine au.intro S1.2 (by simp[S1]) ?_
 simp(disch:=try exact dI) only[S1,Ul,Un,aL,push_cast,seval]
 refine ae.pure hc rfl ?_
 exact qsZ
theorem Hq (n:Nat)(ih:rG n)(m M s:Int)(w:List (List UInt8))(e:List Typ)(f:List TFd)(vn vs:Int)(vt:List UInt8)(vl:List Val)(vf:List Fld)(hl:vl.length<=9000000000000)(h:∀ y∈vl,∃ x r,e=x::r/\Dd n x y):au Tryz.prog aH 199 [(Typ.mk 8 m M s w e f).pv,(Val.mk 8 vn vs vt vl vf).pv] (.bool (e7 (n+1) (.mk 8 m M s w e f) (.mk 8 vn vs vt vl vf))):=by
 have hi:=qL vl.length m M
 have hc:=tC vl 229 [.eptr [(Typ.mk 8 m M s w e f).pv] 0 0] (fun x=>!(Hm (fun e=>e7 n e x) e)) (fun y hy=>by
  obtain⟨x,r,rfl,hx⟩:=h y hy
  exact Qa n ih m M s w x r f y hx) hl
 rw[show e7 (n+1) (.mk 8 m M s w e f) (.mk 8 vn vs vt vl vf)=(inB vl.length m M&&!(vl.any (fun x=>!(Hm (fun e=>e7 n e x) e)))) by simp[e7,Jo,Typ.kind,Val.kind,Val.lst,Typ.min,Typ.max,Typ.elem]]
 generalize inB vl.length m M=b at hi ⊢
 generalize vl.any (fun x=>!(Hm (fun e=>e7 n e x) e))=q at hc ⊢
 simp only[Ul] at hc
 refine au.intro g8.2 (by simp[g8]) ?_
 simp(disch:=try exact dI) only[g8,Ul,Un,push_cast,seval]
 refine ae.pure hi rfl ?_
 cases b with
 | false=>simp(disch:=try exact dI) only[push_cast,seval]
 | true=>
   refine zgZ ?_
   refine ae.pure hc rfl ?_
   exact qsZ
