/- A part of the proof. -/
import Derived.Test.YtbaaokocnegdoaaGreatDoorAgVS5
set_option linter.unusedVariables false
set_option linter.unusedSimpArgs false
set_option maxHeartbeats 16000000
set_option maxRecDepth 100000
namespace Go.Proofs.YtbaaokocnegdoaaGreatDoor
open Go Go.Ab
attribute [local irreducible] vc
def dW:Nat->Typ->Int
 | 0,_=>0
 | n+1,.mk k m M s w e f=>f.foldl (fun a g=>max a (dW n g.typ)) (e.foldl (fun a x=>max a (dW n x)) (cy 9 (.mk k m M s w e f)))
def QX:Nat->Typ->Prop
 | 0,_=>False
 | n+1,.mk k m M s w e f=>eJ 9 (.mk k m M s w e f)/\e.length<=1000000000/\f.length<=1000000000/\(∀ x∈e,QX n x)/\∀ g∈f,QX n g.typ
theorem m6 {α β:Type}{p:β->α->β}{l:List α}{i:Nat}{x:α}(h:l[i]? = some x)(b:β):(l.take (i+1)).foldl p b=p ((l.take i).foldl p b) x:=by rw[aG h,List.foldl_append];rfl
theorem fS:∀ (n:Nat) (t:Typ),QX n t->ae Tryz.prog au 95 [t.pv] (.int .i64 (dW n t))
 | 0,_,h=>h.elim
 | n+1,.mk k m M s w e f,h=>by
   have ih:=fS n
   simp only[QX] at h
   obtain⟨h1,hel,hfl,he,hf⟩:=h
   have hle:=jn 9 _ h1
   simp only[dW]
   generalize cy 9 (.mk k m M s w e f)=z at *
   simp only[Typ.pv_mk] at hle
   obtain⟨Q,hQ⟩:∃ Q,Q=fun (a:Int) (x:Typ)=>max a (dW n x):=⟨_,rfl⟩
   obtain⟨R,hR⟩:∃ R,R=fun (a:Int) (x:TFd)=>max a (dW n x.typ):=⟨_,rfl⟩
   rw[<- hQ,<- hR]
   refine ae.intro Q95.2 (by simp[Q95]) ?_
   simp(disch:=try exact dI) only[Q95,Typ.pv_mk,push_cast,seval]
   refine ab.pure hle rfl ?_
   refine zgZ ?_
   refine aC ([]) (fun i:Nat=>[(3,.pv (.int .i64 ((e.take i).foldl Q z))),(13,.pv (.int .i64 (i:Int)))]) (fun _=>[]) (fun i=>i<=e.length) (fun i=>e.length - i) (0) ?_;intro e0 σ0 n0 h0;simp(disch:=try exact dI) only[push_cast,seval] at h0;obtain⟨rfl,rfl,rfl⟩:=h0;refine⟨?_,?_,?_⟩
   ·simp(disch:=try exact dI) only[List.take_zero,List.foldl_nil,push_cast,seval]
   ·omega
   rintro i hi
   by_cases hlt:i<e.length
   ·have hltI:(i:Int)<(e.length:Int):=by omega
    obtain⟨x,hx⟩:∃ x,e[i]? = some x:=⟨_,List.getElem?_eq_getElem hlt⟩
    have hc:=ih x (he x (List.mem_of_getElem? hx))
    have hst:=m6 (p:=Q) hx z
    rw[show Q ((e.take i).foldl Q z) x=max ((e.take i).foldl Q z) (dW n x) by rw[hQ]] at hst
    generalize dW n x=y at hc hst
    obtain⟨k',m',M',s',w',e',f'⟩:=x
    simp only[Typ.pv_mk] at hc
    simp(disch:=try exact dI) only[hx,Option.map_some,Typ.pv_mk,ak,push_cast,seval]
    refine ab.pure hc rfl ?_
    refine zgZ ?_
    exact⟨i+1,aR (by simp(disch:=try exact dI) only[hst,push_cast,seval]),by omega,by omega⟩
   obtain rfl:i=e.length:=by omega
   clear hi hlt
   rw[List.take_length]
   generalize e.foldl Q z=z2
   simp(disch:=try exact dI) only[Int.lt_irrefl,push_cast,seval]
   refine aC ([]) (fun i:Nat=>[(3,.pv (.int .i64 ((f.take i).foldl R z2))),(25,.pv (.int .i64 (i:Int)))]) (fun _=>[]) (fun i=>i<=f.length) (fun i=>f.length - i) (0) ?_;intro e0 σ0 n0 h0;simp(disch:=try exact dI) only[push_cast,seval] at h0;obtain⟨rfl,rfl,rfl⟩:=h0;refine⟨?_,?_,?_⟩
   ·simp(disch:=try exact dI) only[List.take_zero,List.foldl_nil,push_cast,seval]
   ·omega
   rintro i hi
   by_cases hlt:i<f.length
   ·have hltI:(i:Int)<(f.length:Int):=by omega
    obtain⟨x,hx⟩:∃ x,f[i]? = some x:=⟨_,List.getElem?_eq_getElem hlt⟩
    have hc:=ih x.typ (hf x (List.mem_of_getElem? hx))
    have hst:=m6 (p:=R) hx z2
    rw[show R ((f.take i).foldl R z2) x=max ((f.take i).foldl R z2) (dW n x.typ) by rw[hR]] at hst
    generalize dW n x.typ=y at hc hst
    obtain⟨n',nm',nd',⟨k',m',M',s',w',e',f'⟩,d'⟩:=x
    simp only[TFd.typ,Typ.pv_mk] at hc
    simp(disch:=try exact dI) only[hx,Option.map_some,Typ.pv_mk,TFd.pv_mk,ak,push_cast,seval]
    refine ab.pure hc rfl ?_
    refine zgZ ?_
    exact⟨i+1,aR (by simp(disch:=try exact dI) only[hst,push_cast,seval]),by omega,by omega⟩
   obtain rfl:i=f.length:=by omega
   clear hi hlt
   rw[List.take_length]
   simp(disch:=try exact dI) only[Int.lt_irrefl,push_cast,seval]
theorem IZ (w:List (List UInt8))(hw:w.length<=1000000000):ae Tryz.prog au 297 [.list (w.map PV.str)] (.list (w.map PV.str)):=by
 refine ae.intro RD.2 (by simp[RD]) ?_
 cases w with
 | nil=>
   simp(disch:=try exact dI) only[RD,push_cast,seval]
   intro b
   cases b<;>simp(disch:=try exact dI) only[push_cast,seval]
 | cons x r=>
   rw[List.length_cons] at hw
   simp(disch:=try exact dI) only[RD,push_cast,seval]
theorem vS (n:Int)(nm:List UInt8)(nd k m M s:Int)(w:List (List UInt8))(e:List Typ)(f:List TFd)(d:List Val)(hT:ae Tryz.prog au 296 [(Typ.mk k m M s w e f).pv] (Typ.mk k m M s w e f).pv)(hd:d.length<=1000000000)(hv:∀ v∈d,v.ok) :
  ae Tryz.prog au 295 [(TFd.mk n nm nd (Typ.mk k m M s w e f) d).pv] (TFd.mk n nm nd (Typ.mk k m M s w e f) d).pv:=by
 simp only[Typ.pv_mk] at hT
 refine ae.intro Ta.2 (by simp[Ta]) ?_
 simp(disch:=try exact dI) only[Ta,TFd.pv_mk,Typ.pv_mk,ak,push_cast,seval]
 refine ab.pure hT rfl ?_
 refine zgZ ?_
 refine aC ([]) (fun i:Nat=>[(17,.pv (.int .i64 (i:Int))),(3,.olist 2 6 ((d.take i).map Val.pv))]) (fun _=>[]) (fun i=>i<=d.length) (fun i=>d.length - i) (0) ?_;intro e0 σ0 n0 h0;simp(disch:=try exact dI) only[push_cast,seval] at h0;obtain⟨rfl,rfl,rfl⟩:=h0;refine⟨?_,?_,?_⟩
 ·exact qsZ
 ·omega
 intro i hi
 by_cases hlt:i<d.length
 ·have hltI:(i:Int)<(d.length:Int):=by omega
  obtain⟨x,hx⟩:∃ x,d[i]? = some x:=⟨_,List.getElem?_eq_getElem hlt⟩
  have hc:=g7 _ x (Nat.lt_succ_self _) (hv x (List.mem_of_getElem? hx))
  have hts:=aG hx
  have hlt2:(d.take i).length=i:=by rw[List.length_take];omega
  obtain⟨vk,vn,vs,vt,vl,vf⟩:=x
  simp only[Val.pv_mk] at hc
  simp(disch:=try exact dI) only[hx,Option.map_some,Val.pv_mk,push_cast,seval]
  refine ab.pure hc rfl ?_
  simp(disch:=try exact dI) only[hlt2,push_cast,seval]
  exact⟨i+1,aR (by simp(disch:=try exact dI) only[hts,List.map_append,Val.pv_mk,push_cast,seval]),by omega,by omega⟩
 ·obtain rfl:i=d.length:=by omega
  simp(disch:=try exact dI) only[List.take_length,Int.lt_irrefl,push_cast,seval]
def cQ:Nat->Typ->Prop
 | 0,_=>False
 | n+1,.mk k m M s w e f=>w.length<=1000000000/\e.length<=1000000000/\f.length<=1000000000/\(∀ x∈e,cQ n x)/\∀ g∈f,g.dflt.length<=1000000000/\(∀ v∈g.dflt,v.ok)/\cQ n g.typ
theorem vR:∀ (n:Nat) (t:Typ),cQ n t->ae Tryz.prog au 296 [t.pv] t.pv
 | 0,_,h=>h.elim
 | n+1,.mk k m M s w e f,h=>by
   have ih:=vR n
   simp only[cQ] at h
   obtain⟨hw,hel,hfl,he,hf⟩:=h
   have h297:=IZ w hw
   refine ae.intro S9.2 (by simp[S9]) ?_
   simp(disch:=try exact dI) only[S9,Typ.pv_mk,push_cast,seval]
   refine aC ([]) (fun i:Nat=>[(16,.pv (.int .i64 (i:Int))),(3,.olist 2 7 ((e.take i).map Typ.pv))]) (fun _=>[]) (fun i=>i<=e.length) (fun i=>e.length - i) (0) ?_;intro e0 σ0 n0 h0;simp(disch:=try exact dI) only[push_cast,seval] at h0;obtain⟨rfl,rfl,rfl⟩:=h0;refine⟨?_,?_,?_⟩
   ·exact qsZ
   ·omega
   intro i hi
   by_cases hlt:i<e.length
   ·have hltI:(i:Int)<(e.length:Int):=by omega
    obtain⟨x,hx⟩:∃ x,e[i]? = some x:=⟨_,List.getElem?_eq_getElem hlt⟩
    have hc:=ih x (he x (List.mem_of_getElem? hx))
    have hts:=aG hx
    have hlt2:(e.take i).length=i:=by rw[List.length_take];omega
    obtain⟨k',m',M',s',w',e',f'⟩:=x
    simp only[Typ.pv_mk] at hc
    simp(disch:=try exact dI) only[hx,Option.map_some,Typ.pv_mk,ak,push_cast,seval]
    refine ab.pure hc rfl ?_
    simp(disch:=try exact dI) only[hlt2,push_cast,seval]
    exact⟨i+1,aR (by simp(disch:=try exact dI) only[hts,List.map_append,Typ.pv_mk,push_cast,seval]),by omega,by omega⟩
   obtain rfl:i=e.length:=by omega
   clear hi hlt
   simp(disch:=try exact dI) only[List.take_length,Int.lt_irrefl,push_cast,seval]
   refine aC ([]) (fun i:Nat=>[(33,.pv (.int .i64 (i:Int))),(6,.olist 3 11 ((f.take i).map TFd.pv))]) (fun _=>[]) (fun i=>i<=f.length) (fun i=>f.length - i) (0) ?_;intro e0 σ0 n0 h0;simp(disch:=try exact dI) only[push_cast,seval] at h0;obtain⟨rfl,rfl,rfl⟩:=h0;refine⟨?_,?_,?_⟩
   ·exact qsZ
   ·omega
   intro i hi
   by_cases hlt:i<f.length
   ·have hltI:(i:Int)<(f.length:Int):=by omega
    obtain⟨x,hx⟩:∃ x,f[i]? = some x:=⟨_,List.getElem?_eq_getElem hlt⟩
    obtain⟨hdl,hdv,hds⟩:=hf x (List.mem_of_getElem? hx)
    have hts:=aG hx
    have hlt2:(f.take i).length=i:=by rw[List.length_take];omega
    obtain⟨n',nm',nd',⟨k',m',M',s',w',e',f'⟩,d'⟩:=x
    have hc:=vS n' nm' nd' k' m' M' s' w' e' f' d' (ih _ hds) hdl hdv
    simp only[TFd.pv_mk,Typ.pv_mk,ak] at hc
    simp(disch:=try exact dI) only[hx,Option.map_some,TFd.pv_mk,Typ.pv_mk,ak,push_cast,seval]
    refine ab.pure hc rfl ?_
    simp(disch:=try exact dI) only[hlt2,push_cast,seval]
    exact⟨i+1,aR (by simp(disch:=try exact dI) only[hts,List.map_append,TFd.pv_mk,Typ.pv_mk,ak,push_cast,seval]),by omega,by omega⟩
   obtain rfl:i=f.length:=by omega
   clear hi hlt
   simp(disch:=try exact dI) only[List.take_length,Int.lt_irrefl,push_cast,seval]
   refine ab.pure h297 rfl ?_
   exact qsZ
theorem Qo (x:TFd)(name:List UInt8):ae Tryz.prog au 285 [x.pv,.eptr [.str name] 0 0] (.bool (named name x)):=by
 obtain⟨a,b,c,⟨k,m,n,s,w,e,fs⟩,d⟩:=x
 refine ae.intro Tb.2 (by simp[Tb]) ?_
 simp(disch:=try exact dI) only[Tb,TFd.pv_mk,Typ.pv_mk,named,TFd.name,push_cast,seval]
 exact decide_eq_decide.2 Iff.rfl
theorem oZ {n:Nat}{k m M s:Int}{w:List (List UInt8)}{e:List Typ}{f:List TFd}(h:cQ (n+1) (.mk k m M s w e f)){x:TFd}(hx:x∈f):ae Tryz.prog au 295 [x.pv] x.pv:=by
 simp only[cQ] at h
 obtain⟨h1,h2,h3⟩:=h.2.2.2.2 x hx
 obtain⟨n',nm',nd',⟨k',m',M',s',w',e',f'⟩,d'⟩:=x
 exact vS _ _ _ _ _ _ _ _ _ _ _ (vR n _ h3) h1 h2
def cq (t:Typ)(name:List UInt8):Option TFd:=if t.kind=9\/t.kind=10 then t.fields.find? (named name) else none
theorem Na (n:Nat)(t:Typ)(name:List UInt8)(h:cQ n t):ae Tryz.prog au 284 [t.pv,.clo 285 [] [.eptr [.str name] 0 0]] (tfR (cq t name)):=by
 cases n with
 | zero=>exact h.elim
 | succ n=>
 obtain⟨k,m,M,s,w,e,f⟩:=t
 have hcl:=fun x hx=>oZ h (x:=x) hx
 have hfl:f.length<=1000000000:=by simp only[cQ] at h;exact h.2.2.1
 clear h
 have h147:=tv f 285 [.eptr [.str name] 0 0] (named name) (fun x _=>Qo x name) (by omega)
 refine ae.intro Ra.2 (by simp[Ra]) ?_
 by_cases hk:k=9\/k=10
 ·rw[show cq (.mk k m M s w e f) name=f.find? (named name) from if_pos hk]
  rcases cG (p:=named name) f 0 with ⟨h1,h2⟩ | ⟨i,x,h1,h2,h3⟩
  ·rw[h1]
   rw[h2] at h147
   rcases hk with rfl | rfl
   all_goals
    simp(disch:=try exact dI) only[Ra,Typ.pv_mk,push_cast,seval]
    refine ab.pure h147 rfl ?_
    simp(disch:=try exact dI) only[tfR,Option.getD_none,Option.isSome_none,fO,TFd.pv_mk,Typ.pv_mk,ak,push_cast,seval]
  ·rw[h2]
   rw[h3,Nat.zero_add] at h147
   have hc:=hcl x (List.mem_of_getElem? h1)
   obtain⟨x1,x2,x3,⟨y1,y2,y3,y4,y5,y6,y7⟩,x5⟩:=x
   simp only[TFd.pv_mk,Typ.pv_mk,ak] at hc
   have hi:¬ (i:Int)<0:=by omega
   rcases hk with rfl | rfl
   all_goals
    simp(disch:=try exact dI) only[Ra,Typ.pv_mk,push_cast,seval]
    refine ab.pure h147 rfl ?_
    simp(disch:=try exact dI) only[h1,Option.map_some,TFd.pv_mk,Typ.pv_mk,ak,push_cast,seval]
    refine ab.pure hc rfl ?_
    simp(disch:=try exact dI) only[tfR,Option.getD_some,Option.isSome_some,TFd.pv_mk,Typ.pv_mk,ak,push_cast,seval]
 ·rw[show cq (.mk k m M s w e f) name=none from if_neg hk]
  have h9:¬ k=9:=by omega
  have h10:¬ k=10:=by omega
  simp(disch:=try exact dI) only[Ra,Typ.pv_mk,tfR,Option.getD_none,Option.isSome_none,fO,TFd.pv_mk,ak,push_cast,seval]
theorem vK (n:Nat)(t:Typ)(name:List UInt8)(h:cQ n t):ae Tryz.prog au 247 [t.pv,.str name] (tfR (cq t name)):=by
 have hf:=Na n t name h
 generalize cq t name=o at hf ⊢
 obtain⟨k,m,M,s,w,e,f⟩:=t
 simp only[Typ.pv_mk] at hf
 refine ae.intro RF.2 (by simp[RF]) ?_
 cases o with
 | none=>
   simp only[tfR,Option.getD_none,Option.isSome_none,fO,TFd.pv_mk,Typ.pv_mk,ak] at hf ⊢
   simp(disch:=try exact dI) only[RF,Typ.pv_mk,push_cast,seval]
   refine ab.pure hf rfl ?_
   exact qsZ
 | some x=>
   obtain⟨x1,x2,x3,⟨y1,y2,y3,y4,y5,y6,y7⟩,x5⟩:=x
   simp only[tfR,Option.getD_some,Option.isSome_some,TFd.pv_mk,Typ.pv_mk,ak] at hf ⊢
   simp(disch:=try exact dI) only[RF,Typ.pv_mk,push_cast,seval]
   refine ab.pure hf rfl ?_
   exact qsZ
theorem Ig (l:List Val)(g:Nat)(cs:List PV)(q:Val->Bool)(hq:∀ x∈l,ae Tryz.prog au g (x.pv::cs) (.bool (q x)))(hl:l.length<=1000000000) :
  ae Tryz.prog au 283 [.list (l.map Val.pv),.clo g [] cs] (.int .i64 (gq q l 0)):=by
 refine ae.intro Tc.2 (by simp[Tc]) ?_
 simp(disch:=try exact dI) only[Tc,push_cast,seval]
 refine aC ([]) (fun m:Nat=>[(8,.pv (.int .i64 (m:Int)))]) (fun m=>[]) (fun m=>m<=l.length/\gq q l 0=gq q (l.drop m) m) (fun m=>l.length - m) (0) ?_;intro e0 σ0 n0 h0;simp(disch:=try exact dI) only[push_cast,seval] at h0;obtain⟨rfl,rfl,rfl⟩:=h0;refine⟨?_,?_,?_⟩
 ·exact qsZ
 ·exact⟨by omega,by simp⟩
 ·rintro m ⟨hm,he⟩
  by_cases hlt:m<l.length
  ·have hltI:(m:Int)<l.length:=by omega
   obtain⟨x,hx⟩:∃ x,l[m]? = some x:=⟨_,List.getElem?_eq_getElem hlt⟩
   have hcall:=hq x (List.mem_of_getElem? hx)
   have hcl:x.pv.cells.length=6:=by cases x;rw[Val.pv_mk];rfl
   have hag:x.pv.isAgg=true:=by cases x;rw[Val.pv_mk];rfl
   simp(disch:=try exact dI) only[hx,hcl,hag,push_cast,seval]
   refine ab.pure hcall (by exact pA (x.pv::cs)) ?_
   cases hqx:q x with
   | true=>
     rw[he,iR hx hqx]
     exact qsZ
   | false=>
     rw[fB hx hqx] at he
     refine zgZ ?_
     exact⟨m+1,aR qsZ,⟨by omega,he⟩,by omega⟩
  ·have hltI:¬ (m:Int)<l.length:=by omega
   rw[he,iS hlt]
   exact qsZ
theorem tQ (l:List Val)(g:Nat)(cs:List PV)(q:Val->Bool)(hq:∀ x∈l,ae Tryz.prog au g (x.pv::cs) (.bool (q x)))(hl:l.length<=1000000000) :
  ae Tryz.prog au 245 [.list (l.map Val.pv),.clo g [] cs] (.bool (l.any q)):=by
 have h94:=Ig l g cs q hq hl
 have hfa:=gV (p:=q) l
 refine ae.intro RG.2 (by simp[RG]) ?_
 rcases cG (p:=q) l 0 with ⟨h1,h2⟩ | ⟨k,x,h1,h2,h3⟩
 ·rw[h2] at h94
  rw[h1] at hfa
  rw[<- hfa]
  simp(disch:=try exact dI) only[RG,push_cast,seval]
  refine ab.pure h94 rfl ?_
  refine zgZ ?_
  exact .refl _
 ·rw[h3] at h94
  rw[h2] at hfa
  rw[<- hfa]
  have hk:(0:Int)<=((0+k:Nat):Int):=by omega
  generalize ((0+k:Nat):Int)=z at *
  simp(disch:=try exact dI) only[RG,push_cast,seval]
  refine ab.pure h94 rfl ?_
  refine zgZ ?_
  exact .refl _
def yy (v:Val):TFd->Bool
 | .mk _ nm nd _ _=>(v.fields.find? (aU nm)).isNone&&!decide (nd=2)
theorem Qp (v:Val)(g:TFd)(hv:v.ok)(hk:v.kind=9)(h:v.fields.length<=1000000):ae Tryz.prog au 248 [g.pv,.eptr [v.pv] 0 0] (.bool (yy v g)):=by
 obtain⟨n',nm',nd',⟨k',m',M',s',w',e',f'⟩,d'⟩:=g
 have h52:=oh v nm' hv hk h
 simp only[yy]
 generalize v.fields.find? (aU nm')=o at h52 ⊢
 obtain⟨vk,vn,vs,vt,vl,vf⟩:=v
 simp only[Val.pv_mk] at h52
 refine ae.intro Re.2 (by simp[Re]) ?_
 cases o with
 | none=>
   simp only[vlR,Option.map_none,Option.getD_none,Option.isSome_none,Option.isNone_none,aJ,Val.pv_mk] at h52 ⊢
   by_cases hnd:nd'=2
   ·simp(disch:=try exact dI) only[Re,Val.pv_mk,TFd.pv_mk,Typ.pv_mk,ak,push_cast,seval]
    refine ab.pure h52 rfl ?_
    simp(disch:=try exact dI) only[hnd,push_cast,seval]
   ·simp(disch:=try exact dI) only[Re,Val.pv_mk,TFd.pv_mk,Typ.pv_mk,ak,push_cast,seval]
    refine ab.pure h52 rfl ?_
    simp(disch:=try exact dI) only[hnd,push_cast,seval]
 | some x=>
   obtain⟨xn,⟨xk,xi,xs,xt,xl,xf⟩⟩:=x
   simp only[vlR,Option.map_some,Option.getD_some,Option.isSome_some,Option.isNone_some,Fld.value,Val.pv_mk] at h52 ⊢
   simp(disch:=try exact dI) only[Re,Val.pv_mk,TFd.pv_mk,Typ.pv_mk,ak,push_cast,seval]
   refine ab.pure h52 rfl ?_
   exact qsZ
def Ip (p:Typ->Bool):List Typ->Bool
 | []=>false
 | x::_=>p x
def tw (p:Val->Bool):List Val->Bool
 | []=>false
 | x::_=>p x
def Rr (p:Typ->Val->Bool)(l:List Val):Option TFd->Bool
 | none=>false
 | some g=>tw (p g.typ) l
def N9 (p:Typ->Val->Bool)(v:Val):Option TFd->Bool
 | none=>false
 | some g=>p g.typ v
def Ry (t:Typ)(v:Val):Bool:=inB v.num t.min t.max&&decide (v.scale=t.scale)
def Rt (t:Typ)(v:Val):Bool:=if 0<t.words.length then t.words.any fun x=>decide (x=v.text) else inB v.text.length t.min t.max
def Is (p:Typ->Val->Bool)(t:Typ)(v:Val):Bool:=
 if t.kind=2\/t.kind=6\/t.kind=7\/t.kind=3 then Ry t v else if t.kind=4 then Rt t v else if t.kind=5 then inB v.text.length t.min t.max
 else if t.kind=8 then inB v.lst.length t.min t.max&&!(v.lst.any fun x=>!(Ip (fun e=>p e x) t.elem)) else if t.kind=10 then Rr p v.lst (cq t v.text)
 else if t.kind=9 then (v.fields.all fun x=>N9 p x.value (cq t x.name))&&!(t.fields.any (yy v)) else true
def dV:Nat->Typ->Val->Bool
 | 0,_,_=>false
 | n+1,t,v=>decide (v.kind=t.kind)&&Is (dV n) t v
def DP:Nat->Typ->Val->Prop
 | 0,_,_=>False
 | n+1,t,v=>(∃ N,cQ N t)/\(1<=t.kind/\t.kind<=10)/\t.words.length<=1000000/\v.ok/\v.lst.length<=1000000000/\v.fields.length<=1000000/\(v.kind=t.kind ->
   (t.kind=2\/t.kind=6\/t.kind=7->v.scale=t.scale)/\(t.kind=8->∀ y∈v.lst,∃ x r,t.elem=x::r/\DP n x y)/\(t.kind=10->∀ g,cq t v.text=some g->∃ y r,v.lst=y::r/\DP n g.typ y)/\(t.kind=9->∀ x∈v.fields,∀ g,cq t x.name=some g->DP n g.typ x.value))
def rp (n:Nat):Prop:=∀ t v,DP n t v->ae Tryz.prog au 193 [t.pv,v.pv] (.bool (dV n t v))
theorem DQ (n:Nat)(t:Typ)(v:Val)(h:¬ v.kind=t.kind):ae Tryz.prog au 193 [t.pv,v.pv] (.bool (dV (n+1) t v)):=by
 rw[show dV (n+1) t v=false by simp[dV,h]]
 obtain⟨k,m,M,s,w,e,f⟩:=t
 obtain⟨vk,vn,vs,vt,vl,vf⟩:=v
 simp only[Val.kind,Typ.kind] at h
 refine ae.intro go.2 (by simp[go]) ?_
 simp(disch:=try exact dI) only[go,Typ.pv_mk,Val.pv_mk,push_cast,seval]
theorem yJ (n:Nat)(k m M s:Int)(w:List (List UInt8))(e:List Typ)(f:List TFd)(vn vs:Int)(vt:List UInt8)(vl:List Val)(vf:List Fld)(hk:k=2\/k=6\/k=7\/k=3):ae Tryz.prog au 193 [(Typ.mk k m M s w e f).pv,(Val.mk k vn vs vt vl vf).pv] (.bool (dV (n+1) (.mk k m M s w e f) (.mk k vn vs vt vl vf))):=by
 have hi:=qr vn m M
 rw[show dV (n+1) (.mk k m M s w e f) (.mk k vn vs vt vl vf)=(inB vn m M&&decide (vs=s)) by simp[dV,Is,Typ.kind,Val.kind,hk,Ry,Val.num,Typ.min,Typ.max,Val.scale,Typ.scale];rfl]
 generalize inB vn m M=b at hi ⊢
 by_cases hs:vs=s
 ·rcases hk with rfl | rfl | rfl | rfl
  all_goals
   refine ae.intro go.2 (by simp[go]) ?_
   simp(disch:=try exact dI) only[go,Typ.pv_mk,Val.pv_mk,push_cast,seval]
   refine ab.pure hi rfl ?_
   cases b with
   | false=>simp(disch:=try exact dI) only[push_cast,seval]
   | true=>simp(disch:=try exact dI) only[hs,push_cast,seval]
 ·rcases hk with rfl | rfl | rfl | rfl
  all_goals
   refine ae.intro go.2 (by simp[go]) ?_
   simp(disch:=try exact dI) only[go,Typ.pv_mk,Val.pv_mk,push_cast,seval]
   refine ab.pure hi rfl ?_
   cases b with
   | false=>simp(disch:=try exact dI) only[push_cast,seval]
   | true=>simp(disch:=try exact dI) only[hs,push_cast,seval]
theorem Iw (n:Nat)(m M s:Int)(w:List (List UInt8))(e:List Typ)(f:List TFd)(vn vs:Int)(vt:List UInt8)(vl:List Val)(vf:List Fld)(hw:w.length<=1000000):ae Tryz.prog au 193 [(Typ.mk 4 m M s w e f).pv,(Val.mk 4 vn vs vt vl vf).pv] (.bool (dV (n+1) (.mk 4 m M s w e f) (.mk 4 vn vs vt vl vf))):=by
 have hi:=qr vt.length m M
 have hc:=nl w vt hw
 rw[show dV (n+1) (.mk 4 m M s w e f) (.mk 4 vn vs vt vl vf)=if 0<w.length then w.any (fun x=>decide (x=vt)) else inB vt.length m M by simp[dV,Is,Typ.kind,Val.kind,Rt,Val.text,Typ.min,Typ.max,Typ.words];rfl]
 refine ae.intro go.2 (by simp[go]) ?_
 by_cases h0:0<w.length
 ·have h0I:(0:Int)<(w.length:Int):=by omega
  rw[if_pos h0]
  generalize w.any (fun x=>decide (x=vt))=b at hc ⊢
  simp(disch:=try exact dI) only[go,Typ.pv_mk,Val.pv_mk,push_cast,seval]
  refine ab.pure hc rfl ?_
  exact qsZ
 ·have h0I:¬ (0:Int)<(w.length:Int):=by omega
  rw[if_neg h0]
  generalize inB vt.length m M=b at hi ⊢
  simp(disch:=try exact dI) only[go,Typ.pv_mk,Val.pv_mk,push_cast,seval]
  refine ab.pure hi rfl ?_
  exact qsZ
theorem Iv (n:Nat)(m M s:Int)(w:List (List UInt8))(e:List Typ)(f:List TFd)(vn vs:Int)(vt:List UInt8)(vl:List Val)(vf:List Fld):ae Tryz.prog au 193 [(Typ.mk 5 m M s w e f).pv,(Val.mk 5 vn vs vt vl vf).pv] (.bool (dV (n+1) (.mk 5 m M s w e f) (.mk 5 vn vs vt vl vf))):=by
 have hi:=qr vt.length m M
 rw[show dV (n+1) (.mk 5 m M s w e f) (.mk 5 vn vs vt vl vf)=inB vt.length m M by simp[dV,Is,Typ.kind,Val.kind,Val.text,Typ.min,Typ.max]]
 generalize inB vt.length m M=b at hi ⊢
 refine ae.intro go.2 (by simp[go]) ?_
 simp(disch:=try exact dI) only[go,Typ.pv_mk,Val.pv_mk,push_cast,seval]
 refine ab.pure hi rfl ?_
 exact qsZ
theorem Qq (n:Nat)(ih:rp n)(m M s:Int)(w:List (List UInt8))(x:Typ)(r:List Typ)(f:List TFd)(y:Val)(h:DP n x y):ae Tryz.prog au 246 [y.pv,.eptr [(Typ.mk 8 m M s w (x::r) f).pv] 0 0] (.bool (!dV n x y)):=by
 have hc:=ih x y h
 generalize dV n x y=b at hc ⊢
 obtain⟨k',m',M',s',w',e',f'⟩:=x
 obtain⟨vk,vn,vs,vt,vl,vf⟩:=y
 simp only[Typ.pv_mk,Val.pv_mk] at hc
 refine ae.intro Tn.2 (by simp[Tn]) ?_
 simp(disch:=try exact dI) only[Tn,Typ.pv_mk,Val.pv_mk,aE,push_cast,seval]
 refine ab.pure hc rfl ?_
 exact qsZ
theorem Iu (n:Nat)(ih:rp n)(m M s:Int)(w:List (List UInt8))(e:List Typ)(f:List TFd)(vn vs:Int)(vt:List UInt8)(vl:List Val)(vf:List Fld)(hl:vl.length<=1000000000)(h:∀ y∈vl,∃ x r,e=x::r/\DP n x y):ae Tryz.prog au 193 [(Typ.mk 8 m M s w e f).pv,(Val.mk 8 vn vs vt vl vf).pv] (.bool (dV (n+1) (.mk 8 m M s w e f) (.mk 8 vn vs vt vl vf))):=by
 have hi:=qr vl.length m M
 have hc:=tQ vl 246 [.eptr [(Typ.mk 8 m M s w e f).pv] 0 0] (fun x=>!(Ip (fun e=>dV n e x) e)) (fun y hy=>by
  obtain⟨x,r,rfl,hx⟩:=h y hy
  exact Qq n ih m M s w x r f y hx) hl
 rw[show dV (n+1) (.mk 8 m M s w e f) (.mk 8 vn vs vt vl vf)=(inB vl.length m M&&!(vl.any (fun x=>!(Ip (fun e=>dV n e x) e)))) by simp[dV,Is,Typ.kind,Val.kind,Val.lst,Typ.min,Typ.max,Typ.elem]]
 generalize inB vl.length m M=b at hi ⊢
 generalize vl.any (fun x=>!(Ip (fun e=>dV n e x) e))=q at hc ⊢
 simp only[Typ.pv_mk] at hc
 refine ae.intro go.2 (by simp[go]) ?_
 simp(disch:=try exact dI) only[go,Typ.pv_mk,Val.pv_mk,push_cast,seval]
 refine ab.pure hi rfl ?_
 cases b with
 | false=>simp(disch:=try exact dI) only[push_cast,seval]
 | true=>
   refine zgZ ?_
   refine ab.pure hc rfl ?_
   exact qsZ
end Go.Proofs.YtbaaokocnegdoaaGreatDoor
