/- A part of the proof for FixedwidthRepresentableCardSaid. -/
import Derived.Test.YtbojpfpliibfbaaGreatDoorReRS6
import Derived.Test.YtbojpfpliibfbaaGreatDoorReF
import Derived.Test.YtbojpfpliibfbaaGreatDoorReRWC
set_option maxRecDepth 100000
set_option linter.unusedVariables false
set_option linter.unusedSimpArgs false
-- many steps
namespace Go.Proofs.YtbojpfpliibfbaaGreatDoor
open Go Go.Ab
attribute [local irreducible] vc
theorem Cc (w:List (List UInt8))(hw:w.length*16≤140737488351232):ag Tryz.prog aD 322 [.list (w.map PV.str)] (.list (w.map PV.str)):=by
 refine ag.intro Gq (by simp[Lq]) ?_
 cases w with
 | nil=>
   simp(maxSteps:=9^7) (disch:=try exact dI) only[Lq,push_cast,seval]
   intro b
   cases b<;>simp(maxSteps:=9^7) (disch:=try exact dI) only[push_cast,seval]
 | cons x r=>
   rw[List.length_cons] at hw
   simp(maxSteps:=9^7) (disch:=try exact dI) only[Lq,push_cast,seval]
set_option maxHeartbeats 4000000 in
theorem pA (n:Int)(nm:List UInt8)(nd k m M s:Int)(w:List (List UInt8))(e:List Typ)(f:List TFd)(d:List Val)(hT:ag Tryz.prog aD 318 [(Typ.mk k m M s w e f).pv] (Typ.mk k m M s w e f).pv)(hd:d.length*88≤140737488351232)(hv:∀ v∈d,v.ok) :
  ag Tryz.prog aD 311 [(TFd.mk n nm nd (Typ.mk k m M s w e f) d).pv] (TFd.mk n nm nd (Typ.mk k m M s w e f) d).pv:=by
 simp only[Typ.pv_mk] at hT
 refine ag.intro Gs (by simp[MO]) ?_
 simp(maxSteps:=9^7) (disch:=try exact dI) only[MO,TFd.pv_mk,Typ.pv_mk,ae,push_cast,seval]
 refine ab.pure hT rfl ?_
 simp(maxSteps:=9^7) (disch:=try exact dI) only[push_cast,seval]
 refine aw ([]) (fun i:Nat=>[(17,.pv (.int .i64 (i:Int))),(3,.olist 2 6 ((d.take i).map Val.pv))]) (fun _=>[]) (fun i=>i≤d.length) (fun i=>d.length - i) (0) ?_;intro e0 σ0 n0 h0;simp(maxSteps:=9^7) (disch:=try exact dI) only[push_cast,seval] at h0;obtain⟨rfl,rfl,rfl⟩:=h0;refine⟨?_,?_,?_⟩
 ·simp(maxSteps:=9^7) (disch:=try exact dI) only[push_cast,seval]
 ·omega
 intro i hi
 by_cases hlt:i<d.length
 ·have hltI:(i:Int)<(d.length:Int):=by omega
  obtain⟨x,hx⟩:∃ x,d[i]? = some x:=⟨_,List.getElem?_eq_getElem hlt⟩
  have hc:=mr _ x (Nat.lt_succ_self _) (hv x (List.mem_of_getElem? hx))
  have hts:=aI hx
  have hlt2:(d.take i).length=i:=by rw[List.length_take];omega
  obtain⟨vk,vn,vs,vt,vl,vf⟩:=x
  simp only[Val.pv_mk] at hc
  simp(maxSteps:=9^7) (disch:=try exact dI) only[hx,Option.map_some,Val.pv_mk,push_cast,seval]
  refine ab.pure hc rfl ?_
  simp(maxSteps:=9^7) (disch:=try exact dI) only[hlt2,push_cast,seval]
  exact⟨i+1,aT (by simp(maxSteps:=9^7) (disch:=try exact dI) only[hts,List.map_append,Val.pv_mk,push_cast,seval]),by omega,by omega⟩
 ·obtain rfl:i=d.length:=by omega
  simp(maxSteps:=9^7) (disch:=try exact dI) only[List.take_length,Int.lt_irrefl,push_cast,seval]
def bm:Nat→Typ→Prop
 | 0,_=>False
 | n+1,.mk k m M s w e f=>w.length*16≤140737488351232∧e.length*104≤140737488351232∧f.length*160≤140737488351232∧(∀ x∈e,bm n x)∧∀ g∈f,g.dflt.length*88≤140737488351232∧(∀ v∈g.dflt,v.ok)∧bm n g.typ
set_option maxHeartbeats 4000000 in
theorem py:∀ (n:Nat) (t:Typ),bm n t→ag Tryz.prog aD 318 [t.pv] t.pv
 | 0,_,h=>h.elim
 | n+1,.mk k m M s w e f,h=>by
   have ih:=py n
   simp only[bm] at h
   obtain⟨hw,hel,hfl,he,hf⟩:=h
   have h297:=Cc w hw
   refine ag.intro Gr (by simp[MN]) ?_
   simp(maxSteps:=9^7) (disch:=try exact dI) only[MN,Typ.pv_mk,push_cast,seval]
   refine aw ([]) (fun i:Nat=>[(16,.pv (.int .i64 (i:Int))),(3,.olist 2 7 ((e.take i).map Typ.pv))]) (fun _=>[]) (fun i=>i≤e.length) (fun i=>e.length - i) (0) ?_;intro e0 σ0 n0 h0;simp(maxSteps:=9^7) (disch:=try exact dI) only[push_cast,seval] at h0;obtain⟨rfl,rfl,rfl⟩:=h0;refine⟨?_,?_,?_⟩
   ·simp(maxSteps:=9^7) (disch:=try exact dI) only[push_cast,seval]
   ·omega
   intro i hi
   by_cases hlt:i<e.length
   ·have hltI:(i:Int)<(e.length:Int):=by omega
    obtain⟨x,hx⟩:∃ x,e[i]? = some x:=⟨_,List.getElem?_eq_getElem hlt⟩
    have hc:=ih x (he x (List.mem_of_getElem? hx))
    have hts:=aI hx
    have hlt2:(e.take i).length=i:=by rw[List.length_take];omega
    obtain⟨k',m',M',s',w',e',f'⟩:=x
    simp only[Typ.pv_mk] at hc
    simp(maxSteps:=9^7) (disch:=try exact dI) only[hx,Option.map_some,Typ.pv_mk,ae,push_cast,seval]
    refine ab.pure hc rfl ?_
    simp(maxSteps:=9^7) (disch:=try exact dI) only[hlt2,push_cast,seval]
    exact⟨i+1,aT (by simp(maxSteps:=9^7) (disch:=try exact dI) only[hts,List.map_append,Typ.pv_mk,push_cast,seval]),by omega,by omega⟩
   obtain rfl:i=e.length:=by omega
   clear hi hlt
   simp(maxSteps:=9^7) (disch:=try exact dI) only[List.take_length,Int.lt_irrefl,push_cast,seval]
   refine aw ([]) (fun i:Nat=>[(33,.pv (.int .i64 (i:Int))),(6,.olist 3 11 ((f.take i).map TFd.pv))]) (fun _=>[]) (fun i=>i≤f.length) (fun i=>f.length - i) (0) ?_;intro e0 σ0 n0 h0;simp(maxSteps:=9^7) (disch:=try exact dI) only[push_cast,seval] at h0;obtain⟨rfl,rfl,rfl⟩:=h0;refine⟨?_,?_,?_⟩
   ·simp(maxSteps:=9^7) (disch:=try exact dI) only[push_cast,seval]
   ·omega
   intro i hi
   by_cases hlt:i<f.length
   ·have hltI:(i:Int)<(f.length:Int):=by omega
    obtain⟨x,hx⟩:∃ x,f[i]? = some x:=⟨_,List.getElem?_eq_getElem hlt⟩
    obtain⟨hdl,hdv,hds⟩:=hf x (List.mem_of_getElem? hx)
    have hts:=aI hx
    have hlt2:(f.take i).length=i:=by rw[List.length_take];omega
    obtain⟨n',nm',nd',⟨k',m',M',s',w',e',f'⟩,d'⟩:=x
    have hc:=pA n' nm' nd' k' m' M' s' w' e' f' d' (ih _ hds) hdl hdv
    simp only[TFd.pv_mk,Typ.pv_mk,ae] at hc
    simp(maxSteps:=9^7) (disch:=try exact dI) only[hx,Option.map_some,TFd.pv_mk,Typ.pv_mk,ae,push_cast,seval]
    refine ab.pure hc rfl ?_
    simp(maxSteps:=9^7) (disch:=try exact dI) only[hlt2,push_cast,seval]
    exact⟨i+1,aT (by simp(maxSteps:=9^7) (disch:=try exact dI) only[hts,List.map_append,TFd.pv_mk,Typ.pv_mk,ae,push_cast,seval]),by omega,by omega⟩
   obtain rfl:i=f.length:=by omega
   clear hi hlt
   simp(maxSteps:=9^7) (disch:=try exact dI) only[List.take_length,Int.lt_irrefl,push_cast,seval]
   refine ab.pure h297 rfl ?_
   simp(maxSteps:=9^7) (disch:=try exact dI) only[push_cast,seval]
end Go.Proofs.YtbojpfpliibfbaaGreatDoor
-- many steps
namespace Go.Proofs.YtbojpfpliibfbaaGreatDoor
open Go Go.Ab
attribute [local irreducible] vc
theorem Js (x:TFd)(name:List UInt8):ag Tryz.prog aD 299 [x.pv,.eptr [.str name] 0 0] (.bool (named name x)):=by
 obtain⟨a,b,c,⟨k,m,n,s,w,e,fs⟩,d⟩:=x
 refine ag.intro Gt (by simp[MQ]) ?_
 simp(maxSteps:=9^7) (disch:=try exact dI) only[MQ,TFd.pv_mk,Typ.pv_mk,named,TFd.name,push_cast,seval]
 exact decide_eq_decide.2 Iff.rfl
theorem ln {n:Nat}{k m M s:Int}{w:List (List UInt8)}{e:List Typ}{f:List TFd}(h:bm (n+1) (.mk k m M s w e f)){x:TFd}(hx:x∈f):ag Tryz.prog aD 311 [x.pv] x.pv:=by
 simp only[bm] at h
 obtain⟨h1,h2,h3⟩:=h.2.2.2.2 x hx
 obtain⟨n',nm',nd',⟨k',m',M',s',w',e',f'⟩,d'⟩:=x
 exact pA _ _ _ _ _ _ _ _ _ _ _ (py n _ h3) h1 h2
def bi (t:Typ)(name:List UInt8):Option TFd:=if t.kind=9∨t.kind=10 then t.fields.find? (named name) else none
theorem FE (n:Nat)(t:Typ)(name:List UInt8)(h:bm n t):ag Tryz.prog aD 298 [t.pv,.clo 299 [] [.eptr [.str name] 0 0]] (tfR (bi t name)):=by
 cases n with
 | zero=>exact h.elim
 | succ n=>
 obtain⟨k,m,M,s,w,e,f⟩:=t
 have hcl:=fun x hx=>ln h (x:=x) hx
 have hfl:f.length≤9000000000000:=by simp only[bm] at h;have:=h.2.2.1;omega
 clear h
 have h147:=we f 299 [.eptr [.str name] 0 0] (named name) (fun x _=>Js x name) (by omega)
 refine ag.intro Gu (by simp[KC]) ?_
 by_cases hk:k=9∨k=10
 ·rw[show bi (.mk k m M s w e f) name=f.find? (named name) from if_pos hk]
  rcases bB (p:=named name) f 0 with ⟨h1,h2⟩ | ⟨i,x,h1,h2,h3⟩
  ·rw[h1]
   rw[h2] at h147
   rcases hk with rfl | rfl
   all_goals
    simp(maxSteps:=9^7) (disch:=try exact dI) only[KC,Typ.pv_mk,push_cast,seval]
    refine ab.pure h147 rfl ?_
    simp(maxSteps:=9^7) (disch:=try exact dI) only[tfR,Option.getD_none,Option.isSome_none,ju,TFd.pv_mk,Typ.pv_mk,ae,push_cast,seval]
  ·rw[h2]
   rw[h3,Nat.zero_add] at h147
   have hc:=hcl x (List.mem_of_getElem? h1)
   obtain⟨x1,x2,x3,⟨y1,y2,y3,y4,y5,y6,y7⟩,x5⟩:=x
   simp only[TFd.pv_mk,Typ.pv_mk,ae] at hc
   have hi:¬ (i:Int)<0:=by omega
   rcases hk with rfl | rfl
   all_goals
    simp(maxSteps:=9^7) (disch:=try exact dI) only[KC,Typ.pv_mk,push_cast,seval]
    refine ab.pure h147 rfl ?_
    simp(maxSteps:=9^7) (disch:=try exact dI) only[h1,Option.map_some,TFd.pv_mk,Typ.pv_mk,ae,push_cast,seval]
    refine ab.pure hc rfl ?_
    simp(maxSteps:=9^7) (disch:=try exact dI) only[tfR,Option.getD_some,Option.isSome_some,TFd.pv_mk,Typ.pv_mk,ae,push_cast,seval]
 ·rw[show bi (.mk k m M s w e f) name=none from if_neg hk]
  have h9:¬ k=9:=by omega
  have h10:¬ k=10:=by omega
  simp(maxSteps:=9^7) (disch:=try exact dI) only[KC,Typ.pv_mk,tfR,Option.getD_none,Option.isSome_none,ju,TFd.pv_mk,ae,push_cast,seval]
theorem pq (n:Nat)(t:Typ)(name:List UInt8)(h:bm n t):ag Tryz.prog aD 265 [t.pv,.str name] (tfR (bi t name)):=by
 have hf:=FE n t name h
 generalize bi t name=o at hf ⊢
 obtain⟨k,m,M,s,w,e,f⟩:=t
 simp only[Typ.pv_mk] at hf
 refine ag.intro GL (by simp[Ls]) ?_
 cases o with
 | none=>
   simp only[tfR,Option.getD_none,Option.isSome_none,ju,TFd.pv_mk,Typ.pv_mk,ae] at hf ⊢
   simp(maxSteps:=9^7) (disch:=try exact dI) only[Ls,Typ.pv_mk,push_cast,seval]
   refine ab.pure hf rfl ?_
   simp(maxSteps:=9^7) (disch:=try exact dI) only[push_cast,seval]
 | some x=>
   obtain⟨x1,x2,x3,⟨y1,y2,y3,y4,y5,y6,y7⟩,x5⟩:=x
   simp only[tfR,Option.getD_some,Option.isSome_some,TFd.pv_mk,Typ.pv_mk,ae] at hf ⊢
   simp(maxSteps:=9^7) (disch:=try exact dI) only[Ls,Typ.pv_mk,push_cast,seval]
   refine ab.pure hf rfl ?_
   simp(maxSteps:=9^7) (disch:=try exact dI) only[push_cast,seval]
end Go.Proofs.YtbojpfpliibfbaaGreatDoor
-- many steps
namespace Go.Proofs.YtbojpfpliibfbaaGreatDoor
open Go Go.Ab
attribute [local irreducible] vc
theorem BA (l:List Val)(g:Nat)(cs:List PV)(q:Val→Bool)(hq:∀ x∈l,ag Tryz.prog aD g (x.pv::cs) (.bool (q x)))(hl:l.length≤9000000000000) :
  ag Tryz.prog aD 297 [.list (l.map Val.pv),.clo g [] cs] (.int .i64 (dy q l 0)):=by
 refine ag.intro Gv (by simp[MR]) ?_
 simp(maxSteps:=9^7) (disch:=try exact dI) only[MR,push_cast,seval]
 refine aw ([]) (fun m:Nat=>[(8,.pv (.int .i64 (m:Int)))]) (fun m=>[]) (fun m=>m≤l.length∧dy q l 0=dy q (l.drop m) m) (fun m=>l.length - m) (0) ?_;intro e0 σ0 n0 h0;simp(maxSteps:=9^7) (disch:=try exact dI) only[push_cast,seval] at h0;obtain⟨rfl,rfl,rfl⟩:=h0;refine⟨?_,?_,?_⟩
 ·simp(maxSteps:=9^7) (disch:=try exact dI) only[push_cast,seval]
 ·exact⟨by omega,by simp⟩
 ·rintro m ⟨hm,he⟩
  by_cases hlt:m<l.length
  ·have hltI:(m:Int)<l.length:=by omega
   obtain⟨x,hx⟩:∃ x,l[m]? = some x:=⟨_,List.getElem?_eq_getElem hlt⟩
   have hcall:=hq x (List.mem_of_getElem? hx)
   have hcl:x.pv.cells.length=6:=by cases x;rw[Val.pv_mk];rfl
   have hag:x.pv.isAgg=true:=by cases x;rw[Val.pv_mk];rfl
   simp(maxSteps:=9^7) (disch:=try exact dI) only[hx,hcl,hag,push_cast,seval]
   refine ab.pure hcall (by exact oN (x.pv::cs)) ?_
   cases hqx:q x with
   | true=>
     rw[he,dn hx hqx]
     simp(maxSteps:=9^7) (disch:=try exact dI) only[push_cast,seval]
   | false=>
     rw[cl hx hqx] at he
     simp(maxSteps:=9^7) (disch:=try exact dI) only[push_cast,seval]
     exact⟨m+1,aT qsZ,⟨by omega,he⟩,by omega⟩
  ·have hltI:¬ (m:Int)<l.length:=by omega
   rw[he,dp hlt]
   simp(maxSteps:=9^7) (disch:=try exact dI) only[push_cast,seval]
theorem n7 (l:List Val)(g:Nat)(cs:List PV)(q:Val→Bool)(hq:∀ x∈l,ag Tryz.prog aD g (x.pv::cs) (.bool (q x)))(hl:l.length≤9000000000000) :
  ag Tryz.prog aD 263 [.list (l.map Val.pv),.clo g [] cs] (.bool (l.any q)):=by
 have h94:=BA l g cs q hq hl
 have hfa:=dS (p:=q) l
 refine ag.intro GN (by simp[Lt]) ?_
 rcases bB (p:=q) l 0 with ⟨h1,h2⟩ | ⟨k,x,h1,h2,h3⟩
 ·rw[h2] at h94
  rw[h1] at hfa
  rw[← hfa]
  simp(maxSteps:=9^7) (disch:=try exact dI) only[Lt,push_cast,seval]
  refine ab.pure h94 rfl ?_
  simp(maxSteps:=9^7) (disch:=try exact dI) only[push_cast,seval]
  exact .refl _
 ·rw[h3] at h94
  rw[h2] at hfa
  rw[← hfa]
  have hk:(0:Int)≤((0+k:Nat):Int):=by omega
  generalize ((0+k:Nat):Int)=z at *
  simp(maxSteps:=9^7) (disch:=try exact dI) only[Lt,push_cast,seval]
  refine ab.pure h94 rfl ?_
  simp(maxSteps:=9^7) (disch:=try exact dI) only[push_cast,seval]
  exact .refl _
def gB (v:Val):TFd→Bool
 | .mk _ nm nd _ _=>(v.fields.find? (cG nm)).isNone&&!decide (nd=2)
theorem Jt (v:Val)(g:TFd)(hv:v.ok)(hk:v.kind=9)(h:v.fields.length≤9000000000000):ag Tryz.prog aD 266 [g.pv,.eptr [v.pv] 0 0] (.bool (gB v g)):=by
 obtain⟨n',nm',nd',⟨k',m',M',s',w',e',f'⟩,d'⟩:=g
 have h52:=BZ v nm' hv hk h
 simp only[gB]
 generalize v.fields.find? (cG nm')=o at h52 ⊢
 obtain⟨vk,vn,vs,vt,vl,vf⟩:=v
 simp only[Val.pv_mk] at h52
 refine ag.intro GK (by simp[KO]) ?_
 cases o with
 | none=>
   simp only[vlR,Option.map_none,Option.getD_none,Option.isSome_none,Option.isNone_none,Dy,Val.pv_mk] at h52 ⊢
   by_cases hnd:nd'=2
   ·simp(maxSteps:=9^7) (disch:=try exact dI) only[KO,Val.pv_mk,TFd.pv_mk,Typ.pv_mk,ae,push_cast,seval]
    refine ab.pure h52 rfl ?_
    simp(maxSteps:=9^7) (disch:=try exact dI) only[hnd,push_cast,seval]
   ·simp(maxSteps:=9^7) (disch:=try exact dI) only[KO,Val.pv_mk,TFd.pv_mk,Typ.pv_mk,ae,push_cast,seval]
    refine ab.pure h52 rfl ?_
    simp(maxSteps:=9^7) (disch:=try exact dI) only[hnd,push_cast,seval]
 | some x=>
   obtain⟨xn,⟨xk,xi,xs,xt,xl,xf⟩⟩:=x
   simp only[vlR,Option.map_some,Option.getD_some,Option.isSome_some,Option.isNone_some,Fld.value,Val.pv_mk] at h52 ⊢
   simp(maxSteps:=9^7) (disch:=try exact dI) only[KO,Val.pv_mk,TFd.pv_mk,Typ.pv_mk,ae,push_cast,seval]
   refine ab.pure h52 rfl ?_
   simp(maxSteps:=9^7) (disch:=try exact dI) only[push_cast,seval]
end Go.Proofs.YtbojpfpliibfbaaGreatDoor
