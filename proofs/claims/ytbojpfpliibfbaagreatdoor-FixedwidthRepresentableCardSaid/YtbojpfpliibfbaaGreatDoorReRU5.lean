/- A part of the proof for FixedwidthRepresentableCardSaid. -/
import Derived.Test.YtbojpfpliibfbaaGreatDoorReRU4
set_option maxRecDepth 100000
set_option linter.unusedVariables false
set_option linter.unusedSimpArgs false
-- many steps
namespace Go.Proofs.YtbojpfpliibfbaaGreatDoor
open Go Go.Ab
attribute [local irreducible] vc
def pS (n:Nat):Prop:=∀ t v,mb n t v→ag Tryz.prog aD 189 [t.pv,v.pv] (.bool (bg n t v))
theorem wm (n:Nat)(t:Typ)(v:Val)(h:¬ v.kind=t.kind):ag Tryz.prog aD 189 [t.pv,v.pv] (.bool (bg (n+1) t v)):=by
 rw[show bg (n+1) t v=false by simp[bg,h]]
 obtain⟨k,m,M,s,w,e,f⟩:=t
 obtain⟨vk,vn,vs,vt,vl,vf⟩:=v
 simp only[Val.kind,Typ.kind] at h
 have h':¬ k=vk:=fun e=>h e.symm
 refine ag.intro dw (by simp[jm]) ?_
 simp(maxSteps:=9^7) (disch:=try exact dI) only[jm,Typ.pv_mk,Val.pv_mk,h',push_cast,seval]
theorem rJ (n:Nat)(k m M s:Int)(w:List (List UInt8))(e:List Typ)(f:List TFd)(vn:Int)(vt:List UInt8)(vl:List Val)(vf:List Fld)(hk:k=2∨k=6∨k=7):ag Tryz.prog aD 189 [(Typ.mk k m M s w e f).pv,(Val.mk k vn s vt vl vf).pv] (.bool (bg (n+1) (.mk k m M s w e f) (.mk k vn s vt vl vf))):=by
 have hi:=aU vn m M
 rw[show bg (n+1) (.mk k m M s w e f) (.mk k vn s vt vl vf)=inB vn m M by
  have hk':k=2∨k=6∨k=7∨k=3:=by omega
  simp[bg,mJ,Typ.kind,Val.kind,hk',Lg,Val.num,Typ.min,Typ.max,Val.scale,Typ.scale]]
 generalize inB vn m M=b at hi ⊢
 rcases hk with rfl | rfl | rfl
 all_goals
  refine ag.intro dw (by simp[jm]) ?_
  simp(maxSteps:=9^7) (disch:=try exact dI) only[jm,Typ.pv_mk,Val.pv_mk,push_cast,seval]
  refine ab.pure hi rfl ?_
  simp(maxSteps:=9^7) (disch:=try exact dI) only[push_cast,seval]
theorem BN (n:Nat)(m M s:Int)(w:List (List UInt8))(e:List Typ)(f:List TFd)(vn vs:Int)(vt:List UInt8)(vl:List Val)(vf:List Fld):ag Tryz.prog aD 189 [(Typ.mk 3 m M s w e f).pv,(Val.mk 3 vn vs vt vl vf).pv] (.bool (bg (n+1) (.mk 3 m M s w e f) (.mk 3 vn vs vt vl vf))):=by
 have hi:=aU vn m M
 rw[show bg (n+1) (.mk 3 m M s w e f) (.mk 3 vn vs vt vl vf)=(inB vn m M&&decide (vs=s)) by simp[bg,mJ,Typ.kind,Val.kind,Lg,Val.num,Typ.min,Typ.max,Val.scale,Typ.scale];rfl]
 generalize inB vn m M=b at hi ⊢
 refine ag.intro dw (by simp[jm]) ?_
 by_cases hs:vs=s
 ·rw[decide_eq_true hs,Bool.and_true]
  simp(maxSteps:=9^7) (disch:=try exact dI) only[jm,Typ.pv_mk,Val.pv_mk,hs,push_cast,seval]
  refine ab.pure hi rfl ?_
  simp(maxSteps:=9^7) (disch:=try exact dI) only[push_cast,seval]
 ·rw[decide_eq_false hs,Bool.and_false]
  simp(maxSteps:=9^7) (disch:=try exact dI) only[jm,Typ.pv_mk,Val.pv_mk,hs,push_cast,seval]
theorem gZ {α:Type}{p:α→Bool}{l:List α}{i:Nat}{x:α}(h:l[i]? = some x):(l.drop i).any p=(p x||(l.drop (i+1)).any p):=by
 have hi:=(List.getElem?_eq_some_iff.1 h).1
 have he:l[i]=x:=(List.getElem?_eq_some_iff.1 h).2
 rw[List.drop_eq_getElem_cons hi,he,List.any_cons]
theorem BM (n:Nat)(m M s:Int)(w:List (List UInt8))(e:List Typ)(f:List TFd)(vn vs:Int)(vt:List UInt8)(vl:List Val)(vf:List Fld)(hw:w.length≤9000000000000):ag Tryz.prog aD 189 [(Typ.mk 4 m M s w e f).pv,(Val.mk 4 vn vs vt vl vf).pv] (.bool (bg (n+1) (.mk 4 m M s w e f) (.mk 4 vn vs vt vl vf))):=by
 have hi:=aU vt.length m M
 rw[show bg (n+1) (.mk 4 m M s w e f) (.mk 4 vn vs vt vl vf)=if 0<w.length then w.any (fun x=>decide (x=vt)) else inB vt.length m M by simp[bg,mJ,Typ.kind,Val.kind,LG,Val.text,Typ.min,Typ.max,Typ.words];rfl]
 generalize inB vt.length m M=b at hi ⊢
 obtain⟨R,hR⟩:∃ R,R=if 0<w.length then w.any (fun x=>decide (x=vt)) else b:=⟨_,rfl⟩
 rw[← hR]
 refine ag.intro dw (by simp[jm]) ?_
 simp(maxSteps:=9^7) (disch:=try exact dI) only[jm,Typ.pv_mk,Val.pv_mk,push_cast,seval]
 refine aw ([]) (fun i:Nat=>[(5,.pv (.int .i64 (i:Int)))]) (fun _=>[]) (fun i=>i≤w.length∧R=(if 0<w.length then (w.drop i).any (fun x=>decide (x=vt)) else b)) (fun i=>w.length - i) (0) ?_;intro e0 σ0 n0 h0;simp(maxSteps:=9^7) (disch:=try exact dI) only[push_cast,seval] at h0;obtain⟨rfl,rfl,rfl⟩:=h0;refine⟨?_,?_,?_⟩
 ·simp(maxSteps:=9^7) (disch:=try exact dI) only[push_cast,seval]
 ·exact⟨by omega,by simpa using hR⟩
 rintro i ⟨hle,hr⟩
 by_cases hlt:i<w.length
 ·have hltI:(i:Int)<(w.length:Int):=by omega
  obtain⟨x,hx⟩:∃ x,w[i]? = some x:=⟨_,List.getElem?_eq_getElem hlt⟩
  rw[gZ hx] at hr
  by_cases hv:x=vt
  ·rw[if_pos (by omega),decide_eq_true hv,Bool.true_or] at hr
   subst hr
   simp(maxSteps:=9^7) (disch:=try exact dI) only[hx,Option.map_some,hv,push_cast,seval]
  ·rw[decide_eq_false hv,Bool.false_or] at hr
   simp(maxSteps:=9^7) (disch:=try exact dI) only[hx,Option.map_some,hv,push_cast,seval]
   exact⟨i+1,aT qsZ,⟨by omega,hr⟩,by omega⟩
 ·obtain rfl:i=w.length:=by omega
  rw[List.drop_length,List.any_nil] at hr
  by_cases h0:0<w.length
  ·have h0I:¬ (w.length:Int)=0:=by omega
   rw[if_pos h0] at hr
   subst hr
   simp(maxSteps:=9^7) (disch:=try exact dI) only[Int.lt_irrefl,h0I,push_cast,seval]
  ·have h0I:(w.length:Int)=0:=by omega
   rw[if_neg h0] at hr
   subst hr
   simp(maxSteps:=9^7) (disch:=try exact dI) only[Int.lt_irrefl,h0I,push_cast,seval]
   refine ab.pure hi rfl ?_
   simp(maxSteps:=9^7) (disch:=try exact dI) only[push_cast,seval]
theorem BL (n:Nat)(m M s:Int)(w:List (List UInt8))(e:List Typ)(f:List TFd)(vn vs:Int)(vt:List UInt8)(vl:List Val)(vf:List Fld):ag Tryz.prog aD 189 [(Typ.mk 5 m M s w e f).pv,(Val.mk 5 vn vs vt vl vf).pv] (.bool (bg (n+1) (.mk 5 m M s w e f) (.mk 5 vn vs vt vl vf))):=by
 have hi:=aU vt.length m M
 rw[show bg (n+1) (.mk 5 m M s w e f) (.mk 5 vn vs vt vl vf)=inB vt.length m M by simp[bg,mJ,Typ.kind,Val.kind,Val.text,Typ.min,Typ.max]]
 generalize inB vt.length m M=b at hi ⊢
 refine ag.intro dw (by simp[jm]) ?_
 simp(maxSteps:=9^7) (disch:=try exact dI) only[jm,Typ.pv_mk,Val.pv_mk,push_cast,seval]
 refine ab.pure hi rfl ?_
 simp(maxSteps:=9^7) (disch:=try exact dI) only[push_cast,seval]
theorem BO (n:Nat)(m M s:Int)(w:List (List UInt8))(e:List Typ)(f:List TFd)(vn vs:Int)(vt:List UInt8)(vl:List Val)(vf:List Fld):ag Tryz.prog aD 189 [(Typ.mk 1 m M s w e f).pv,(Val.mk 1 vn vs vt vl vf).pv] (.bool (bg (n+1) (.mk 1 m M s w e f) (.mk 1 vn vs vt vl vf))):=by
 rw[show bg (n+1) (.mk 1 m M s w e f) (.mk 1 vn vs vt vl vf)=true by simp[bg,mJ,Typ.kind,Val.kind]]
 refine ag.intro dw (by simp[jm]) ?_
 simp(maxSteps:=9^7) (disch:=try exact dI) only[jm,Typ.pv_mk,Val.pv_mk,push_cast,seval]
set_option maxHeartbeats 4000000 in
theorem BK (n:Nat)(ih:pS n)(m M s:Int)(w:List (List UInt8))(e:List Typ)(f:List TFd)(vn vs:Int)(vt:List UInt8)(vl:List Val)(vf:List Fld)(hl:vl.length≤9000000000000)(h:∀ y∈vl,∃ x r,e=x::r∧mb n x y):ag Tryz.prog aD 189 [(Typ.mk 8 m M s w e f).pv,(Val.mk 8 vn vs vt vl vf).pv] (.bool (bg (n+1) (.mk 8 m M s w e f) (.mk 8 vn vs vt vl vf))):=by
 have hi:=aU vl.length m M
 rw[show bg (n+1) (.mk 8 m M s w e f) (.mk 8 vn vs vt vl vf)=(inB vl.length m M&&!(vl.any (fun x=>!(rI (fun e=>bg n e x) e)))) by simp[bg,mJ,Typ.kind,Val.kind,Val.lst,Typ.min,Typ.max,Typ.elem]]
 generalize inB vl.length m M=b at hi ⊢
 obtain⟨p,hp⟩:∃ p:Val→Bool,p=fun x=>!(rI (fun e=>bg n e x) e):=⟨_,rfl⟩
 rw[← hp]
 obtain⟨R,hR⟩:∃ R,R=(b&&!(vl.any p)):=⟨_,rfl⟩
 rw[← hR]
 refine ag.intro dw (by simp[jm]) ?_
 simp(maxSteps:=9^7) (disch:=try exact dI) only[jm,Typ.pv_mk,Val.pv_mk,push_cast,seval]
 refine aw ([]) (fun i:Nat=>[(6,.pv (.int .i64 (i:Int)))]) (fun _=>[]) (fun i=>i≤vl.length∧R=(b&&!((vl.drop i).any p))) (fun i=>vl.length - i) (0) ?_;intro e0 σ0 n0 h0;simp(maxSteps:=9^7) (disch:=try exact dI) only[push_cast,seval] at h0;obtain⟨rfl,rfl,rfl⟩:=h0;refine⟨?_,?_,?_⟩
 ·simp(maxSteps:=9^7) (disch:=try exact dI) only[push_cast,seval]
 ·exact⟨by omega,by simpa using hR⟩
 rintro i ⟨hle,hr⟩
 by_cases hlt:i<vl.length
 ·have hltI:(i:Int)<(vl.length:Int):=by omega
  obtain⟨y,hy⟩:∃ x,vl[i]? = some x:=⟨_,List.getElem?_eq_getElem hlt⟩
  obtain⟨x,r,rfl,hxy⟩:=h y (List.mem_of_getElem? hy)
  have hc:=ih x y hxy
  rw[gZ hy,show p y=!(bg n x y) by rw[hp];rfl] at hr
  generalize bg n x y=q at hc hr
  have hel:¬ ((x::r).length:Int)=0:=by rw[List.length_cons];omega
  obtain⟨k',m',M',s',w',e',f'⟩:=x
  obtain⟨yk,yn,ys,yt,yl,yf⟩:=y
  simp only[Typ.pv_mk,Val.pv_mk] at hc
  cases q with
  | false=>
    simp only[Bool.not_false,Bool.true_or,Bool.not_true,Bool.and_false] at hr
    subst hr
    simp(maxSteps:=9^7) (disch:=try exact dI) only[hy,Option.map_some,Typ.pv_mk,Val.pv_mk,aK,push_cast,seval]
    refine ab.pure hc rfl ?_
    simp(maxSteps:=9^7) (disch:=try exact dI) only[push_cast,seval]
  | true=>
    simp only[Bool.not_true,Bool.false_or] at hr
    simp(maxSteps:=9^7) (disch:=try exact dI) only[hy,Option.map_some,Typ.pv_mk,Val.pv_mk,aK,push_cast,seval]
    refine ab.pure hc rfl ?_
    simp(maxSteps:=9^7) (disch:=try exact dI) only[push_cast,seval]
    exact⟨i+1,aT qsZ,⟨by omega,hr⟩,by omega⟩
 ·obtain rfl:i=vl.length:=by omega
  rw[List.drop_length,List.any_nil,Bool.not_false,Bool.and_true] at hr
  subst hr
  simp(maxSteps:=9^7) (disch:=try exact dI) only[Int.lt_irrefl,push_cast,seval]
  refine ab.pure hi rfl ?_
  simp(maxSteps:=9^7) (disch:=try exact dI) only[push_cast,seval]
end Go.Proofs.YtbojpfpliibfbaaGreatDoor
-- many steps
namespace Go.Proofs.YtbojpfpliibfbaaGreatDoor
open Go Go.Ab
attribute [local irreducible] vc
theorem tM {N:Nat}{k m M s:Int}{w:List (List UInt8)}{e:List Typ}{f:List TFd}(hs:bm N (.mk k m M s w e f)):f.length≤9000000000000:=by
 cases N with
 | zero=>exact hs.elim
 | succ N=>simp only[bm] at hs;have:=hs.2.2.1;omega
theorem wn (n:Nat)(ih:pS n)(m M s:Int)(w:List (List UInt8))(e:List Typ)(f:List TFd)(vn vs:Int)(vt:List UInt8)(vl:List Val)(vf:List Fld)(hfl:f.length≤9000000000000)
  (h:∀ g,bi (.mk 10 m M s w e f) vt=some g→∃ y r,vl=y::r∧mb n g.typ y):ag Tryz.prog aD 189 [(Typ.mk 10 m M s w e f).pv,(Val.mk 10 vn vs vt vl vf).pv] (.bool (bg (n+1) (.mk 10 m M s w e f) (.mk 10 vn vs vt vl vf))):=by
 have hc:=pp m M s w e f 10 vt hfl
 rw[show bg (n+1) (.mk 10 m M s w e f) (.mk 10 vn vs vt vl vf)=DL (bg n) vl (bi (.mk 10 m M s w e f) vt) by simp[bg,mJ,Typ.kind,Val.kind,Val.lst,Val.text]]
 rw[show bi (.mk 10 m M s w e f) vt=f.find? (named vt) from if_pos (.inr rfl)] at h ⊢
 simp only[Typ.pv_mk] at hc
 rcases bB (p:=named vt) f 0 with ⟨h1,h2⟩ | ⟨i,g,h1,h2,h3⟩
 ·rw[h1]
  rw[h2] at hc
  simp only[DL]
  refine ag.intro dw (by simp[jm]) ?_
  simp(maxSteps:=9^7) (disch:=try exact dI) only[jm,Typ.pv_mk,Val.pv_mk,push_cast,seval]
  refine ab.pure hc rfl ?_
  simp(maxSteps:=9^7) (disch:=try exact dI) only[push_cast,seval]
 ·rw[h2] at h ⊢
  rw[h3,Nat.zero_add] at hc
  obtain⟨y,r,rfl,hy⟩:=h g rfl
  have hh:=ih _ _ hy
  obtain⟨n',nm',nd',⟨k',m',M',s',w',e',f'⟩,d'⟩:=g
  simp only[TFd.typ,DL,nS] at hh ⊢
  generalize bg n (.mk k' m' M' s' w' e' f') y=b at hh ⊢
  obtain⟨yk,yn,ys,yt,yl,yf⟩:=y
  simp only[Typ.pv_mk,Val.pv_mk] at hh
  have hi0:(0:Int)≤(i:Int):=by omega
  refine ag.intro dw (by simp[jm]) ?_
  simp(maxSteps:=9^7) (disch:=try exact dI) only[jm,Typ.pv_mk,Val.pv_mk,push_cast,seval]
  refine ab.pure hc rfl ?_
  simp(maxSteps:=9^7) (disch:=try exact dI) only[h1,Option.map_some,TFd.pv_mk,Typ.pv_mk,ae,aK,Val.pv_mk,push_cast,seval]
  refine ab.pure hh rfl ?_
  simp(maxSteps:=9^7) (disch:=try exact dI) only[push_cast,seval]
theorem FD (vn vs:Int)(vt:List UInt8)(vl:List Val)(vf:List Fld)(name:List UInt8)(hl:vf.length≤9000000000000):ag Tryz.prog aD 25 [(Val.mk 9 vn vs vt vl vf).pv,.str name] (.int .i64 (dy (cG name) vf 0)):=by
 refine ag.intro KQ (by simp[F25]) ?_
 simp(maxSteps:=9^7) (disch:=try exact dI) only[F25,Val.pv_mk,push_cast,seval]
 refine aw ([]) (fun i:Nat=>[(5,.pv (.int .i64 (i:Int)))]) (fun _=>[]) (fun i=>i≤vf.length∧dy (cG name) vf 0=dy (cG name) (vf.drop i) i) (fun i=>vf.length - i) (0) ?_;intro e0 σ0 n0 h0;simp(maxSteps:=9^7) (disch:=try exact dI) only[push_cast,seval] at h0;obtain⟨rfl,rfl,rfl⟩:=h0;refine⟨?_,?_,?_⟩
 ·simp(maxSteps:=9^7) (disch:=try exact dI) only[push_cast,seval]
 ·exact⟨by omega,by simp⟩
 rintro i ⟨hi,he⟩
 by_cases hlt:i<vf.length
 ·have hltI:(i:Int)<(vf.length:Int):=by omega
  obtain⟨x,hx⟩:∃ x,vf[i]? = some x:=⟨_,List.getElem?_eq_getElem hlt⟩
  have hhit:=fun h=>dn (p:=cG name) hx h
  have hmiss:=fun h=>cl (p:=cG name) hx h
  obtain⟨x2,⟨y1,y2,y3,y4,y5,y6⟩⟩:=x
  simp only[cG,Fld.name] at hhit hmiss
  by_cases hn:x2=name
  ·rw[he,hhit (decide_eq_true hn)]
   simp(maxSteps:=9^7) (disch:=try exact dI) only[hx,Option.map_some,hn,Fld.pv_mk,Val.pv_mk,ae,push_cast,seval]
  ·simp(maxSteps:=9^7) (disch:=try exact dI) only[hx,Option.map_some,hn,Fld.pv_mk,Val.pv_mk,ae,push_cast,seval]
   exact⟨i+1,aT qsZ,⟨by omega,by rw[he];exact hmiss (decide_eq_false hn)⟩,by omega⟩
 ·obtain rfl:i=vf.length:=by omega
  rw[he,dp (by omega)]
  simp(maxSteps:=9^7) (disch:=try exact dI) only[Int.lt_irrefl,push_cast,seval]
end Go.Proofs.YtbojpfpliibfbaaGreatDoor
