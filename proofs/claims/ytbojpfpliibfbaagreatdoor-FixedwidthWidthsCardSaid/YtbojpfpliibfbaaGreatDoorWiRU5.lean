/- A part of the proof for FixedwidthWidthsCardSaid. -/
import Derived.Test.YtbojpfpliibfbaaGreatDoorWiRU4
set_option maxRecDepth 100000
set_option linter.unusedVariables false
set_option linter.unusedSimpArgs false
-- many steps
namespace Go.Proofs.YtbojpfpliibfbaaGreatDoor
open Go Go.Ab
attribute [local irreducible] vc
def pP (n:Nat):Prop:=∀ t v,mb n t v→ae Tryz.prog aD 189 [t.pv,v.pv] (.bool (be n t v))
theorem wb (n:Nat)(t:Typ)(v:Val)(h:¬ v.kind=t.kind):ae Tryz.prog aD 189 [t.pv,v.pv] (.bool (be (n+1) t v)):=by
 rw[show be (n+1) t v=false by simp[be,h]]
 obtain⟨k,m,M,s,w,e,f⟩:=t
 obtain⟨vk,vn,vs,vt,vl,vf⟩:=v
 simp only[Val.kind,Typ.kind] at h
 have h':¬ k=vk:=fun e=>h e.symm
 refine ae.intro dp (by simp[jl]) ?_
 simp(maxSteps:=9^7) (disch:=try exact dI) only[jl,Typ.pv_mk,Val.pv_mk,h',push_cast,seval]
theorem rB (n:Nat)(k m M s:Int)(w:List (List UInt8))(e:List Typ)(f:List TFd)(vn:Int)(vt:List UInt8)(vl:List Val)(vf:List Fld)(hk:k=2∨k=6∨k=7):ae Tryz.prog aD 189 [(Typ.mk k m M s w e f).pv,(Val.mk k vn s vt vl vf).pv] (.bool (be (n+1) (.mk k m M s w e f) (.mk k vn s vt vl vf))):=by
 have hi:=aT vn m M
 rw[show be (n+1) (.mk k m M s w e f) (.mk k vn s vt vl vf)=inB vn m M by
  have hk':k=2∨k=6∨k=7∨k=3:=by omega
  simp[be,mJ,Typ.kind,Val.kind,hk',KN,Val.num,Typ.min,Typ.max,Val.scale,Typ.scale]]
 generalize inB vn m M=b at hi ⊢
 rcases hk with rfl | rfl | rfl
 all_goals
  refine ae.intro dp (by simp[jl]) ?_
  simp(maxSteps:=9^7) (disch:=try exact dI) only[jl,Typ.pv_mk,Val.pv_mk,push_cast,seval]
  refine ab.pure hi rfl ?_
  simp(maxSteps:=9^7) (disch:=try exact dI) only[push_cast,seval]
theorem BC (n:Nat)(m M s:Int)(w:List (List UInt8))(e:List Typ)(f:List TFd)(vn vs:Int)(vt:List UInt8)(vl:List Val)(vf:List Fld):ae Tryz.prog aD 189 [(Typ.mk 3 m M s w e f).pv,(Val.mk 3 vn vs vt vl vf).pv] (.bool (be (n+1) (.mk 3 m M s w e f) (.mk 3 vn vs vt vl vf))):=by
 have hi:=aT vn m M
 rw[show be (n+1) (.mk 3 m M s w e f) (.mk 3 vn vs vt vl vf)=(inB vn m M&&decide (vs=s)) by simp[be,mJ,Typ.kind,Val.kind,KN,Val.num,Typ.min,Typ.max,Val.scale,Typ.scale];rfl]
 generalize inB vn m M=b at hi ⊢
 refine ae.intro dp (by simp[jl]) ?_
 by_cases hs:vs=s
 ·rw[decide_eq_true hs,Bool.and_true]
  simp(maxSteps:=9^7) (disch:=try exact dI) only[jl,Typ.pv_mk,Val.pv_mk,hs,push_cast,seval]
  refine ab.pure hi rfl ?_
  simp(maxSteps:=9^7) (disch:=try exact dI) only[push_cast,seval]
 ·rw[decide_eq_false hs,Bool.and_false]
  simp(maxSteps:=9^7) (disch:=try exact dI) only[jl,Typ.pv_mk,Val.pv_mk,hs,push_cast,seval]
theorem gX {α:Type}{p:α→Bool}{l:List α}{i:Nat}{x:α}(h:l[i]? = some x):(l.drop i).any p=(p x||(l.drop (i+1)).any p):=by
 have hi:=(List.getElem?_eq_some_iff.1 h).1
 have he:l[i]=x:=(List.getElem?_eq_some_iff.1 h).2
 rw[List.drop_eq_getElem_cons hi,he,List.any_cons]
theorem BB (n:Nat)(m M s:Int)(w:List (List UInt8))(e:List Typ)(f:List TFd)(vn vs:Int)(vt:List UInt8)(vl:List Val)(vf:List Fld)(hw:w.length≤9000000000000):ae Tryz.prog aD 189 [(Typ.mk 4 m M s w e f).pv,(Val.mk 4 vn vs vt vl vf).pv] (.bool (be (n+1) (.mk 4 m M s w e f) (.mk 4 vn vs vt vl vf))):=by
 have hi:=aT vt.length m M
 rw[show be (n+1) (.mk 4 m M s w e f) (.mk 4 vn vs vt vl vf)=if 0<w.length then w.any (fun x=>decide (x=vt)) else inB vt.length m M by simp[be,mJ,Typ.kind,Val.kind,Ld,Val.text,Typ.min,Typ.max,Typ.words];rfl]
 generalize inB vt.length m M=b at hi ⊢
 obtain⟨R,hR⟩:∃ R,R=if 0<w.length then w.any (fun x=>decide (x=vt)) else b:=⟨_,rfl⟩
 rw[← hR]
 refine ae.intro dp (by simp[jl]) ?_
 simp(maxSteps:=9^7) (disch:=try exact dI) only[jl,Typ.pv_mk,Val.pv_mk,push_cast,seval]
 refine aA ([]) (fun i:Nat=>[(5,.pv (.int .i64 (i:Int)))]) (fun _=>[]) (fun i=>i≤w.length∧R=(if 0<w.length then (w.drop i).any (fun x=>decide (x=vt)) else b)) (fun i=>w.length - i) (0) ?_;intro e0 σ0 n0 h0;simp(maxSteps:=9^7) (disch:=try exact dI) only[push_cast,seval] at h0;obtain⟨rfl,rfl,rfl⟩:=h0;refine⟨?_,?_,?_⟩
 ·simp(maxSteps:=9^7) (disch:=try exact dI) only[push_cast,seval]
 ·exact⟨by omega,by simpa using hR⟩
 rintro i ⟨hle,hr⟩
 by_cases hlt:i<w.length
 ·have hltI:(i:Int)<(w.length:Int):=by omega
  obtain⟨x,hx⟩:∃ x,w[i]? = some x:=⟨_,List.getElem?_eq_getElem hlt⟩
  rw[gX hx] at hr
  by_cases hv:x=vt
  ·rw[if_pos (by omega),decide_eq_true hv,Bool.true_or] at hr
   subst hr
   simp(maxSteps:=9^7) (disch:=try exact dI) only[hx,Option.map_some,hv,push_cast,seval]
  ·rw[decide_eq_false hv,Bool.false_or] at hr
   simp(maxSteps:=9^7) (disch:=try exact dI) only[hx,Option.map_some,hv,push_cast,seval]
   exact⟨i+1,aV qsZ,⟨by omega,hr⟩,by omega⟩
 ·obtain rfl:i=w.length:=by omega
  rw[List.drop_length,List.any_nil] at hr
  by_cases h0:0<w.length
  ·have h0I:¬ (w.length:Int)=0:=by omega
   rw[if_pos h0] at hr
   subst hr
   simp(maxSteps:=9^7) (disch:=try exact dI) only[Int.lt_irrefl,h0I,push_cast,seval]
  ·have h0I:(w.length:Int)=0:=by omega
   rw[if_neg h0] at hr
   subst hr
   simp(maxSteps:=9^7) (disch:=try exact dI) only[Int.lt_irrefl,h0I,push_cast,seval]
   refine ab.pure hi rfl ?_
   simp(maxSteps:=9^7) (disch:=try exact dI) only[push_cast,seval]
theorem BA (n:Nat)(m M s:Int)(w:List (List UInt8))(e:List Typ)(f:List TFd)(vn vs:Int)(vt:List UInt8)(vl:List Val)(vf:List Fld):ae Tryz.prog aD 189 [(Typ.mk 5 m M s w e f).pv,(Val.mk 5 vn vs vt vl vf).pv] (.bool (be (n+1) (.mk 5 m M s w e f) (.mk 5 vn vs vt vl vf))):=by
 have hi:=aT vt.length m M
 rw[show be (n+1) (.mk 5 m M s w e f) (.mk 5 vn vs vt vl vf)=inB vt.length m M by simp[be,mJ,Typ.kind,Val.kind,Val.text,Typ.min,Typ.max]]
 generalize inB vt.length m M=b at hi ⊢
 refine ae.intro dp (by simp[jl]) ?_
 simp(maxSteps:=9^7) (disch:=try exact dI) only[jl,Typ.pv_mk,Val.pv_mk,push_cast,seval]
 refine ab.pure hi rfl ?_
 simp(maxSteps:=9^7) (disch:=try exact dI) only[push_cast,seval]
theorem BD (n:Nat)(m M s:Int)(w:List (List UInt8))(e:List Typ)(f:List TFd)(vn vs:Int)(vt:List UInt8)(vl:List Val)(vf:List Fld):ae Tryz.prog aD 189 [(Typ.mk 1 m M s w e f).pv,(Val.mk 1 vn vs vt vl vf).pv] (.bool (be (n+1) (.mk 1 m M s w e f) (.mk 1 vn vs vt vl vf))):=by
 rw[show be (n+1) (.mk 1 m M s w e f) (.mk 1 vn vs vt vl vf)=true by simp[be,mJ,Typ.kind,Val.kind]]
 refine ae.intro dp (by simp[jl]) ?_
 simp(maxSteps:=9^7) (disch:=try exact dI) only[jl,Typ.pv_mk,Val.pv_mk,push_cast,seval]
set_option maxHeartbeats 4000000 in
theorem Bz (n:Nat)(ih:pP n)(m M s:Int)(w:List (List UInt8))(e:List Typ)(f:List TFd)(vn vs:Int)(vt:List UInt8)(vl:List Val)(vf:List Fld)(hl:vl.length≤9000000000000)(h:∀ y∈vl,∃ x r,e=x::r∧mb n x y):ae Tryz.prog aD 189 [(Typ.mk 8 m M s w e f).pv,(Val.mk 8 vn vs vt vl vf).pv] (.bool (be (n+1) (.mk 8 m M s w e f) (.mk 8 vn vs vt vl vf))):=by
 have hi:=aT vl.length m M
 rw[show be (n+1) (.mk 8 m M s w e f) (.mk 8 vn vs vt vl vf)=(inB vl.length m M&&!(vl.any (fun x=>!(rA (fun e=>be n e x) e)))) by simp[be,mJ,Typ.kind,Val.kind,Val.lst,Typ.min,Typ.max,Typ.elem]]
 generalize inB vl.length m M=b at hi ⊢
 obtain⟨p,hp⟩:∃ p:Val→Bool,p=fun x=>!(rA (fun e=>be n e x) e):=⟨_,rfl⟩
 rw[← hp]
 obtain⟨R,hR⟩:∃ R,R=(b&&!(vl.any p)):=⟨_,rfl⟩
 rw[← hR]
 refine ae.intro dp (by simp[jl]) ?_
 simp(maxSteps:=9^7) (disch:=try exact dI) only[jl,Typ.pv_mk,Val.pv_mk,push_cast,seval]
 refine aA ([]) (fun i:Nat=>[(6,.pv (.int .i64 (i:Int)))]) (fun _=>[]) (fun i=>i≤vl.length∧R=(b&&!((vl.drop i).any p))) (fun i=>vl.length - i) (0) ?_;intro e0 σ0 n0 h0;simp(maxSteps:=9^7) (disch:=try exact dI) only[push_cast,seval] at h0;obtain⟨rfl,rfl,rfl⟩:=h0;refine⟨?_,?_,?_⟩
 ·simp(maxSteps:=9^7) (disch:=try exact dI) only[push_cast,seval]
 ·exact⟨by omega,by simpa using hR⟩
 rintro i ⟨hle,hr⟩
 by_cases hlt:i<vl.length
 ·have hltI:(i:Int)<(vl.length:Int):=by omega
  obtain⟨y,hy⟩:∃ x,vl[i]? = some x:=⟨_,List.getElem?_eq_getElem hlt⟩
  obtain⟨x,r,rfl,hxy⟩:=h y (List.mem_of_getElem? hy)
  have hc:=ih x y hxy
  rw[gX hy,show p y=!(be n x y) by rw[hp];rfl] at hr
  generalize be n x y=q at hc hr
  have hel:¬ ((x::r).length:Int)=0:=by rw[List.length_cons];omega
  obtain⟨k',m',M',s',w',e',f'⟩:=x
  obtain⟨yk,yn,ys,yt,yl,yf⟩:=y
  simp only[Typ.pv_mk,Val.pv_mk] at hc
  cases q with
  | false=>
    simp only[Bool.not_false,Bool.true_or,Bool.not_true,Bool.and_false] at hr
    subst hr
    simp(maxSteps:=9^7) (disch:=try exact dI) only[hy,Option.map_some,Typ.pv_mk,Val.pv_mk,aJ,push_cast,seval]
    refine ab.pure hc rfl ?_
    simp(maxSteps:=9^7) (disch:=try exact dI) only[push_cast,seval]
  | true=>
    simp only[Bool.not_true,Bool.false_or] at hr
    simp(maxSteps:=9^7) (disch:=try exact dI) only[hy,Option.map_some,Typ.pv_mk,Val.pv_mk,aJ,push_cast,seval]
    refine ab.pure hc rfl ?_
    simp(maxSteps:=9^7) (disch:=try exact dI) only[push_cast,seval]
    exact⟨i+1,aV qsZ,⟨by omega,hr⟩,by omega⟩
 ·obtain rfl:i=vl.length:=by omega
  rw[List.drop_length,List.any_nil,Bool.not_false,Bool.and_true] at hr
  subst hr
  simp(maxSteps:=9^7) (disch:=try exact dI) only[Int.lt_irrefl,push_cast,seval]
  refine ab.pure hi rfl ?_
  simp(maxSteps:=9^7) (disch:=try exact dI) only[push_cast,seval]
end Go.Proofs.YtbojpfpliibfbaaGreatDoor
-- many steps
namespace Go.Proofs.YtbojpfpliibfbaaGreatDoor
open Go Go.Ab
attribute [local irreducible] vc
theorem tC {N:Nat}{k m M s:Int}{w:List (List UInt8)}{e:List Typ}{f:List TFd}(hs:bk N (.mk k m M s w e f)):f.length≤9000000000000:=by
 cases N with
 | zero=>exact hs.elim
 | succ N=>simp only[bk] at hs;have:=hs.2.2.1;omega
theorem wc (n:Nat)(ih:pP n)(m M s:Int)(w:List (List UInt8))(e:List Typ)(f:List TFd)(vn vs:Int)(vt:List UInt8)(vl:List Val)(vf:List Fld)(hfl:f.length≤9000000000000)
  (h:∀ g,bf (.mk 10 m M s w e f) vt=some g→∃ y r,vl=y::r∧mb n g.typ y):ae Tryz.prog aD 189 [(Typ.mk 10 m M s w e f).pv,(Val.mk 10 vn vs vt vl vf).pv] (.bool (be (n+1) (.mk 10 m M s w e f) (.mk 10 vn vs vt vl vf))):=by
 have hc:=pm m M s w e f 10 vt hfl
 rw[show be (n+1) (.mk 10 m M s w e f) (.mk 10 vn vs vt vl vf)=Dv (be n) vl (bf (.mk 10 m M s w e f) vt) by simp[be,mJ,Typ.kind,Val.kind,Val.lst,Val.text]]
 rw[show bf (.mk 10 m M s w e f) vt=f.find? (named vt) from if_pos (.inr rfl)] at h ⊢
 simp only[Typ.pv_mk] at hc
 rcases bS (p:=named vt) f 0 with ⟨h1,h2⟩ | ⟨i,g,h1,h2,h3⟩
 ·rw[h1]
  rw[h2] at hc
  simp only[Dv]
  refine ae.intro dp (by simp[jl]) ?_
  simp(maxSteps:=9^7) (disch:=try exact dI) only[jl,Typ.pv_mk,Val.pv_mk,push_cast,seval]
  refine ab.pure hc rfl ?_
  simp(maxSteps:=9^7) (disch:=try exact dI) only[push_cast,seval]
 ·rw[h2] at h ⊢
  rw[h3,Nat.zero_add] at hc
  obtain⟨y,r,rfl,hy⟩:=h g rfl
  have hh:=ih _ _ hy
  obtain⟨n',nm',nd',⟨k',m',M',s',w',e',f'⟩,d'⟩:=g
  simp only[TFd.typ,Dv,nQ] at hh ⊢
  generalize be n (.mk k' m' M' s' w' e' f') y=b at hh ⊢
  obtain⟨yk,yn,ys,yt,yl,yf⟩:=y
  simp only[Typ.pv_mk,Val.pv_mk] at hh
  have hi0:(0:Int)≤(i:Int):=by omega
  refine ae.intro dp (by simp[jl]) ?_
  simp(maxSteps:=9^7) (disch:=try exact dI) only[jl,Typ.pv_mk,Val.pv_mk,push_cast,seval]
  refine ab.pure hc rfl ?_
  simp(maxSteps:=9^7) (disch:=try exact dI) only[h1,Option.map_some,TFd.pv_mk,Typ.pv_mk,ag,aJ,Val.pv_mk,push_cast,seval]
  refine ab.pure hh rfl ?_
  simp(maxSteps:=9^7) (disch:=try exact dI) only[push_cast,seval]
theorem Fl (vn vs:Int)(vt:List UInt8)(vl:List Val)(vf:List Fld)(name:List UInt8)(hl:vf.length≤9000000000000):ae Tryz.prog aD 25 [(Val.mk 9 vn vs vt vl vf).pv,.str name] (.int .i64 (eb (cC name) vf 0)):=by
 refine ae.intro Kq (by simp[F25]) ?_
 simp(maxSteps:=9^7) (disch:=try exact dI) only[F25,Val.pv_mk,push_cast,seval]
 refine aA ([]) (fun i:Nat=>[(5,.pv (.int .i64 (i:Int)))]) (fun _=>[]) (fun i=>i≤vf.length∧eb (cC name) vf 0=eb (cC name) (vf.drop i) i) (fun i=>vf.length - i) (0) ?_;intro e0 σ0 n0 h0;simp(maxSteps:=9^7) (disch:=try exact dI) only[push_cast,seval] at h0;obtain⟨rfl,rfl,rfl⟩:=h0;refine⟨?_,?_,?_⟩
 ·simp(maxSteps:=9^7) (disch:=try exact dI) only[push_cast,seval]
 ·exact⟨by omega,by simp⟩
 rintro i ⟨hi,he⟩
 by_cases hlt:i<vf.length
 ·have hltI:(i:Int)<(vf.length:Int):=by omega
  obtain⟨x,hx⟩:∃ x,vf[i]? = some x:=⟨_,List.getElem?_eq_getElem hlt⟩
  have hhit:=fun h=>em (p:=cC name) hx h
  have hmiss:=fun h=>da (p:=cC name) hx h
  obtain⟨x2,⟨y1,y2,y3,y4,y5,y6⟩⟩:=x
  simp only[cC,Fld.name] at hhit hmiss
  by_cases hn:x2=name
  ·rw[he,hhit (decide_eq_true hn)]
   simp(maxSteps:=9^7) (disch:=try exact dI) only[hx,Option.map_some,hn,Fld.pv_mk,Val.pv_mk,ag,push_cast,seval]
  ·simp(maxSteps:=9^7) (disch:=try exact dI) only[hx,Option.map_some,hn,Fld.pv_mk,Val.pv_mk,ag,push_cast,seval]
   exact⟨i+1,aV qsZ,⟨by omega,by rw[he];exact hmiss (decide_eq_false hn)⟩,by omega⟩
 ·obtain rfl:i=vf.length:=by omega
  rw[he,en (by omega)]
  simp(maxSteps:=9^7) (disch:=try exact dI) only[Int.lt_irrefl,push_cast,seval]
end Go.Proofs.YtbojpfpliibfbaaGreatDoor
