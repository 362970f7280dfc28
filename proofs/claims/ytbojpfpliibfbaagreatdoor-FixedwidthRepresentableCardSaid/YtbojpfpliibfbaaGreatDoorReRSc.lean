/- A part of the proof for FixedwidthRepresentableCardSaid. -/
import Derived.Test.YtbojpfpliibfbaaGreatDoorReRS9
import Derived.Test.YtbojpfpliibfbaaGreatDoorReRS6
set_option maxRecDepth 100000
set_option linter.unusedVariables false
set_option linter.unusedSimpArgs false
-- many steps
namespace Go.Proofs.YtbojpfpliibfbaaGreatDoor
open Go Go.Ab
attribute [local irreducible] vc
def rI (p:Typ→Bool):List Typ→Bool
 | []=>false
 | x::_=>p x
def nS (p:Val→Bool):List Val→Bool
 | []=>false
 | x::_=>p x
def DL (p:Typ→Val→Bool)(l:List Val):Option TFd→Bool
 | none=>false
 | some g=>nS (p g.typ) l
def qH (p:Typ→Val→Bool)(v:Val):Option TFd→Bool
 | none=>false
 | some g=>p g.typ v
def Lg (t:Typ)(v:Val):Bool:=inB v.num t.min t.max&&decide (v.scale=t.scale)
def LG (t:Typ)(v:Val):Bool:=if 0<t.words.length then t.words.any fun x=>decide (x=v.text) else inB v.text.length t.min t.max
def mJ (p:Typ→Val→Bool)(t:Typ)(v:Val):Bool:=
 if t.kind=2∨t.kind=6∨t.kind=7∨t.kind=3 then Lg t v else if t.kind=4 then LG t v else if t.kind=5 then inB v.text.length t.min t.max
 else if t.kind=8 then inB v.lst.length t.min t.max&&!(v.lst.any fun x=>!(rI (fun e=>p e x) t.elem)) else if t.kind=10 then DL p v.lst (bi t v.text)
 else if t.kind=9 then (v.fields.all fun x=>qH p x.value (bi t x.name))&&!(t.fields.any (gB v)) else true
def bg:Nat→Typ→Val→Bool
 | 0,_,_=>false
 | n+1,t,v=>decide (v.kind=t.kind)&&mJ (bg n) t v
def mb:Nat→Typ→Val→Prop
 | 0,_,_=>False
 | n+1,t,v=>(∃ N,bm N t)∧(1≤t.kind∧t.kind≤10)∧t.words.length≤9000000000000∧v.ok∧v.lst.length≤9000000000000∧v.fields.length≤9000000000000∧(v.kind=t.kind →
   (t.kind=2∨t.kind=6∨t.kind=7→v.scale=t.scale)∧(t.kind=8→∀ y∈v.lst,∃ x r,t.elem=x::r∧mb n x y)∧(t.kind=10→∀ g,bi t v.text=some g→∃ y r,v.lst=y::r∧mb n g.typ y)∧(t.kind=9→∀ x∈v.fields,∀ g,bi t x.name=some g→mb n g.typ x.value))
def mH (n:Nat):Prop:=∀ t v,mb n t v→ag Tryz.prog aD 234 [t.pv,v.pv] (.bool (bg n t v))
theorem wo (n:Nat)(t:Typ)(v:Val)(h:¬ v.kind=t.kind):ag Tryz.prog aD 234 [t.pv,v.pv] (.bool (bg (n+1) t v)):=by
 rw[show bg (n+1) t v=false by simp[bg,h]]
 obtain⟨k,m,M,s,w,e,f⟩:=t
 obtain⟨vk,vn,vs,vt,vl,vf⟩:=v
 simp only[Val.kind,Typ.kind] at h
 refine ag.intro dv (by simp[jl]) ?_
 simp(maxSteps:=9^7) (disch:=try exact dI) only[jl,Typ.pv_mk,Val.pv_mk,push_cast,seval]
theorem rK (n:Nat)(k m M s:Int)(w:List (List UInt8))(e:List Typ)(f:List TFd)(vn vs:Int)(vt:List UInt8)(vl:List Val)(vf:List Fld)(hk:k=2∨k=6∨k=7∨k=3):ag Tryz.prog aD 234 [(Typ.mk k m M s w e f).pv,(Val.mk k vn vs vt vl vf).pv] (.bool (bg (n+1) (.mk k m M s w e f) (.mk k vn vs vt vl vf))):=by
 have hi:=ec vn m M
 rw[show bg (n+1) (.mk k m M s w e f) (.mk k vn vs vt vl vf)=(inB vn m M&&decide (vs=s)) by simp[bg,mJ,Typ.kind,Val.kind,hk,Lg,Val.num,Typ.min,Typ.max,Val.scale,Typ.scale];rfl]
 generalize inB vn m M=b at hi ⊢
 by_cases hs:vs=s
 ·rcases hk with rfl | rfl | rfl | rfl
  all_goals
   refine ag.intro dv (by simp[jl]) ?_
   simp(maxSteps:=9^7) (disch:=try exact dI) only[jl,Typ.pv_mk,Val.pv_mk,push_cast,seval]
   refine ab.pure hi rfl ?_
   cases b with
   | false=>simp(maxSteps:=9^7) (disch:=try exact dI) only[push_cast,seval]
   | true=>simp(maxSteps:=9^7) (disch:=try exact dI) only[hs,push_cast,seval]
 ·rcases hk with rfl | rfl | rfl | rfl
  all_goals
   refine ag.intro dv (by simp[jl]) ?_
   simp(maxSteps:=9^7) (disch:=try exact dI) only[jl,Typ.pv_mk,Val.pv_mk,push_cast,seval]
   refine ab.pure hi rfl ?_
   cases b with
   | false=>simp(maxSteps:=9^7) (disch:=try exact dI) only[push_cast,seval]
   | true=>simp(maxSteps:=9^7) (disch:=try exact dI) only[hs,push_cast,seval]
theorem BS (n:Nat)(m M s:Int)(w:List (List UInt8))(e:List Typ)(f:List TFd)(vn vs:Int)(vt:List UInt8)(vl:List Val)(vf:List Fld)(hw:w.length≤9000000000000):ag Tryz.prog aD 234 [(Typ.mk 4 m M s w e f).pv,(Val.mk 4 vn vs vt vl vf).pv] (.bool (bg (n+1) (.mk 4 m M s w e f) (.mk 4 vn vs vt vl vf))):=by
 have hi:=ec vt.length m M
 have hc:=j0 w vt hw
 rw[show bg (n+1) (.mk 4 m M s w e f) (.mk 4 vn vs vt vl vf)=if 0<w.length then w.any (fun x=>decide (x=vt)) else inB vt.length m M by simp[bg,mJ,Typ.kind,Val.kind,LG,Val.text,Typ.min,Typ.max,Typ.words];rfl]
 refine ag.intro dv (by simp[jl]) ?_
 by_cases h0:0<w.length
 ·have h0I:(0:Int)<(w.length:Int):=by omega
  rw[if_pos h0]
  generalize w.any (fun x=>decide (x=vt))=b at hc ⊢
  simp(maxSteps:=9^7) (disch:=try exact dI) only[jl,Typ.pv_mk,Val.pv_mk,push_cast,seval]
  refine ab.pure hc rfl ?_
  simp(maxSteps:=9^7) (disch:=try exact dI) only[push_cast,seval]
 ·have h0I:¬ (0:Int)<(w.length:Int):=by omega
  rw[if_neg h0]
  generalize inB vt.length m M=b at hi ⊢
  simp(maxSteps:=9^7) (disch:=try exact dI) only[jl,Typ.pv_mk,Val.pv_mk,push_cast,seval]
  refine ab.pure hi rfl ?_
  simp(maxSteps:=9^7) (disch:=try exact dI) only[push_cast,seval]
theorem BR (n:Nat)(m M s:Int)(w:List (List UInt8))(e:List Typ)(f:List TFd)(vn vs:Int)(vt:List UInt8)(vl:List Val)(vf:List Fld):ag Tryz.prog aD 234 [(Typ.mk 5 m M s w e f).pv,(Val.mk 5 vn vs vt vl vf).pv] (.bool (bg (n+1) (.mk 5 m M s w e f) (.mk 5 vn vs vt vl vf))):=by
 have hi:=ec vt.length m M
 rw[show bg (n+1) (.mk 5 m M s w e f) (.mk 5 vn vs vt vl vf)=inB vt.length m M by simp[bg,mJ,Typ.kind,Val.kind,Val.text,Typ.min,Typ.max]]
 generalize inB vt.length m M=b at hi ⊢
 refine ag.intro dv (by simp[jl]) ?_
 simp(maxSteps:=9^7) (disch:=try exact dI) only[jl,Typ.pv_mk,Val.pv_mk,push_cast,seval]
 refine ab.pure hi rfl ?_
 simp(maxSteps:=9^7) (disch:=try exact dI) only[push_cast,seval]
theorem Ju (n:Nat)(ih:mH n)(m M s:Int)(w:List (List UInt8))(x:Typ)(r:List Typ)(f:List TFd)(y:Val)(h:mb n x y):ag Tryz.prog aD 264 [y.pv,.eptr [(Typ.mk 8 m M s w (x::r) f).pv] 0 0] (.bool (!bg n x y)):=by
 have hc:=ih x y h
 generalize bg n x y=b at hc ⊢
 obtain⟨k',m',M',s',w',e',f'⟩:=x
 obtain⟨vk,vn,vs,vt,vl,vf⟩:=y
 simp only[Typ.pv_mk,Val.pv_mk] at hc
 refine ag.intro GM (by simp[M0]) ?_
 simp(maxSteps:=9^7) (disch:=try exact dI) only[M0,Typ.pv_mk,Val.pv_mk,aK,push_cast,seval]
 refine ab.pure hc rfl ?_
 simp(maxSteps:=9^7) (disch:=try exact dI) only[push_cast,seval]
theorem BQ (n:Nat)(ih:mH n)(m M s:Int)(w:List (List UInt8))(e:List Typ)(f:List TFd)(vn vs:Int)(vt:List UInt8)(vl:List Val)(vf:List Fld)(hl:vl.length≤9000000000000)(h:∀ y∈vl,∃ x r,e=x::r∧mb n x y):ag Tryz.prog aD 234 [(Typ.mk 8 m M s w e f).pv,(Val.mk 8 vn vs vt vl vf).pv] (.bool (bg (n+1) (.mk 8 m M s w e f) (.mk 8 vn vs vt vl vf))):=by
 have hi:=ec vl.length m M
 have hc:=n7 vl 264 [.eptr [(Typ.mk 8 m M s w e f).pv] 0 0] (fun x=>!(rI (fun e=>bg n e x) e)) (fun y hy=>by
  obtain⟨x,r,rfl,hx⟩:=h y hy
  exact Ju n ih m M s w x r f y hx) hl
 rw[show bg (n+1) (.mk 8 m M s w e f) (.mk 8 vn vs vt vl vf)=(inB vl.length m M&&!(vl.any (fun x=>!(rI (fun e=>bg n e x) e)))) by simp[bg,mJ,Typ.kind,Val.kind,Val.lst,Typ.min,Typ.max,Typ.elem]]
 generalize inB vl.length m M=b at hi ⊢
 generalize vl.any (fun x=>!(rI (fun e=>bg n e x) e))=q at hc ⊢
 simp only[Typ.pv_mk] at hc
 refine ag.intro dv (by simp[jl]) ?_
 simp(maxSteps:=9^7) (disch:=try exact dI) only[jl,Typ.pv_mk,Val.pv_mk,push_cast,seval]
 refine ab.pure hi rfl ?_
 cases b with
 | false=>simp(maxSteps:=9^7) (disch:=try exact dI) only[push_cast,seval]
 | true=>
   simp(maxSteps:=9^7) (disch:=try exact dI) only[push_cast,seval]
   refine ab.pure hc rfl ?_
   simp(maxSteps:=9^7) (disch:=try exact dI) only[push_cast,seval]
end Go.Proofs.YtbojpfpliibfbaaGreatDoor
-- many steps
namespace Go.Proofs.YtbojpfpliibfbaaGreatDoor
open Go Go.Ab
attribute [local irreducible] vc
theorem wp (n:Nat)(ih:mH n)(m M s:Int)(w:List (List UInt8))(e:List Typ)(f:List TFd)(vn vs:Int)(vt:List UInt8)(vl:List Val)(vf:List Fld)(N:Nat)(hs:bm N (.mk 10 m M s w e f))
  (h:∀ g,bi (.mk 10 m M s w e f) vt=some g→∃ y r,vl=y::r∧mb n g.typ y):ag Tryz.prog aD 234 [(Typ.mk 10 m M s w e f).pv,(Val.mk 10 vn vs vt vl vf).pv] (.bool (bg (n+1) (.mk 10 m M s w e f) (.mk 10 vn vs vt vl vf))):=by
 have hc:=pq N _ vt hs
 rw[show bg (n+1) (.mk 10 m M s w e f) (.mk 10 vn vs vt vl vf)=DL (bg n) vl (bi (.mk 10 m M s w e f) vt) by simp[bg,mJ,Typ.kind,Val.kind,Val.lst,Val.text]]
 generalize bi (.mk 10 m M s w e f) vt=o at hc h ⊢
 simp only[Typ.pv_mk] at hc
 cases o with
 | none=>
   simp only[tfR,Option.getD_none,Option.isSome_none,ju,TFd.pv_mk,Typ.pv_mk,ae,DL] at hc ⊢
   refine ag.intro dv (by simp[jl]) ?_
   simp(maxSteps:=9^7) (disch:=try exact dI) only[jl,Typ.pv_mk,Val.pv_mk,push_cast,seval]
   refine ab.pure hc rfl ?_
   simp(maxSteps:=9^7) (disch:=try exact dI) only[push_cast,seval]
 | some g=>
   obtain⟨y,r,rfl,hy⟩:=h g rfl
   have hh:=ih _ _ hy
   obtain⟨n',nm',nd',⟨k',m',M',s',w',e',f'⟩,d'⟩:=g
   simp only[TFd.typ,DL,nS] at hh ⊢
   generalize bg n (.mk k' m' M' s' w' e' f') y=b at hh ⊢
   obtain⟨yk,yn,ys,yt,yl,yf⟩:=y
   simp only[tfR,Option.getD_some,Option.isSome_some,TFd.pv_mk,Typ.pv_mk,Val.pv_mk,ae] at hc hh ⊢
   refine ag.intro dv (by simp[jl]) ?_
   simp(maxSteps:=9^7) (disch:=try exact dI) only[jl,Typ.pv_mk,Val.pv_mk,aK,push_cast,seval]
   refine ab.pure hc rfl ?_
   simp(maxSteps:=9^7) (disch:=try exact dI) only[aK,Val.pv_mk,push_cast,seval]
   refine ab.pure hh rfl ?_
   simp(maxSteps:=9^7) (disch:=try exact dI) only[push_cast,seval]
theorem nT (n:Nat)(k m M s:Int)(w:List (List UInt8))(e:List Typ)(f:List TFd)(vn vs:Int)(vt:List UInt8)(vl:List Val)(vf:List Fld)(h1:¬ (k=2∨k=6∨k=7∨k=3))(h4:¬ k=4)(h5:¬ k=5)(h8:¬ k=8)(h10:¬ k=10)(h9:¬ k=9):ag Tryz.prog aD 234 [(Typ.mk k m M s w e f).pv,(Val.mk k vn vs vt vl vf).pv] (.bool (bg (n+1) (.mk k m M s w e f) (.mk k vn vs vt vl vf))):=by
 rw[show bg (n+1) (.mk k m M s w e f) (.mk k vn vs vt vl vf)=true by simp[bg,mJ,Typ.kind,Val.kind,h1,h4,h5,h8,h9,h10]]
 have a2:¬ k=2:=by omega
 have a6:¬ k=6:=by omega
 have a7:¬ k=7:=by omega
 have a3:¬ k=3:=by omega
 refine ag.intro dv (by simp[jl]) ?_
 simp(maxSteps:=9^7) (disch:=try exact dI) only[jl,Typ.pv_mk,Val.pv_mk,push_cast,seval]
theorem pQ {α:Type}{p:α→Bool}{l:List α}{i:Nat}{x:α}(h:l[i]? = some x):(l.drop i).all p=(p x&&(l.drop (i+1)).all p):=by
 have hi:=(List.getElem?_eq_some_iff.1 h).1
 have he:l[i]=x:=(List.getElem?_eq_some_iff.1 h).2
 rw[List.drop_eq_getElem_cons hi,he,List.all_cons]
set_option maxHeartbeats 4000000 in
theorem BP (n:Nat)(ih:mH n)(m M s:Int)(w:List (List UInt8))(e:List Typ)(f:List TFd)(vn vs:Int)(vt:List UInt8)(vl:List Val)(vf:List Fld)(N:Nat)(hs:bm N (.mk 9 m M s w e f))(hv:(Val.mk 9 vn vs vt vl vf).ok)(hvf:vf.length≤9000000000000)
  (h:∀ x∈vf,∀ g,bi (.mk 9 m M s w e f) x.name=some g→mb n g.typ x.value):ag Tryz.prog aD 234 [(Typ.mk 9 m M s w e f).pv,(Val.mk 9 vn vs vt vl vf).pv] (.bool (bg (n+1) (.mk 9 m M s w e f) (.mk 9 vn vs vt vl vf))):=by
 have hfl:f.length≤9000000000000:=by
  cases N with
  | zero=>exact hs.elim
  | succ N=>simp only[bm] at hs;have:=hs.2.2.1;omega
 have hfld:=fun nm=>pq N _ nm hs
 have hla:=j1 f 266 [.eptr [(Val.mk 9 vn vs vt vl vf).pv] 0 0] (gB (.mk 9 vn vs vt vl vf)) (fun g _=>Jt _ g hv rfl hvf) hfl
 rw[show bg (n+1) (.mk 9 m M s w e f) (.mk 9 vn vs vt vl vf)=((vf.all fun x=>qH (bg n) x.value (bi (.mk 9 m M s w e f) x.name))&&!(f.any (gB (.mk 9 vn vs vt vl vf)))) by simp[bg,mJ,Typ.kind,Val.kind,Val.fields,Typ.fields]]
 generalize f.any (gB (.mk 9 vn vs vt vl vf))=q at hla ⊢
 obtain⟨T,hT⟩:∃ T,T=bi (.mk 9 m M s w e f):=⟨_,rfl⟩
 rw[← hT] at h ⊢
 have hfld:∀ nm,ag Tryz.prog aD 265 [(Typ.mk 9 m M s w e f).pv,.str nm] (tfR (T nm)):=fun nm=>by rw[hT];exact hfld nm
 clear hT
 simp only[Typ.pv_mk,Val.pv_mk] at hfld hla
 obtain⟨p,hp⟩:∃ p:Fld→Bool,p=fun x=>qH (bg n) x.value (T x.name):=⟨_,rfl⟩
 rw[← hp]
 obtain⟨R,hR⟩:∃ R,R=(vf.all p&&!q):=⟨_,rfl⟩
 rw[← hR]
 refine ag.intro dv (by simp[jl]) ?_
 simp(maxSteps:=9^7) (disch:=try exact dI) only[jl,Typ.pv_mk,Val.pv_mk,push_cast,seval]
 refine aw ([]) (fun i:Nat=>[(107,.pv (.int .i64 (i:Int)))]) (fun _=>[]) (fun i=>i≤vf.length∧R=((vf.drop i).all p&&!q)) (fun i=>vf.length - i) (0) ?_;intro e0 σ0 n0 h0;simp(maxSteps:=9^7) (disch:=try exact dI) only[push_cast,seval] at h0;obtain⟨rfl,rfl,rfl⟩:=h0;refine⟨?_,?_,?_⟩
 ·simp(maxSteps:=9^7) (disch:=try exact dI) only[push_cast,seval]
 ·exact⟨by omega,by simpa using hR⟩
 rintro i ⟨hi,hr⟩
 by_cases hlt:i<vf.length
 ·have hltI:(i:Int)<(vf.length:Int):=by omega
  obtain⟨x,hx⟩:∃ x,vf[i]? = some x:=⟨_,List.getElem?_eq_getElem hlt⟩
  rw[pQ hx] at hr
  have hph:=h x (List.mem_of_getElem? hx)
  have hc:=hfld x.name
  rw[show p x=qH (bg n) x.value (T x.name) by rw[hp]] at hr
  generalize T x.name=o at hph hc hr
  obtain⟨xn,y⟩:=x
  simp only[Fld.name,Fld.value] at hph hc hr
  cases o with
  | none=>
    simp only[qH,Bool.false_and] at hr
    subst hr
    obtain⟨yk,yn,ys,yt,yl,yf⟩:=y
    simp only[tfR,Option.getD_none,Option.isSome_none,ju,TFd.pv_mk,Typ.pv_mk,ae] at hc
    simp(maxSteps:=9^7) (disch:=try exact dI) only[hx,Option.map_some,Fld.pv_mk,Val.pv_mk,ae,push_cast,seval]
    refine ab.pure hc rfl ?_
    simp(maxSteps:=9^7) (disch:=try exact dI) only[push_cast,seval]
  | some g=>
    have hh:=ih _ _ (hph g rfl)
    simp only[qH] at hr
    obtain⟨n',nm',nd',⟨k',m',M',s',w',e',f'⟩,d'⟩:=g
    simp only[TFd.typ] at hh hr
    generalize bg n (.mk k' m' M' s' w' e' f') y=b at hh hr
    obtain⟨yk,yn,ys,yt,yl,yf⟩:=y
    simp only[tfR,Option.getD_some,Option.isSome_some,TFd.pv_mk,Typ.pv_mk,Val.pv_mk,ae] at hc hh
    cases b with
    | false=>
      simp only[Bool.false_and] at hr
      subst hr
      simp(maxSteps:=9^7) (disch:=try exact dI) only[hx,Option.map_some,Fld.pv_mk,Val.pv_mk,ae,push_cast,seval]
      refine ab.pure hc rfl ?_
      simp(maxSteps:=9^7) (disch:=try exact dI) only[push_cast,seval]
      refine ab.pure hh rfl ?_
      simp(maxSteps:=9^7) (disch:=try exact dI) only[push_cast,seval]
    | true=>
      rw[Bool.true_and] at hr
      simp(maxSteps:=9^7) (disch:=try exact dI) only[hx,Option.map_some,Fld.pv_mk,Val.pv_mk,ae,push_cast,seval]
      refine ab.pure hc rfl ?_
      simp(maxSteps:=9^7) (disch:=try exact dI) only[push_cast,seval]
      refine ab.pure hh rfl ?_
      simp(maxSteps:=9^7) (disch:=try exact dI) only[push_cast,seval]
      exact⟨i+1,aT qsZ,⟨by omega,hr⟩,by omega⟩
 ·obtain rfl:i=vf.length:=by omega
  rw[List.drop_length,List.all_nil,Bool.true_and] at hr
  subst hr
  simp(maxSteps:=9^7) (disch:=try exact dI) only[Int.lt_irrefl,push_cast,seval]
  refine ab.pure hla rfl ?_
  simp(maxSteps:=9^7) (disch:=try exact dI) only[push_cast,seval]
theorem Dd:∀ n,mH n
 | 0=>fun _ _ h=>h.elim
 | n+1=>fun t v h=>by
   have ih:=Dd n
   simp only[mb] at h
   obtain⟨⟨N,hs⟩,_,hw,hv,hl,hf,h⟩:=h
   by_cases hk:v.kind=t.kind
   ·have h:=h hk
    obtain⟨k,m,M,s,w,e,f⟩:=t
    obtain⟨vk,vn,vs,vt,vl,vf⟩:=v
    simp only[Val.kind,Typ.kind,Typ.words,Val.lst,Val.fields,Val.text,Typ.elem] at hk h hw hl hf
    subst hk
    obtain⟨_,h8,h10,h9⟩:=h
    by_cases h1:vk=2∨vk=6∨vk=7∨vk=3
    ·exact rK n _ _ _ _ _ _ _ _ _ _ _ _ h1
    by_cases h4:vk=4
    ·subst h4;exact BS n _ _ _ _ _ _ _ _ _ _ _ hw
    by_cases h5:vk=5
    ·subst h5;exact BR n _ _ _ _ _ _ _ _ _ _ _
    by_cases h8':vk=8
    ·subst h8';exact BQ n ih _ _ _ _ _ _ _ _ _ _ _ hl (h8 rfl)
    by_cases h10':vk=10
    ·subst h10';exact wp n ih _ _ _ _ _ _ _ _ _ _ _ N hs (h10 rfl)
    by_cases h9':vk=9
    ·subst h9';exact BP n ih _ _ _ _ _ _ _ _ _ _ _ N hs hv hf (h9 rfl)
    exact nT n _ _ _ _ _ _ _ _ _ _ _ _ h1 h4 h5 h8' h10' h9'
   ·exact wo n t v hk
end Go.Proofs.YtbojpfpliibfbaaGreatDoor
namespace Go.Proofs.YtbojpfpliibfbaaGreatDoor
open Go Go.Ab
attribute [local irreducible] vc
theorem eV:∀ (n:Nat) (t:Typ),bm n t→bm (n+1) t
 | 0,_,h=>h.elim
 | n+1,.mk k m M s w e f,h=>by
   obtain⟨h1,h2,h3,h4,h5⟩:=h
   exact⟨h1,h2,h3,fun x hx=>eV n x (h4 x hx),fun g hg=>⟨(h5 g hg).1,(h5 g hg).2.1,eV n g.typ (h5 g hg).2.2⟩⟩
theorem ff {n m:Nat}(h:n≤m){t:Typ}(ht:bm n t):bm m t:=by
 induction h with
 | refl=>exact ht
 | step _ ih=>exact eV _ _ ih
theorem ib {α:Type}(g:α→Typ):∀ l:List α,(∀ x∈l,∃ n,bm n (g x))→∃ n,∀ x∈l,bm n (g x)
 | [],_=>⟨0,by simp⟩
 | x::r,h=>by
   obtain⟨n,hn⟩:=h x (by simp)
   obtain⟨m,hm⟩:=ib g r fun y hy=>h y (List.mem_cons_of_mem _ hy)
   refine⟨max n m,fun y hy=>?_⟩
   rcases List.mem_cons.1 hy with rfl | hy
   ·exact ff (Nat.le_max_left _ _) hn
   ·exact ff (Nat.le_max_right _ _) (hm y hy)
theorem ki:∀ (t:Typ),t.ok→∃ n,bm n t
 | .mk k m M s w e f,h=>by
   rw[Typ.ok_mk] at h
   obtain⟨_,_,_,_,h1,_,h2,h3,h4,h5⟩:=h
   have e1:∀ x∈e,∃ n,bm n x:=fun x hx=>ki x (h3 x hx)
   have f1:∀ g∈f,∃ n,bm n g.typ:=fun g hg=>by
    have hg':=h5 g hg
    obtain⟨a1,a2,a3,a4,a5⟩:=g
    rw[TFd.ok_mk] at hg'
    exact ki a4 hg'.2.2.2.1
   obtain⟨a,ha⟩:=ib id e e1
   obtain⟨b,hb⟩:=ib TFd.typ f f1
   refine⟨max a b+1,h1,h2,h4,fun x hx=>ff (Nat.le_max_left _ _) (ha x hx),fun g hg=>?_⟩
   have hg':=h5 g hg
   have hgt:=ff (Nat.le_max_right a b) (hb g hg)
   obtain⟨a1,a2,a3,a4,a5⟩:=g
   rw[TFd.ok_mk] at hg'
   exact⟨hg'.2.2.2.2.1,hg'.2.2.2.2.2,hgt⟩
termination_by t=>SizeOf.sizeOf t
decreasing_by
 all_goals simp_wf
 ·have:=List.sizeOf_lt_of_mem hx;omega
 ·have:=List.sizeOf_lt_of_mem hg
  simp only[TFd.mk.sizeOf_spec] at this
  omega
end Go.Proofs.YtbojpfpliibfbaaGreatDoor
