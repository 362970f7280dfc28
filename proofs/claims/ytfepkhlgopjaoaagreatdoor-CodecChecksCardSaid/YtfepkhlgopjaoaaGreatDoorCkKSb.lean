/- A part of the proof for CodecChecksCardSaid. -/
import Derived.Test.YtfepkhlgopjaoaaGreatDoorCkKM3
set_option linter.unusedVariables false
set_option linter.unusedSimpArgs false
set_option maxRecDepth 100000
-- many steps
namespace Go.Proofs.YtfepkhlgopjaoaaGreatDoor
open Go Go.Ab
attribute [local irreducible] vc
theorem BU (l:List Val)(g:Nat)(cs:List PV)(q:Val→Bool)(hq:∀ x∈l,aq Tryz.prog aA g (x.pv::cs) (.bool (q x)))(hl:l.length≤9000000000000) :
  aq Tryz.prog aA 235 [.list (l.map Val.pv),.clo g [] cs] (.int .i64 (dm q l 0)):=by
 refine aq.intro G6 (by simp[MR]) ?_
 simp(maxSteps:=9^7) (disch:=try exact dI) only[MR,push_cast,seval]
 refine aB ([]) (fun m:Nat=>[(8,.pv (.int .i64 (m:Int)))]) (fun m=>[]) (fun m=>m≤l.length∧dm q l 0=dm q (l.drop m) m) (fun m=>l.length - m) (0) ?_;intro e0 σ0 n0 h0;simp(maxSteps:=9^7) (disch:=try exact dI) only[push_cast,seval] at h0;obtain⟨rfl,rfl,rfl⟩:=h0;refine⟨?_,?_,?_⟩
 ·simp(maxSteps:=9^7) (disch:=try exact dI) only[push_cast,seval]
 ·exact⟨by omega,by simp⟩
 ·rintro m ⟨hm,he⟩
  by_cases hlt:m<l.length
  ·have hltI:(m:Int)<l.length:=by omega
   obtain⟨x,hx⟩:∃ x,l[m]? = some x:=⟨_,List.getElem?_eq_getElem hlt⟩
   have hcall:=hq x (List.mem_of_getElem? hx)
   have hcl:x.pv.cells.length=6:=by cases x;rw[Val.pv_mk];rfl
   have hag:x.pv.isAgg=true:=by cases x;rw[Val.pv_mk];rfl
   simp(maxSteps:=9^7) (disch:=try exact dI) only[hx,hcl,hag,push_cast,seval]
   refine ab.pure hcall (by exact oq (x.pv::cs)) ?_
   cases hqx:q x with
   | true=>
     rw[he,dw hx hqx]
     simp(maxSteps:=9^7) (disch:=try exact dI) only[push_cast,seval]
   | false=>
     rw[cb hx hqx] at he
     simp(maxSteps:=9^7) (disch:=try exact dI) only[push_cast,seval]
     exact⟨m+1,bQ qsZ,⟨by omega,he⟩,by omega⟩
  ·have hltI:¬ (m:Int)<l.length:=by omega
   rw[he,dx hlt]
   simp(maxSteps:=9^7) (disch:=try exact dI) only[push_cast,seval]
theorem nH (l:List Val)(g:Nat)(cs:List PV)(q:Val→Bool)(hq:∀ x∈l,aq Tryz.prog aA g (x.pv::cs) (.bool (q x)))(hl:l.length≤9000000000000) :
  aq Tryz.prog aA 144 [.list (l.map Val.pv),.clo g [] cs] (.bool (l.any q)):=by
 have h94:=BU l g cs q hq hl
 have hfa:=cL (p:=q) l
 refine aq.intro Hy (by simp[Lv]) ?_
 rcases bv (p:=q) l 0 with ⟨h1,h2⟩ | ⟨k,x,h1,h2,h3⟩
 ·rw[h2] at h94
  rw[h1] at hfa
  rw[← hfa]
  simp(maxSteps:=9^7) (disch:=try exact dI) only[Lv,push_cast,seval]
  refine ab.pure h94 rfl ?_
  simp(maxSteps:=9^7) (disch:=try exact dI) only[push_cast,seval]
  exact .refl _
 ·rw[h3] at h94
  rw[h2] at hfa
  rw[← hfa]
  have hk:(0:Int)≤((0+k:Nat):Int):=by omega
  generalize ((0+k:Nat):Int)=z at *
  simp(maxSteps:=9^7) (disch:=try exact dI) only[Lv,push_cast,seval]
  refine ab.pure h94 rfl ?_
  simp(maxSteps:=9^7) (disch:=try exact dI) only[push_cast,seval]
  exact .refl _
def rk (v:Val):TFd→Bool
 | .mk _ nm nd _ _=>(v.fields.find? (fD nm)).isNone&&!decide (nd=2)
theorem JL (v:Val)(g:TFd)(hv:v.ok)(hk:v.kind=9)(h:v.fields.length≤9000000000000):aq Tryz.prog aA 147 [g.pv,.eptr [v.pv] 0 0] (.bool (rk v g)):=by
 obtain⟨n',nm',nd',⟨k',m',M',s',w',e',f'⟩,d'⟩:=g
 have h52:=Cn v nm' hv hk h
 simp only[rk]
 generalize v.fields.find? (fD nm')=o at h52 ⊢
 obtain⟨vk,vn,vs,vt,vl,vf⟩:=v
 simp only[Val.pv_mk] at h52
 refine aq.intro Hv (by simp[La]) ?_
 cases o with
 | none=>
   simp only[vlR,Option.map_none,Option.getD_none,Option.isSome_none,Option.isNone_none,D6,Val.pv_mk] at h52 ⊢
   by_cases hnd:nd'=2
   ·simp(maxSteps:=9^7) (disch:=try exact dI) only[La,Val.pv_mk,TFd.pv_mk,Typ.pv_mk,ae,push_cast,seval]
    refine ab.pure h52 rfl ?_
    simp(maxSteps:=9^7) (disch:=try exact dI) only[hnd,push_cast,seval]
   ·simp(maxSteps:=9^7) (disch:=try exact dI) only[La,Val.pv_mk,TFd.pv_mk,Typ.pv_mk,ae,push_cast,seval]
    refine ab.pure h52 rfl ?_
    simp(maxSteps:=9^7) (disch:=try exact dI) only[hnd,push_cast,seval]
 | some x=>
   obtain⟨xn,⟨xk,xi,xs,xt,xl,xf⟩⟩:=x
   simp only[vlR,Option.map_some,Option.getD_some,Option.isSome_some,Option.isNone_some,Fld.value,Val.pv_mk] at h52 ⊢
   simp(maxSteps:=9^7) (disch:=try exact dI) only[La,Val.pv_mk,TFd.pv_mk,Typ.pv_mk,ae,push_cast,seval]
   refine ab.pure h52 rfl ?_
   simp(maxSteps:=9^7) (disch:=try exact dI) only[push_cast,seval]
end Go.Proofs.YtfepkhlgopjaoaaGreatDoor
-- many steps
namespace Go.Proofs.YtfepkhlgopjaoaaGreatDoor
open Go Go.Ab
attribute [local irreducible] vc
def B4 (p:Typ→Bool):List Typ→Bool
 | []=>false
 | x::_=>p x
def wG (p:Val→Bool):List Val→Bool
 | []=>false
 | x::_=>p x
def Li (p:Typ→Val→Bool)(l:List Val):Option TFd→Bool
 | none=>false
 | some g=>wG (p g.typ) l
def HV (p:Typ→Val→Bool)(v:Val):Option TFd→Bool
 | none=>false
 | some g=>p g.typ v
def Nl (t:Typ)(v:Val):Bool:=inB v.num t.min t.max&&decide (v.scale=t.scale)
def Nj (t:Typ)(v:Val):Bool:=if 0<t.words.length then t.words.any fun x=>decide (x=v.text) else inB v.text.length t.min t.max
def DG (p:Typ→Val→Bool)(t:Typ)(v:Val):Bool:=
 if t.kind=2∨t.kind=6∨t.kind=7∨t.kind=3 then Nl t v else if t.kind=4 then Nj t v else if t.kind=5 then inB v.text.length t.min t.max
 else if t.kind=8 then inB v.lst.length t.min t.max&&!(v.lst.any fun x=>!(B4 (fun e=>p e x) t.elem)) else if t.kind=10 then Li p v.lst (bw t v.text)
 else if t.kind=9 then (v.fields.all fun x=>HV p x.value (bw t x.name))&&!(t.fields.any (rk v)) else true
def cK:Nat→Typ→Val→Bool
 | 0,_,_=>false
 | n+1,t,v=>decide (v.kind=t.kind)&&DG (cK n) t v
def wJ:Nat→Typ→Val→Prop
 | 0,_,_=>False
 | n+1,t,v=>(∃ N,be N t)∧(1≤t.kind∧t.kind≤10)∧t.words.length≤9000000000000∧v.ok∧v.lst.length≤9000000000000∧v.fields.length≤9000000000000∧(v.kind=t.kind →
   (t.kind=2∨t.kind=6∨t.kind=7→v.scale=t.scale)∧(t.kind=8→∀ y∈v.lst,∃ x r,t.elem=x::r∧wJ n x y)∧(t.kind=10→∀ g,bw t v.text=some g→∃ y r,v.lst=y::r∧wJ n g.typ y)∧(t.kind=9→∀ x∈v.fields,∀ g,bw t x.name=some g→wJ n g.typ x.value))
def lO (n:Nat):Prop:=∀ t v,wJ n t v→aq Tryz.prog aA 79 [t.pv,v.pv] (.bool (cK n t v))
theorem wK (n:Nat)(t:Typ)(v:Val)(h:¬ v.kind=t.kind):aq Tryz.prog aA 79 [t.pv,v.pv] (.bool (cK (n+1) t v)):=by
 rw[show cK (n+1) t v=false by simp[cK,h]]
 obtain⟨k,m,M,s,w,e,f⟩:=t
 obtain⟨vk,vn,vs,vt,vl,vf⟩:=v
 simp only[Val.kind,Typ.kind] at h
 refine aq.intro dZ (by simp[F79]) ?_
 simp(maxSteps:=9^7) (disch:=try exact dI) only[F79,Typ.pv_mk,Val.pv_mk,push_cast,seval]
theorem rt (n:Nat)(k m M s:Int)(w:List (List UInt8))(e:List Typ)(f:List TFd)(vn vs:Int)(vt:List UInt8)(vl:List Val)(vf:List Fld)(hk:k=2∨k=6∨k=7∨k=3):aq Tryz.prog aA 79 [(Typ.mk k m M s w e f).pv,(Val.mk k vn vs vt vl vf).pv] (.bool (cK (n+1) (.mk k m M s w e f) (.mk k vn vs vt vl vf))):=by
 have hi:=jz vn m M
 rw[show cK (n+1) (.mk k m M s w e f) (.mk k vn vs vt vl vf)=(inB vn m M&&decide (vs=s)) by simp[cK,DG,Typ.kind,Val.kind,hk,Nl,Val.num,Typ.min,Typ.max,Val.scale,Typ.scale];rfl]
 generalize inB vn m M=b at hi ⊢
 by_cases hs:vs=s
 ·rcases hk with rfl | rfl | rfl | rfl
  all_goals
   refine aq.intro dZ (by simp[F79]) ?_
   simp(maxSteps:=9^7) (disch:=try exact dI) only[F79,Typ.pv_mk,Val.pv_mk,push_cast,seval]
   refine ab.pure hi rfl ?_
   cases b with
   | false=>simp(maxSteps:=9^7) (disch:=try exact dI) only[push_cast,seval]
   | true=>simp(maxSteps:=9^7) (disch:=try exact dI) only[hs,push_cast,seval]
 ·rcases hk with rfl | rfl | rfl | rfl
  all_goals
   refine aq.intro dZ (by simp[F79]) ?_
   simp(maxSteps:=9^7) (disch:=try exact dI) only[F79,Typ.pv_mk,Val.pv_mk,push_cast,seval]
   refine ab.pure hi rfl ?_
   cases b with
   | false=>simp(maxSteps:=9^7) (disch:=try exact dI) only[push_cast,seval]
   | true=>simp(maxSteps:=9^7) (disch:=try exact dI) only[hs,push_cast,seval]
theorem Cd (n:Nat)(m M s:Int)(w:List (List UInt8))(e:List Typ)(f:List TFd)(vn vs:Int)(vt:List UInt8)(vl:List Val)(vf:List Fld)(hw:w.length≤9000000000000):aq Tryz.prog aA 79 [(Typ.mk 4 m M s w e f).pv,(Val.mk 4 vn vs vt vl vf).pv] (.bool (cK (n+1) (.mk 4 m M s w e f) (.mk 4 vn vs vt vl vf))):=by
 have hi:=jz vt.length m M
 have hc:=iW w vt hw
 rw[show cK (n+1) (.mk 4 m M s w e f) (.mk 4 vn vs vt vl vf)=if 0<w.length then w.any (fun x=>decide (x=vt)) else inB vt.length m M by simp[cK,DG,Typ.kind,Val.kind,Nj,Val.text,Typ.min,Typ.max,Typ.words];rfl]
 refine aq.intro dZ (by simp[F79]) ?_
 by_cases h0:0<w.length
 ·have h0I:(0:Int)<(w.length:Int):=by omega
  rw[if_pos h0]
  generalize w.any (fun x=>decide (x=vt))=b at hc ⊢
  simp(maxSteps:=9^7) (disch:=try exact dI) only[F79,Typ.pv_mk,Val.pv_mk,push_cast,seval]
  refine ab.pure hc rfl ?_
  simp(maxSteps:=9^7) (disch:=try exact dI) only[push_cast,seval]
 ·have h0I:¬ (0:Int)<(w.length:Int):=by omega
  rw[if_neg h0]
  generalize inB vt.length m M=b at hi ⊢
  simp(maxSteps:=9^7) (disch:=try exact dI) only[F79,Typ.pv_mk,Val.pv_mk,push_cast,seval]
  refine ab.pure hi rfl ?_
  simp(maxSteps:=9^7) (disch:=try exact dI) only[push_cast,seval]
theorem Cc (n:Nat)(m M s:Int)(w:List (List UInt8))(e:List Typ)(f:List TFd)(vn vs:Int)(vt:List UInt8)(vl:List Val)(vf:List Fld):aq Tryz.prog aA 79 [(Typ.mk 5 m M s w e f).pv,(Val.mk 5 vn vs vt vl vf).pv] (.bool (cK (n+1) (.mk 5 m M s w e f) (.mk 5 vn vs vt vl vf))):=by
 have hi:=jz vt.length m M
 rw[show cK (n+1) (.mk 5 m M s w e f) (.mk 5 vn vs vt vl vf)=inB vt.length m M by simp[cK,DG,Typ.kind,Val.kind,Val.text,Typ.min,Typ.max]]
 generalize inB vt.length m M=b at hi ⊢
 refine aq.intro dZ (by simp[F79]) ?_
 simp(maxSteps:=9^7) (disch:=try exact dI) only[F79,Typ.pv_mk,Val.pv_mk,push_cast,seval]
 refine ab.pure hi rfl ?_
 simp(maxSteps:=9^7) (disch:=try exact dI) only[push_cast,seval]
theorem JM (n:Nat)(ih:lO n)(m M s:Int)(w:List (List UInt8))(x:Typ)(r:List Typ)(f:List TFd)(y:Val)(h:wJ n x y):aq Tryz.prog aA 145 [y.pv,.eptr [(Typ.mk 8 m M s w (x::r) f).pv] 0 0] (.bool (!cK n x y)):=by
 have hc:=ih x y h
 generalize cK n x y=b at hc ⊢
 obtain⟨k',m',M',s',w',e',f'⟩:=x
 obtain⟨vk,vn,vs,vt,vl,vf⟩:=y
 simp only[Typ.pv_mk,Val.pv_mk] at hc
 refine aq.intro Hx (by simp[M8]) ?_
 simp(maxSteps:=9^7) (disch:=try exact dI) only[M8,Typ.pv_mk,Val.pv_mk,br,push_cast,seval]
 refine ab.pure hc rfl ?_
 simp(maxSteps:=9^7) (disch:=try exact dI) only[push_cast,seval]
theorem Cb (n:Nat)(ih:lO n)(m M s:Int)(w:List (List UInt8))(e:List Typ)(f:List TFd)(vn vs:Int)(vt:List UInt8)(vl:List Val)(vf:List Fld)(hl:vl.length≤9000000000000)(h:∀ y∈vl,∃ x r,e=x::r∧wJ n x y):aq Tryz.prog aA 79 [(Typ.mk 8 m M s w e f).pv,(Val.mk 8 vn vs vt vl vf).pv] (.bool (cK (n+1) (.mk 8 m M s w e f) (.mk 8 vn vs vt vl vf))):=by
 have hi:=jz vl.length m M
 have hc:=nH vl 145 [.eptr [(Typ.mk 8 m M s w e f).pv] 0 0] (fun x=>!(B4 (fun e=>cK n e x) e)) (fun y hy=>by
  obtain⟨x,r,rfl,hx⟩:=h y hy
  exact JM n ih m M s w x r f y hx) hl
 rw[show cK (n+1) (.mk 8 m M s w e f) (.mk 8 vn vs vt vl vf)=(inB vl.length m M&&!(vl.any (fun x=>!(B4 (fun e=>cK n e x) e)))) by simp[cK,DG,Typ.kind,Val.kind,Val.lst,Typ.min,Typ.max,Typ.elem]]
 generalize inB vl.length m M=b at hi ⊢
 generalize vl.any (fun x=>!(B4 (fun e=>cK n e x) e))=q at hc ⊢
 simp only[Typ.pv_mk] at hc
 refine aq.intro dZ (by simp[F79]) ?_
 simp(maxSteps:=9^7) (disch:=try exact dI) only[F79,Typ.pv_mk,Val.pv_mk,push_cast,seval]
 refine ab.pure hi rfl ?_
 cases b with
 | false=>simp(maxSteps:=9^7) (disch:=try exact dI) only[push_cast,seval]
 | true=>
   simp(maxSteps:=9^7) (disch:=try exact dI) only[push_cast,seval]
   refine ab.pure hc rfl ?_
   simp(maxSteps:=9^7) (disch:=try exact dI) only[push_cast,seval]
end Go.Proofs.YtfepkhlgopjaoaaGreatDoor
