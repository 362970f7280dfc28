/- A part of the proof for CodecUsualCardSaid. -/
import Derived.Test.YtfepkhlgopjaoaaGreatDoorUsKM3
set_option linter.unusedVariables false
set_option linter.unusedSimpArgs false
set_option maxRecDepth 100000
-- many steps
namespace Go.Proofs.YtfepkhlgopjaoaaGreatDoor
open Go Go.Ab
attribute [local irreducible] vc
theorem Ch (l:List Val)(g:Nat)(cs:List PV)(q:Val→Bool)(hq:∀ x∈l,ap Tryz.prog az g (x.pv::cs) (.bool (q x)))(hl:l.length≤9000000000000) :
  ap Tryz.prog az 235 [.list (l.map Val.pv),.clo g [] cs] (.int .i64 (dq q l 0)):=by
 refine ap.intro HD (by simp[Nm]) ?_
 simp(maxSteps:=9^7) (disch:=try exact dI) only[Nm,push_cast,seval]
 refine aB ([]) (fun m:Nat=>[(8,.pv (.int .i64 (m:Int)))]) (fun m=>[]) (fun m=>m≤l.length∧dq q l 0=dq q (l.drop m) m) (fun m=>l.length - m) (0) ?_;intro e0 σ0 n0 h0;simp(maxSteps:=9^7) (disch:=try exact dI) only[push_cast,seval] at h0;obtain⟨rfl,rfl,rfl⟩:=h0;refine⟨?_,?_,?_⟩
 ·simp(maxSteps:=9^7) (disch:=try exact dI) only[push_cast,seval]
 ·exact⟨by omega,by simp⟩
 ·rintro m ⟨hm,he⟩
  by_cases hlt:m<l.length
  ·have hltI:(m:Int)<l.length:=by omega
   obtain⟨x,hx⟩:∃ x,l[m]? = some x:=⟨_,List.getElem?_eq_getElem hlt⟩
   have hcall:=hq x (List.mem_of_getElem? hx)
   have hcl:x.pv.cells.length=6:=by cases x;rw[Val.pv_mk];rfl
   have hag:x.pv.isAgg=true:=by cases x;rw[Val.pv_mk];rfl
   simp(maxSteps:=9^7) (disch:=try exact dI) only[hx,hcl,hag,push_cast,seval]
   refine ae.pure hcall (by exact oI (x.pv::cs)) ?_
   cases hqx:q x with
   | true=>
     rw[he,dA hx hqx]
     simp(maxSteps:=9^7) (disch:=try exact dI) only[push_cast,seval]
   | false=>
     rw[cg hx hqx] at he
     simp(maxSteps:=9^7) (disch:=try exact dI) only[push_cast,seval]
     exact⟨m+1,bH qsZ,⟨by omega,he⟩,by omega⟩
  ·have hltI:¬ (m:Int)<l.length:=by omega
   rw[he,dB hlt]
   simp(maxSteps:=9^7) (disch:=try exact dI) only[push_cast,seval]
theorem nX (l:List Val)(g:Nat)(cs:List PV)(q:Val→Bool)(hq:∀ x∈l,ap Tryz.prog az g (x.pv::cs) (.bool (q x)))(hl:l.length≤9000000000000) :
  ap Tryz.prog az 144 [.list (l.map Val.pv),.clo g [] cs] (.bool (l.any q)):=by
 have h94:=Ch l g cs q hq hl
 have hfa:=cQ (p:=q) l
 refine ap.intro H4 (by simp[L2]) ?_
 rcases bv (p:=q) l 0 with ⟨h1,h2⟩ | ⟨k,x,h1,h2,h3⟩
 ·rw[h2] at h94
  rw[h1] at hfa
  rw[← hfa]
  simp(maxSteps:=9^7) (disch:=try exact dI) only[L2,push_cast,seval]
  refine ae.pure h94 rfl ?_
  simp(maxSteps:=9^7) (disch:=try exact dI) only[push_cast,seval]
  exact .refl _
 ·rw[h3] at h94
  rw[h2] at hfa
  rw[← hfa]
  have hk:(0:Int)≤((0+k:Nat):Int):=by omega
  generalize ((0+k:Nat):Int)=z at *
  simp(maxSteps:=9^7) (disch:=try exact dI) only[L2,push_cast,seval]
  refine ae.pure h94 rfl ?_
  simp(maxSteps:=9^7) (disch:=try exact dI) only[push_cast,seval]
  exact .refl _
def rJ (v:Val):TFd→Bool
 | .mk _ nm nd _ _=>(v.fields.find? (fJ nm)).isNone&&!decide (nd=2)
theorem Kk (v:Val)(g:TFd)(hv:v.ok)(hk:v.kind=9)(h:v.fields.length≤9000000000000):ap Tryz.prog az 147 [g.pv,.eptr [v.pv] 0 0] (.bool (rJ v g)):=by
 obtain⟨n',nm',nd',⟨k',m',M',s',w',e',f'⟩,d'⟩:=g
 have h52:=CK v nm' hv hk h
 simp only[rJ]
 generalize v.fields.find? (fJ nm')=o at h52 ⊢
 obtain⟨vk,vn,vs,vt,vl,vf⟩:=v
 simp only[Val.pv_mk] at h52
 refine ap.intro H1 (by simp[LH]) ?_
 cases o with
 | none=>
   simp only[vlR,Option.map_none,Option.getD_none,Option.isSome_none,Option.isNone_none,EA,Val.pv_mk] at h52 ⊢
   by_cases hnd:nd'=2
   ·simp(maxSteps:=9^7) (disch:=try exact dI) only[LH,Val.pv_mk,TFd.pv_mk,Typ.pv_mk,ag,push_cast,seval]
    refine ae.pure h52 rfl ?_
    simp(maxSteps:=9^7) (disch:=try exact dI) only[hnd,push_cast,seval]
   ·simp(maxSteps:=9^7) (disch:=try exact dI) only[LH,Val.pv_mk,TFd.pv_mk,Typ.pv_mk,ag,push_cast,seval]
    refine ae.pure h52 rfl ?_
    simp(maxSteps:=9^7) (disch:=try exact dI) only[hnd,push_cast,seval]
 | some x=>
   obtain⟨xn,⟨xk,xi,xs,xt,xl,xf⟩⟩:=x
   simp only[vlR,Option.map_some,Option.getD_some,Option.isSome_some,Option.isNone_some,Fld.value,Val.pv_mk] at h52 ⊢
   simp(maxSteps:=9^7) (disch:=try exact dI) only[LH,Val.pv_mk,TFd.pv_mk,Typ.pv_mk,ag,push_cast,seval]
   refine ae.pure h52 rfl ?_
   simp(maxSteps:=9^7) (disch:=try exact dI) only[push_cast,seval]
end Go.Proofs.YtfepkhlgopjaoaaGreatDoor
-- many steps
namespace Go.Proofs.YtfepkhlgopjaoaaGreatDoor
open Go Go.Ab
attribute [local irreducible] vc
def Cr (p:Typ→Bool):List Typ→Bool
 | []=>false
 | x::_=>p x
def xb (p:Val→Bool):List Val→Bool
 | []=>false
 | x::_=>p x
def LP (p:Typ→Val→Bool)(l:List Val):Option TFd→Bool
 | none=>false
 | some g=>xb (p g.typ) l
def Ir (p:Typ→Val→Bool)(v:Val):Option TFd→Bool
 | none=>false
 | some g=>p g.typ v
def NQ (t:Typ)(v:Val):Bool:=inB v.num t.min t.max&&decide (v.scale=t.scale)
def NO (t:Typ)(v:Val):Bool:=if 0<t.words.length then t.words.any fun x=>decide (x=v.text) else inB v.text.length t.min t.max
def D6 (p:Typ→Val→Bool)(t:Typ)(v:Val):Bool:=
 if t.kind=2∨t.kind=6∨t.kind=7∨t.kind=3 then NQ t v else if t.kind=4 then NO t v else if t.kind=5 then inB v.text.length t.min t.max
 else if t.kind=8 then inB v.lst.length t.min t.max&&!(v.lst.any fun x=>!(Cr (fun e=>p e x) t.elem)) else if t.kind=10 then LP p v.lst (bw t v.text)
 else if t.kind=9 then (v.fields.all fun x=>Ir p x.value (bw t x.name))&&!(t.fields.any (rJ v)) else true
def cP:Nat→Typ→Val→Bool
 | 0,_,_=>false
 | n+1,t,v=>decide (v.kind=t.kind)&&D6 (cP n) t v
def xg:Nat→Typ→Val→Prop
 | 0,_,_=>False
 | n+1,t,v=>(∃ N,bd N t)∧(1≤t.kind∧t.kind≤10)∧t.words.length≤9000000000000∧v.ok∧v.lst.length≤9000000000000∧v.fields.length≤9000000000000∧(v.kind=t.kind →
   (t.kind=2∨t.kind=6∨t.kind=7→v.scale=t.scale)∧(t.kind=8→∀ y∈v.lst,∃ x r,t.elem=x::r∧xg n x y)∧(t.kind=10→∀ g,bw t v.text=some g→∃ y r,v.lst=y::r∧xg n g.typ y)∧(t.kind=9→∀ x∈v.fields,∀ g,bw t x.name=some g→xg n g.typ x.value))
def l9 (n:Nat):Prop:=∀ t v,xg n t v→ap Tryz.prog az 79 [t.pv,v.pv] (.bool (cP n t v))
theorem xh (n:Nat)(t:Typ)(v:Val)(h:¬ v.kind=t.kind):ap Tryz.prog az 79 [t.pv,v.pv] (.bool (cP (n+1) t v)):=by
 rw[show cP (n+1) t v=false by simp[cP,h]]
 obtain⟨k,m,M,s,w,e,f⟩:=t
 obtain⟨vk,vn,vs,vt,vl,vf⟩:=v
 simp only[Val.kind,Typ.kind] at h
 refine ap.intro d9 (by simp[F79]) ?_
 simp(maxSteps:=9^7) (disch:=try exact dI) only[F79,Typ.pv_mk,Val.pv_mk,push_cast,seval]
theorem rP (n:Nat)(k m M s:Int)(w:List (List UInt8))(e:List Typ)(f:List TFd)(vn vs:Int)(vt:List UInt8)(vl:List Val)(vf:List Fld)(hk:k=2∨k=6∨k=7∨k=3):ap Tryz.prog az 79 [(Typ.mk k m M s w e f).pv,(Val.mk k vn vs vt vl vf).pv] (.bool (cP (n+1) (.mk k m M s w e f) (.mk k vn vs vt vl vf))):=by
 have hi:=jI vn m M
 rw[show cP (n+1) (.mk k m M s w e f) (.mk k vn vs vt vl vf)=(inB vn m M&&decide (vs=s)) by simp[cP,D6,Typ.kind,Val.kind,hk,NQ,Val.num,Typ.min,Typ.max,Val.scale,Typ.scale];rfl]
 generalize inB vn m M=b at hi ⊢
 by_cases hs:vs=s
 ·rcases hk with rfl | rfl | rfl | rfl
  all_goals
   refine ap.intro d9 (by simp[F79]) ?_
   simp(maxSteps:=9^7) (disch:=try exact dI) only[F79,Typ.pv_mk,Val.pv_mk,push_cast,seval]
   refine ae.pure hi rfl ?_
   cases b with
   | false=>simp(maxSteps:=9^7) (disch:=try exact dI) only[push_cast,seval]
   | true=>simp(maxSteps:=9^7) (disch:=try exact dI) only[hs,push_cast,seval]
 ·rcases hk with rfl | rfl | rfl | rfl
  all_goals
   refine ap.intro d9 (by simp[F79]) ?_
   simp(maxSteps:=9^7) (disch:=try exact dI) only[F79,Typ.pv_mk,Val.pv_mk,push_cast,seval]
   refine ae.pure hi rfl ?_
   cases b with
   | false=>simp(maxSteps:=9^7) (disch:=try exact dI) only[push_cast,seval]
   | true=>simp(maxSteps:=9^7) (disch:=try exact dI) only[hs,push_cast,seval]
theorem CA (n:Nat)(m M s:Int)(w:List (List UInt8))(e:List Typ)(f:List TFd)(vn vs:Int)(vt:List UInt8)(vl:List Val)(vf:List Fld)(hw:w.length≤9000000000000):ap Tryz.prog az 79 [(Typ.mk 4 m M s w e f).pv,(Val.mk 4 vn vs vt vl vf).pv] (.bool (cP (n+1) (.mk 4 m M s w e f) (.mk 4 vn vs vt vl vf))):=by
 have hi:=jI vt.length m M
 have hc:=ja w vt hw
 rw[show cP (n+1) (.mk 4 m M s w e f) (.mk 4 vn vs vt vl vf)=if 0<w.length then w.any (fun x=>decide (x=vt)) else inB vt.length m M by simp[cP,D6,Typ.kind,Val.kind,NO,Val.text,Typ.min,Typ.max,Typ.words];rfl]
 refine ap.intro d9 (by simp[F79]) ?_
 by_cases h0:0<w.length
 ·have h0I:(0:Int)<(w.length:Int):=by omega
  rw[if_pos h0]
  generalize w.any (fun x=>decide (x=vt))=b at hc ⊢
  simp(maxSteps:=9^7) (disch:=try exact dI) only[F79,Typ.pv_mk,Val.pv_mk,push_cast,seval]
  refine ae.pure hc rfl ?_
  simp(maxSteps:=9^7) (disch:=try exact dI) only[push_cast,seval]
 ·have h0I:¬ (0:Int)<(w.length:Int):=by omega
  rw[if_neg h0]
  generalize inB vt.length m M=b at hi ⊢
  simp(maxSteps:=9^7) (disch:=try exact dI) only[F79,Typ.pv_mk,Val.pv_mk,push_cast,seval]
  refine ae.pure hi rfl ?_
  simp(maxSteps:=9^7) (disch:=try exact dI) only[push_cast,seval]
theorem Cz (n:Nat)(m M s:Int)(w:List (List UInt8))(e:List Typ)(f:List TFd)(vn vs:Int)(vt:List UInt8)(vl:List Val)(vf:List Fld):ap Tryz.prog az 79 [(Typ.mk 5 m M s w e f).pv,(Val.mk 5 vn vs vt vl vf).pv] (.bool (cP (n+1) (.mk 5 m M s w e f) (.mk 5 vn vs vt vl vf))):=by
 have hi:=jI vt.length m M
 rw[show cP (n+1) (.mk 5 m M s w e f) (.mk 5 vn vs vt vl vf)=inB vt.length m M by simp[cP,D6,Typ.kind,Val.kind,Val.text,Typ.min,Typ.max]]
 generalize inB vt.length m M=b at hi ⊢
 refine ap.intro d9 (by simp[F79]) ?_
 simp(maxSteps:=9^7) (disch:=try exact dI) only[F79,Typ.pv_mk,Val.pv_mk,push_cast,seval]
 refine ae.pure hi rfl ?_
 simp(maxSteps:=9^7) (disch:=try exact dI) only[push_cast,seval]
theorem Kl (n:Nat)(ih:l9 n)(m M s:Int)(w:List (List UInt8))(x:Typ)(r:List Typ)(f:List TFd)(y:Val)(h:xg n x y):ap Tryz.prog az 145 [y.pv,.eptr [(Typ.mk 8 m M s w (x::r) f).pv] 0 0] (.bool (!cP n x y)):=by
 have hc:=ih x y h
 generalize cP n x y=b at hc ⊢
 obtain⟨k',m',M',s',w',e',f'⟩:=x
 obtain⟨vk,vn,vs,vt,vl,vf⟩:=y
 simp only[Typ.pv_mk,Val.pv_mk] at hc
 refine ap.intro H3 (by simp[NE]) ?_
 simp(maxSteps:=9^7) (disch:=try exact dI) only[NE,Typ.pv_mk,Val.pv_mk,br,push_cast,seval]
 refine ae.pure hc rfl ?_
 simp(maxSteps:=9^7) (disch:=try exact dI) only[push_cast,seval]
theorem Cy (n:Nat)(ih:l9 n)(m M s:Int)(w:List (List UInt8))(e:List Typ)(f:List TFd)(vn vs:Int)(vt:List UInt8)(vl:List Val)(vf:List Fld)(hl:vl.length≤9000000000000)(h:∀ y∈vl,∃ x r,e=x::r∧xg n x y):ap Tryz.prog az 79 [(Typ.mk 8 m M s w e f).pv,(Val.mk 8 vn vs vt vl vf).pv] (.bool (cP (n+1) (.mk 8 m M s w e f) (.mk 8 vn vs vt vl vf))):=by
 have hi:=jI vl.length m M
 have hc:=nX vl 145 [.eptr [(Typ.mk 8 m M s w e f).pv] 0 0] (fun x=>!(Cr (fun e=>cP n e x) e)) (fun y hy=>by
  obtain⟨x,r,rfl,hx⟩:=h y hy
  exact Kl n ih m M s w x r f y hx) hl
 rw[show cP (n+1) (.mk 8 m M s w e f) (.mk 8 vn vs vt vl vf)=(inB vl.length m M&&!(vl.any (fun x=>!(Cr (fun e=>cP n e x) e)))) by simp[cP,D6,Typ.kind,Val.kind,Val.lst,Typ.min,Typ.max,Typ.elem]]
 generalize inB vl.length m M=b at hi ⊢
 generalize vl.any (fun x=>!(Cr (fun e=>cP n e x) e))=q at hc ⊢
 simp only[Typ.pv_mk] at hc
 refine ap.intro d9 (by simp[F79]) ?_
 simp(maxSteps:=9^7) (disch:=try exact dI) only[F79,Typ.pv_mk,Val.pv_mk,push_cast,seval]
 refine ae.pure hi rfl ?_
 cases b with
 | false=>simp(maxSteps:=9^7) (disch:=try exact dI) only[push_cast,seval]
 | true=>
   simp(maxSteps:=9^7) (disch:=try exact dI) only[push_cast,seval]
   refine ae.pure hc rfl ?_
   simp(maxSteps:=9^7) (disch:=try exact dI) only[push_cast,seval]
end Go.Proofs.YtfepkhlgopjaoaaGreatDoor
