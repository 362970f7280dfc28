/- A part. -/
import Derived.Test.YtngchmkoadaecaaGreatDoorClJWH
set_option linter.unusedVariables false
set_option linter.unusedSimpArgs false
set_option maxRecDepth 100000
namespace Go.Proofs.YtngchmkoadaecaaGreatDoor
open Go Go.Ab
attribute [local irreducible] vc
theorem GQ (l:List Val)(g:Nat)(cs:List PV)(q:Val->Bool)(hq:∀ x∈l,ap Tryz.prog aB g (x.pv::cs) (.bool (q x)))(hl:l.length<=9000000000000) :
  ap Tryz.prog aB 188 [.list (l.map Val.pv),.clo g [] cs] (.int .i64 (ib q l 0)):=by
 refine ap.intro SC.2 (by simp[SC]) ?_
 simp(maxSteps:=9^7) (disch:=try exact dI) only[SC,push_cast,seval]
 refine aw ([]) (fun m:Nat=>[(8,.pv (.int .i64 (m:Int)))]) (fun m=>[]) (fun m=>m<=l.length/\ib q l 0=ib q (l.drop m) m) (fun m=>l.length - m) (0) ?_;intro e0 σ0 n0 h0;simp(maxSteps:=9^7) (disch:=try exact dI) only[push_cast,seval] at h0;obtain⟨rfl,rfl,rfl⟩:=h0;refine⟨?_,?_,?_⟩
 ·simp(maxSteps:=9^7) (disch:=try exact dI) only[push_cast,seval]
 ·exact⟨by omega,by simp⟩
 ·rintro m ⟨hm,he⟩
  by_cases hlt:m<l.length
  ·have hltI:(m:Int)<l.length:=by omega
   obtain⟨x,hx⟩:∃ x,l[m]? = some x:=⟨_,List.getElem?_eq_getElem hlt⟩
   have hcall:=hq x (List.mem_of_getElem? hx)
   have hcl:x.pv.cells.length=6:=by cases x;rw[Uo];rfl
   have hag:x.pv.isAgg=true:=by cases x;rw[Uo];rfl
   simp(maxSteps:=9^7) (disch:=try exact dI) only[hx,hcl,hag,push_cast,seval]
   refine ab.pure hcall (by exact sr (x.pv::cs)) ?_
   cases hqx:q x with
   | true=>
     rw[he,jP hx hqx]
     simp(maxSteps:=9^7) (disch:=try exact dI) only[push_cast,seval]
   | false=>
     rw[gA hx hqx] at he
     simp(maxSteps:=9^7) (disch:=try exact dI) only[push_cast,seval]
     exact⟨m+1,aN qsZ,⟨by omega,he⟩,by omega⟩
  ·have hltI:¬ (m:Int)<l.length:=by omega
   rw[he,jQ hlt]
   simp(maxSteps:=9^7) (disch:=try exact dI) only[push_cast,seval]
theorem rG (l:List Val)(g:Nat)(cs:List PV)(q:Val->Bool)(hq:∀ x∈l,ap Tryz.prog aB g (x.pv::cs) (.bool (q x)))(hl:l.length<=9000000000000) :
  ap Tryz.prog aB 161 [.list (l.map Val.pv),.clo g [] cs] (.bool (l.any q)):=by
 have h94:=GQ l g cs q hq hl
 have hfa:=i6 (p:=q) l
 refine ap.intro Rh.2 (by simp[Rh]) ?_
 rcases er (p:=q) l 0 with ⟨h1,h2⟩ | ⟨k,x,h1,h2,h3⟩
 ·rw[h2] at h94
  rw[h1] at hfa
  rw[<- hfa]
  simp(maxSteps:=9^7) (disch:=try exact dI) only[Rh,push_cast,seval]
  refine ab.pure h94 rfl ?_
  simp(maxSteps:=9^7) (disch:=try exact dI) only[push_cast,seval]
  exact .refl _
 ·rw[h3] at h94
  rw[h2] at hfa
  rw[<- hfa]
  have hk:(0:Int)<=((0+k:Nat):Int):=by omega
  generalize ((0+k:Nat):Int)=z at *
  simp(maxSteps:=9^7) (disch:=try exact dI) only[Rh,push_cast,seval]
  refine ab.pure h94 rfl ?_
  simp(maxSteps:=9^7) (disch:=try exact dI) only[push_cast,seval]
  exact .refl _
def wl (v:Val):TFd->Bool
 | .mk _ nm nd _ _=>(v.fields.find? (iy nm)).isNone&&!decide (nd=2)
theorem PB (v:Val)(g:TFd)(hv:v.ok)(hk:v.kind=9)(h:v.fields.length<=9000000000000):ap Tryz.prog aB 164 [g.pv,.eptr [v.pv] 0 0] (.bool (wl v g)):=by
 obtain⟨n',nm',nd',⟨k',m',M',s',w',e',f'⟩,d'⟩:=g
 have h52:=Hq v nm' hv hk h
 simp only[wl]
 generalize v.fields.find? (iy nm')=o at h52 ⊢
 obtain⟨vk,vn,vs,vt,vl,vf⟩:=v
 simp only[Uo] at h52
 refine ap.intro QI.2 (by simp[QI]) ?_
 cases o with
 | none=>
   simp only[vlR,Option.map_none,Option.getD_none,Option.isSome_none,Option.isNone_none,Jg,Uo] at h52 ⊢
   by_cases hnd:nd'=2
   ·simp(maxSteps:=9^7) (disch:=try exact dI) only[QI,Uo,Uh,Um,ae,push_cast,seval]
    refine ab.pure h52 rfl ?_
    simp(maxSteps:=9^7) (disch:=try exact dI) only[hnd,push_cast,seval]
   ·simp(maxSteps:=9^7) (disch:=try exact dI) only[QI,Uo,Uh,Um,ae,push_cast,seval]
    refine ab.pure h52 rfl ?_
    simp(maxSteps:=9^7) (disch:=try exact dI) only[hnd,push_cast,seval]
 | some x=>
   obtain⟨xn,⟨xk,xi,xs,xt,xl,xf⟩⟩:=x
   simp only[vlR,Option.map_some,Option.getD_some,Option.isSome_some,Option.isNone_some,Fld.value,Uo] at h52 ⊢
   simp(maxSteps:=9^7) (disch:=try exact dI) only[QI,Uo,Uh,Um,ae,push_cast,seval]
   refine ab.pure h52 rfl ?_
   simp(maxSteps:=9^7) (disch:=try exact dI) only[push_cast,seval]
def GZ (p:Typ->Bool):List Typ->Bool
 | []=>false
 | x::_=>p x
def Ce (p:Val->Bool):List Val->Bool
 | []=>false
 | x::_=>p x
def QX (p:Typ->Val->Bool)(l:List Val):Option TFd->Bool
 | none=>false
 | some g=>Ce (p g.typ) l
def Na (p:Typ->Val->Bool)(v:Val):Option TFd->Bool
 | none=>false
 | some g=>p g.typ v
def Ti (t:Typ)(v:Val):Bool:=inB v.num t.min t.max&&decide (v.scale=t.scale)
def Tg (t:Typ)(v:Val):Bool:=if 0<t.words.length then t.words.any fun x=>decide (x=v.text) else inB v.text.length t.min t.max
def IL (p:Typ->Val->Bool)(t:Typ)(v:Val):Bool:=
 if t.kind=2\/t.kind=6\/t.kind=7\/t.kind=3 then Ti t v else if t.kind=4 then Tg t v else if t.kind=5 then inB v.text.length t.min t.max
 else if t.kind=8 then inB v.lst.length t.min t.max&&!(v.lst.any fun x=>!(GZ (fun e=>p e x) t.elem)) else if t.kind=10 then QX p v.lst (cE t v.text)
 else if t.kind=9 then (v.fields.all fun x=>Na p x.value (cE t x.name))&&!(t.fields.any (wl v)) else true
def eq:Nat->Typ->Val->Bool
 | 0,_,_=>false
 | n+1,t,v=>decide (v.kind=t.kind)&&IL (eq n) t v
def Ci:Nat->Typ->Val->Prop
 | 0,_,_=>False
 | n+1,t,v=>(∃ N,bR N t)/\(1<=t.kind/\t.kind<=10)/\t.words.length<=9000000000000/\v.ok/\v.lst.length<=9000000000000/\v.fields.length<=9000000000000/\(v.kind=t.kind ->
   (t.kind=2\/t.kind=6\/t.kind=7->v.scale=t.scale)/\(t.kind=8->∀ y∈v.lst,∃ x r,t.elem=x::r/\Ci n x y)/\(t.kind=10->∀ g,cE t v.text=some g->∃ y r,v.lst=y::r/\Ci n g.typ y)/\(t.kind=9->∀ x∈v.fields,∀ g,cE t x.name=some g->Ci n g.typ x.value))
def pq (n:Nat):Prop:=∀ t v,Ci n t v->ap Tryz.prog aB 145 [t.pv,v.pv] (.bool (eq n t v))
theorem Ck (n:Nat)(t:Typ)(v:Val)(h:¬ v.kind=t.kind):ap Tryz.prog aB 145 [t.pv,v.pv] (.bool (eq (n+1) t v)):=by
 rw[show eq (n+1) t v=false by simp[eq,h]]
 obtain⟨k,m,M,s,w,e,f⟩:=t
 obtain⟨vk,vn,vs,vt,vl,vf⟩:=v
 simp only[Val.kind,Typ.kind] at h
 refine ap.intro f6.2 (by simp[f6]) ?_
 simp(maxSteps:=9^7) (disch:=try exact dI) only[f6,Um,Uo,push_cast,seval]
theorem wy (n:Nat)(k m M s:Int)(w:List (List UInt8))(e:List Typ)(f:List TFd)(vn vs:Int)(vt:List UInt8)(vl:List Val)(vf:List Fld)(hk:k=2\/k=6\/k=7\/k=3):ap Tryz.prog aB 145 [(Typ.mk k m M s w e f).pv,(Val.mk k vn vs vt vl vf).pv] (.bool (eq (n+1) (.mk k m M s w e f) (.mk k vn vs vt vl vf))):=by
 have hi:=mr vn m M
 rw[show eq (n+1) (.mk k m M s w e f) (.mk k vn vs vt vl vf)=(inB vn m M&&decide (vs=s)) by simp[eq,IL,Typ.kind,Val.kind,hk,Ti,Val.num,Typ.min,Typ.max,Val.scale,Typ.scale];rfl]
 generalize inB vn m M=b at hi ⊢
 by_cases hs:vs=s
 ·rcases hk with rfl | rfl | rfl | rfl
  all_goals
   refine ap.intro f6.2 (by simp[f6]) ?_
   simp(maxSteps:=9^7) (disch:=try exact dI) only[f6,Um,Uo,push_cast,seval]
   refine ab.pure hi rfl ?_
   cases b with
   | false=>simp(maxSteps:=9^7) (disch:=try exact dI) only[push_cast,seval]
   | true=>simp(maxSteps:=9^7) (disch:=try exact dI) only[hs,push_cast,seval]
 ·rcases hk with rfl | rfl | rfl | rfl
  all_goals
   refine ap.intro f6.2 (by simp[f6]) ?_
   simp(maxSteps:=9^7) (disch:=try exact dI) only[f6,Um,Uo,push_cast,seval]
   refine ab.pure hi rfl ?_
   cases b with
   | false=>simp(maxSteps:=9^7) (disch:=try exact dI) only[push_cast,seval]
   | true=>simp(maxSteps:=9^7) (disch:=try exact dI) only[hs,push_cast,seval]
theorem Hf (n:Nat)(m M s:Int)(w:List (List UInt8))(e:List Typ)(f:List TFd)(vn vs:Int)(vt:List UInt8)(vl:List Val)(vf:List Fld)(hw:w.length<=9000000000000):ap Tryz.prog aB 145 [(Typ.mk 4 m M s w e f).pv,(Val.mk 4 vn vs vt vl vf).pv] (.bool (eq (n+1) (.mk 4 m M s w e f) (.mk 4 vn vs vt vl vf))):=by
 have hi:=mr vt.length m M
 have hc:=wV w vt hw
 rw[show eq (n+1) (.mk 4 m M s w e f) (.mk 4 vn vs vt vl vf)=if 0<w.length then w.any (fun x=>decide (x=vt)) else inB vt.length m M by simp[eq,IL,Typ.kind,Val.kind,Tg,Val.text,Typ.min,Typ.max,Typ.words];rfl]
 refine ap.intro f6.2 (by simp[f6]) ?_
 by_cases h0:0<w.length
 ·have h0I:(0:Int)<(w.length:Int):=by omega
  rw[if_pos h0]
  generalize w.any (fun x=>decide (x=vt))=b at hc ⊢
  simp(maxSteps:=9^7) (disch:=try exact dI) only[f6,Um,Uo,push_cast,seval]
  refine ab.pure hc rfl ?_
  simp(maxSteps:=9^7) (disch:=try exact dI) only[push_cast,seval]
 ·have h0I:¬ (0:Int)<(w.length:Int):=by omega
  rw[if_neg h0]
  generalize inB vt.length m M=b at hi ⊢
  simp(maxSteps:=9^7) (disch:=try exact dI) only[f6,Um,Uo,push_cast,seval]
  refine ab.pure hi rfl ?_
  simp(maxSteps:=9^7) (disch:=try exact dI) only[push_cast,seval]
theorem He (n:Nat)(m M s:Int)(w:List (List UInt8))(e:List Typ)(f:List TFd)(vn vs:Int)(vt:List UInt8)(vl:List Val)(vf:List Fld):ap Tryz.prog aB 145 [(Typ.mk 5 m M s w e f).pv,(Val.mk 5 vn vs vt vl vf).pv] (.bool (eq (n+1) (.mk 5 m M s w e f) (.mk 5 vn vs vt vl vf))):=by
 have hi:=mr vt.length m M
 rw[show eq (n+1) (.mk 5 m M s w e f) (.mk 5 vn vs vt vl vf)=inB vt.length m M by simp[eq,IL,Typ.kind,Val.kind,Val.text,Typ.min,Typ.max]]
 generalize inB vt.length m M=b at hi ⊢
 refine ap.intro f6.2 (by simp[f6]) ?_
 simp(maxSteps:=9^7) (disch:=try exact dI) only[f6,Um,Uo,push_cast,seval]
 refine ab.pure hi rfl ?_
 simp(maxSteps:=9^7) (disch:=try exact dI) only[push_cast,seval]
theorem PC (n:Nat)(ih:pq n)(m M s:Int)(w:List (List UInt8))(x:Typ)(r:List Typ)(f:List TFd)(y:Val)(h:Ci n x y):ap Tryz.prog aB 162 [y.pv,.eptr [(Typ.mk 8 m M s w (x::r) f).pv] 0 0] (.bool (!eq n x y)):=by
 have hc:=ih x y h
 generalize eq n x y=b at hc ⊢
 obtain⟨k',m',M',s',w',e',f'⟩:=x
 obtain⟨vk,vn,vs,vt,vl,vf⟩:=y
 simp only[Um,Uo] at hc
 refine ap.intro SM.2 (by simp[SM]) ?_
 simp(maxSteps:=9^7) (disch:=try exact dI) only[SM,Um,Uo,cz,push_cast,seval]
 refine ab.pure hc rfl ?_
 simp(maxSteps:=9^7) (disch:=try exact dI) only[push_cast,seval]
theorem Hc (n:Nat)(ih:pq n)(m M s:Int)(w:List (List UInt8))(e:List Typ)(f:List TFd)(vn vs:Int)(vt:List UInt8)(vl:List Val)(vf:List Fld)(hl:vl.length<=9000000000000)(h:∀ y∈vl,∃ x r,e=x::r/\Ci n x y):ap Tryz.prog aB 145 [(Typ.mk 8 m M s w e f).pv,(Val.mk 8 vn vs vt vl vf).pv] (.bool (eq (n+1) (.mk 8 m M s w e f) (.mk 8 vn vs vt vl vf))):=by
 have hi:=mr vl.length m M
 have hc:=rG vl 162 [.eptr [(Typ.mk 8 m M s w e f).pv] 0 0] (fun x=>!(GZ (fun e=>eq n e x) e)) (fun y hy=>by
  obtain⟨x,r,rfl,hx⟩:=h y hy
  exact PC n ih m M s w x r f y hx) hl
 rw[show eq (n+1) (.mk 8 m M s w e f) (.mk 8 vn vs vt vl vf)=(inB vl.length m M&&!(vl.any (fun x=>!(GZ (fun e=>eq n e x) e)))) by simp[eq,IL,Typ.kind,Val.kind,Val.lst,Typ.min,Typ.max,Typ.elem]]
 generalize inB vl.length m M=b at hi ⊢
 generalize vl.any (fun x=>!(GZ (fun e=>eq n e x) e))=q at hc ⊢
 simp only[Um] at hc
 refine ap.intro f6.2 (by simp[f6]) ?_
 simp(maxSteps:=9^7) (disch:=try exact dI) only[f6,Um,Uo,push_cast,seval]
 refine ab.pure hi rfl ?_
 cases b with
 | false=>simp(maxSteps:=9^7) (disch:=try exact dI) only[push_cast,seval]
 | true=>
   simp(maxSteps:=9^7) (disch:=try exact dI) only[push_cast,seval]
   refine ab.pure hc rfl ?_
   simp(maxSteps:=9^7) (disch:=try exact dI) only[push_cast,seval]
