/- A part of the proof for DelimitedRepresentableCardSaid. -/
import Derived.Test.YtbaaokocnegdoaaGreatDoorRepW9
set_option maxRecDepth 100000
set_option linter.unusedVariables false
set_option linter.unusedSimpArgs false
-- many steps
namespace Go.Proofs.YtbaaokocnegdoaaGreatDoor
open Go Go.Ab
attribute [local irreducible] vc
theorem K5 (x:TFd)(name:List UInt8):ak Tryz.prog aD 285 [x.pv,.eptr [.str name] 0 0] (.bool (named name x)):=by
 obtain⟨a,b,c,⟨k,m,n,s,w,e,fs⟩,d⟩:=x
 refine ak.intro Iv (by simp[NC]) ?_
 simp(maxSteps:=9^7) (disch:=first|exact dI|fail) only[NC,TFd.pv_mk,Typ.pv_mk,named,TFd.name,push_cast,seval]
 exact decide_eq_decide.2 Iff.rfl
theorem lx {n:Nat}{k m M s:Int}{w:List (List UInt8)}{e:List Typ}{f:List TFd}(h:cj (n+1) (.mk k m M s w e f)){x:TFd}(hx:x∈f):ak Tryz.prog aD 295 [x.pv] x.pv:=by
 simp only[cj] at h
 obtain⟨h1,h2,h3⟩:=h.2.2.2.2 x hx
 obtain⟨n',nm',nd',⟨k',m',M',s',w',e',f'⟩,d'⟩:=x
 exact qz _ _ _ _ _ _ _ _ _ _ _ (qy n _ h3) h1 h2
def bk (t:Typ)(name:List UInt8):Option TFd:=if t.kind=9∨t.kind=10 then t.fields.find? (named name) else none
theorem HL (n:Nat)(t:Typ)(name:List UInt8)(h:cj n t):ak Tryz.prog aD 284 [t.pv,.clo 285 [] [.eptr [.str name] 0 0]] (tfR (bk t name)):=by
 cases n with
 | zero=>exact h.elim
 | succ n=>
 obtain⟨k,m,M,s,w,e,f⟩:=t
 have hcl:=fun x hx=>lx h (x:=x) hx
 have hfl:f.length≤1000000000:=by simp only[cj] at h;exact h.2.2.1
 clear h
 have h147:=yj f 285 [.eptr [.str name] 0 0] (named name) (fun x _=>K5 x name) (by omega)
 refine ak.intro Iw (by simp[LW]) ?_
 by_cases hk:k=9∨k=10
 ·rw[show bk (.mk k m M s w e f) name=f.find? (named name) from if_pos hk]
  rcases ci (p:=named name) f 0 with ⟨h1,h2⟩ | ⟨i,x,h1,h2,h3⟩
  ·rw[h1]
   rw[h2] at h147
   rcases hk with rfl | rfl
   all_goals
    simp(maxSteps:=9^7) (disch:=first|exact dI|fail) only[LW,Typ.pv_mk,push_cast,seval]
    refine ab.pure h147 rfl ?_
    simp(maxSteps:=9^7) (disch:=first|exact dI|fail) only[tfR,Option.getD_none,Option.isSome_none,jE,TFd.pv_mk,Typ.pv_mk,ae,push_cast,seval]
  ·rw[h2]
   rw[h3,Nat.zero_add] at h147
   have hc:=hcl x (List.mem_of_getElem? h1)
   obtain⟨x1,x2,x3,⟨y1,y2,y3,y4,y5,y6,y7⟩,x5⟩:=x
   simp only[TFd.pv_mk,Typ.pv_mk,ae] at hc
   have hi:¬ (i:Int)<0:=by omega
   rcases hk with rfl | rfl
   all_goals
    simp(maxSteps:=9^7) (disch:=first|exact dI|fail) only[LW,Typ.pv_mk,push_cast,seval]
    refine ab.pure h147 rfl ?_
    simp(maxSteps:=9^7) (disch:=first|exact dI|fail) only[h1,Option.map_some,TFd.pv_mk,Typ.pv_mk,ae,push_cast,seval]
    refine ab.pure hc rfl ?_
    simp(maxSteps:=9^7) (disch:=first|exact dI|fail) only[tfR,Option.getD_some,Option.isSome_some,TFd.pv_mk,Typ.pv_mk,ae,push_cast,seval]
 ·rw[show bk (.mk k m M s w e f) name=none from if_neg hk]
  have h9:¬ k=9:=by omega
  have h10:¬ k=10:=by omega
  simp(maxSteps:=9^7) (disch:=first|exact dI|fail) only[LW,Typ.pv_mk,tfR,Option.getD_none,Option.isSome_none,jE,TFd.pv_mk,ae,push_cast,seval]
theorem qw (n:Nat)(t:Typ)(name:List UInt8)(h:cj n t):ak Tryz.prog aD 247 [t.pv,.str name] (tfR (bk t name)):=by
 have hf:=HL n t name h
 generalize bk t name=o at hf ⊢
 obtain⟨k,m,M,s,w,e,f⟩:=t
 simp only[Typ.pv_mk] at hf
 refine ak.intro IR (by simp[Mv]) ?_
 cases o with
 | none=>
   simp only[tfR,Option.getD_none,Option.isSome_none,jE,TFd.pv_mk,Typ.pv_mk,ae] at hf ⊢
   simp(maxSteps:=9^7) (disch:=first|exact dI|fail) only[Mv,Typ.pv_mk,push_cast,seval]
   refine ab.pure hf rfl ?_
   simp(maxSteps:=9^7) (disch:=first|exact dI|fail) only[push_cast,seval]
 | some x=>
   obtain⟨x1,x2,x3,⟨y1,y2,y3,y4,y5,y6,y7⟩,x5⟩:=x
   simp only[tfR,Option.getD_some,Option.isSome_some,TFd.pv_mk,Typ.pv_mk,ae] at hf ⊢
   simp(maxSteps:=9^7) (disch:=first|exact dI|fail) only[Mv,Typ.pv_mk,push_cast,seval]
   refine ab.pure hf rfl ?_
   simp(maxSteps:=9^7) (disch:=first|exact dI|fail) only[push_cast,seval]
end Go.Proofs.YtbaaokocnegdoaaGreatDoor
set_option maxRecDepth 100000
set_option linter.unusedVariables false
set_option linter.unusedSimpArgs false
-- many steps
namespace Go.Proofs.YtbaaokocnegdoaaGreatDoor
open Go Go.Ab
attribute [local irreducible] vc
theorem Dp (l:List Val)(g:Nat)(cs:List PV)(q:Val→Bool)(hq:∀ x∈l,ak Tryz.prog aD g (x.pv::cs) (.bool (q x)))(hl:l.length≤1000000000) :
  ak Tryz.prog aD 283 [.list (l.map Val.pv),.clo g [] cs] (.int .i64 (eR q l 0)):=by
 refine ak.intro Ix (by simp[ND]) ?_
 simp(maxSteps:=9^7) (disch:=first|exact dI|fail) only[ND,push_cast,seval]
 refine aB ([]) (fun m:Nat=>[(8,.pv (.int .i64 (m:Int)))]) (fun m=>[]) (fun m=>m≤l.length∧eR q l 0=eR q (l.drop m) m) (fun m=>l.length - m) (0) ?_;intro e0 σ0 n0 h0;simp(maxSteps:=9^7) (disch:=first|exact dI|fail) only[push_cast,seval] at h0;obtain⟨rfl,rfl,rfl⟩:=h0;refine⟨?_,?_,?_⟩
 ·simp(maxSteps:=9^7) (disch:=first|exact dI|fail) only[push_cast,seval]
 ·exact⟨by omega,by simp⟩
 ·rintro m ⟨hm,he⟩
  by_cases hlt:m<l.length
  ·have hltI:(m:Int)<l.length:=by omega
   obtain⟨x,hx⟩:∃ x,l[m]? = some x:=⟨_,List.getElem?_eq_getElem hlt⟩
   have hcall:=hq x (List.mem_of_getElem? hx)
   have hcl:x.pv.cells.length=6:=by cases x;rw[Val.pv_mk];rfl
   have hag:x.pv.isAgg=true:=by cases x;rw[Val.pv_mk];rfl
   simp(maxSteps:=9^7) (disch:=first|exact dI|fail) only[hx,hcl,hag,push_cast,seval]
   refine ab.pure hcall (by exact pN (x.pv::cs)) ?_
   cases hqx:q x with
   | true=>
     rw[he,fa hx hqx]
     simp(maxSteps:=9^7) (disch:=first|exact dI|fail) only[push_cast,seval]
   | false=>
     rw[dO hx hqx] at he
     simp(maxSteps:=9^7) (disch:=first|exact dI|fail) only[push_cast,seval]
     exact⟨m+1,bg (by simp(maxSteps:=9^7) (disch:=first|exact dI|fail) only[push_cast,seval]),⟨by omega,he⟩,by omega⟩
  ·have hltI:¬ (m:Int)<l.length:=by omega
   rw[he,fb hlt]
   simp(maxSteps:=9^7) (disch:=first|exact dI|fail) only[push_cast,seval]
theorem pf (l:List Val)(g:Nat)(cs:List PV)(q:Val→Bool)(hq:∀ x∈l,ak Tryz.prog aD g (x.pv::cs) (.bool (q x)))(hl:l.length≤1000000000) :
  ak Tryz.prog aD 245 [.list (l.map Val.pv),.clo g [] cs] (.bool (l.any q)):=by
 have h94:=Dp l g cs q hq hl
 have hfa:=hH (p:=q) l
 refine ak.intro IT (by simp[Mw]) ?_
 rcases ci (p:=q) l 0 with ⟨h1,h2⟩ | ⟨k,x,h1,h2,h3⟩
 ·rw[h2] at h94
  rw[h1] at hfa
  rw[← hfa]
  simp(maxSteps:=9^7) (disch:=first|exact dI|fail) only[Mw,push_cast,seval]
  refine ab.pure h94 rfl ?_
  simp(maxSteps:=9^7) (disch:=first|exact dI|fail) only[push_cast,seval]
  exact .refl _
 ·rw[h3] at h94
  rw[h2] at hfa
  rw[← hfa]
  have hk:(0:Int)≤((0+k:Nat):Int):=by omega
  generalize ((0+k:Nat):Int)=z at *
  simp(maxSteps:=9^7) (disch:=first|exact dI|fail) only[Mw,push_cast,seval]
  refine ab.pure h94 rfl ?_
  simp(maxSteps:=9^7) (disch:=first|exact dI|fail) only[push_cast,seval]
  exact .refl _
def gM (v:Val):TFd→Bool
 | .mk _ nm nd _ _=>(v.fields.find? (cI nm)).isNone&&!decide (nd=2)
theorem K6 (v:Val)(g:TFd)(hv:v.ok)(hk:v.kind=9)(h:v.fields.length≤1000000):ak Tryz.prog aD 248 [g.pv,.eptr [v.pv] 0 0] (.bool (gM v g)):=by
 obtain⟨n',nm',nd',⟨k',m',M',s',w',e',f'⟩,d'⟩:=g
 have h52:=DS v nm' hv hk h
 simp only[gM]
 generalize v.fields.find? (cI nm')=o at h52 ⊢
 obtain⟨vk,vn,vs,vt,vl,vf⟩:=v
 simp only[Val.pv_mk] at h52
 refine ak.intro IQ (by simp[L6]) ?_
 cases o with
 | none=>
   simp only[vlR,Option.map_none,Option.getD_none,Option.isSome_none,Option.isNone_none,FD,Val.pv_mk] at h52 ⊢
   by_cases hnd:nd'=2
   ·simp(maxSteps:=9^7) (disch:=first|exact dI|fail) only[L6,Val.pv_mk,TFd.pv_mk,Typ.pv_mk,ae,push_cast,seval]
    refine ab.pure h52 rfl ?_
    simp(maxSteps:=9^7) (disch:=first|exact dI|fail) only[hnd,push_cast,seval]
   ·simp(maxSteps:=9^7) (disch:=first|exact dI|fail) only[L6,Val.pv_mk,TFd.pv_mk,Typ.pv_mk,ae,push_cast,seval]
    refine ab.pure h52 rfl ?_
    simp(maxSteps:=9^7) (disch:=first|exact dI|fail) only[hnd,push_cast,seval]
 | some x=>
   obtain⟨xn,⟨xk,xi,xs,xt,xl,xf⟩⟩:=x
   simp only[vlR,Option.map_some,Option.getD_some,Option.isSome_some,Option.isNone_some,Fld.value,Val.pv_mk] at h52 ⊢
   simp(maxSteps:=9^7) (disch:=first|exact dI|fail) only[L6,Val.pv_mk,TFd.pv_mk,Typ.pv_mk,ae,push_cast,seval]
   refine ab.pure h52 rfl ?_
   simp(maxSteps:=9^7) (disch:=first|exact dI|fail) only[push_cast,seval]
end Go.Proofs.YtbaaokocnegdoaaGreatDoor
set_option maxRecDepth 100000
set_option linter.unusedVariables false
set_option linter.unusedSimpArgs false
-- many steps
namespace Go.Proofs.YtbaaokocnegdoaaGreatDoor
open Go Go.Ab
attribute [local irreducible] vc
def s7 (p:Typ→Bool):List Typ→Bool
 | []=>false
 | x::_=>p x
def sZ (p:Val→Bool):List Val→Bool
 | []=>false
 | x::_=>p x
def FN (p:Typ→Val→Bool)(l:List Val):Option TFd→Bool
 | none=>false
 | some g=>sZ (p g.typ) l
def rG (p:Typ→Val→Bool)(v:Val):Option TFd→Bool
 | none=>false
 | some g=>p g.typ v
def Mp (t:Typ)(v:Val):Bool:=inB v.num t.min t.max&&decide (v.scale=t.scale)
def MI (t:Typ)(v:Val):Bool:=if 0<t.words.length then t.words.any fun x=>decide (x=v.text) else inB v.text.length t.min t.max
def m8 (p:Typ→Val→Bool)(t:Typ)(v:Val):Bool:=
 if t.kind=2∨t.kind=6∨t.kind=7∨t.kind=3 then Mp t v else if t.kind=4 then MI t v else if t.kind=5 then inB v.text.length t.min t.max
 else if t.kind=8 then inB v.lst.length t.min t.max&&!(v.lst.any fun x=>!(s7 (fun e=>p e x) t.elem)) else if t.kind=10 then FN p v.lst (bk t v.text)
 else if t.kind=9 then (v.fields.all fun x=>rG p x.value (bk t x.name))&&!(t.fields.any (gM v)) else true
def bj:Nat→Typ→Val→Bool
 | 0,_,_=>false
 | n+1,t,v=>decide (v.kind=t.kind)&&m8 (bj n) t v
def mx:Nat→Typ→Val→Prop
 | 0,_,_=>False
 | n+1,t,v=>(∃ N,cj N t)∧(1≤t.kind∧t.kind≤10)∧t.words.length≤1000000∧v.ok∧v.lst.length≤1000000000∧v.fields.length≤1000000∧(v.kind=t.kind →
   (t.kind=2∨t.kind=6∨t.kind=7→v.scale=t.scale)∧(t.kind=8→∀ y∈v.lst,∃ x r,t.elem=x::r∧mx n x y)∧(t.kind=10→∀ g,bk t v.text=some g→∃ y r,v.lst=y::r∧mx n g.typ y)∧(t.kind=9→∀ x∈v.fields,∀ g,bk t x.name=some g→mx n g.typ x.value))
def m6 (n:Nat):Prop:=∀ t v,mx n t v→ak Tryz.prog aD 193 [t.pv,v.pv] (.bool (bj n t v))
theorem yw (n:Nat)(t:Typ)(v:Val)(h:¬ v.kind=t.kind):ak Tryz.prog aD 193 [t.pv,v.pv] (.bool (bj (n+1) t v)):=by
 rw[show bj (n+1) t v=false by simp[bj,h]]
 obtain⟨k,m,M,s,w,e,f⟩:=t
 obtain⟨vk,vn,vs,vt,vl,vf⟩:=v
 simp only[Val.kind,Typ.kind] at h
 refine ak.intro dt (by simp[jv]) ?_
 simp(maxSteps:=9^7) (disch:=first|exact dI|fail) only[jv,Typ.pv_mk,Val.pv_mk,push_cast,seval]
theorem s9 (n:Nat)(k m M s:Int)(w:List (List UInt8))(e:List Typ)(f:List TFd)(vn vs:Int)(vt:List UInt8)(vl:List Val)(vf:List Fld)(hk:k=2∨k=6∨k=7∨k=3):ak Tryz.prog aD 193 [(Typ.mk k m M s w e f).pv,(Val.mk k vn vs vt vl vf).pv] (.bool (bj (n+1) (.mk k m M s w e f) (.mk k vn vs vt vl vf))):=by
 have hi:=ec vn m M
 rw[show bj (n+1) (.mk k m M s w e f) (.mk k vn vs vt vl vf)=(inB vn m M&&decide (vs=s)) by simp[bj,m8,Typ.kind,Val.kind,hk,Mp,Val.num,Typ.min,Typ.max,Val.scale,Typ.scale];rfl]
 generalize inB vn m M=b at hi ⊢
 by_cases hs:vs=s
 ·rcases hk with rfl | rfl | rfl | rfl
  all_goals
   refine ak.intro dt (by simp[jv]) ?_
   simp(maxSteps:=9^7) (disch:=first|exact dI|fail) only[jv,Typ.pv_mk,Val.pv_mk,push_cast,seval]
   refine ab.pure hi rfl ?_
   cases b with
   | false=>simp(maxSteps:=9^7) (disch:=first|exact dI|fail) only[push_cast,seval]
   | true=>simp(maxSteps:=9^7) (disch:=first|exact dI|fail) only[hs,push_cast,seval]
 ·rcases hk with rfl | rfl | rfl | rfl
  all_goals
   refine ak.intro dt (by simp[jv]) ?_
   simp(maxSteps:=9^7) (disch:=first|exact dI|fail) only[jv,Typ.pv_mk,Val.pv_mk,push_cast,seval]
   refine ab.pure hi rfl ?_
   cases b with
   | false=>simp(maxSteps:=9^7) (disch:=first|exact dI|fail) only[push_cast,seval]
   | true=>simp(maxSteps:=9^7) (disch:=first|exact dI|fail) only[hs,push_cast,seval]
theorem DI (n:Nat)(m M s:Int)(w:List (List UInt8))(e:List Typ)(f:List TFd)(vn vs:Int)(vt:List UInt8)(vl:List Val)(vf:List Fld)(hw:w.length≤1000000):ak Tryz.prog aD 193 [(Typ.mk 4 m M s w e f).pv,(Val.mk 4 vn vs vt vl vf).pv] (.bool (bj (n+1) (.mk 4 m M s w e f) (.mk 4 vn vs vt vl vf))):=by
 have hi:=ec vt.length m M
 have hc:=tC w vt hw
 rw[show bj (n+1) (.mk 4 m M s w e f) (.mk 4 vn vs vt vl vf)=if 0<w.length then w.any (fun x=>decide (x=vt)) else inB vt.length m M by simp[bj,m8,Typ.kind,Val.kind,MI,Val.text,Typ.min,Typ.max,Typ.words];rfl]
 refine ak.intro dt (by simp[jv]) ?_
 by_cases h0:0<w.length
 ·have h0I:(0:Int)<(w.length:Int):=by omega
  rw[if_pos h0]
  generalize w.any (fun x=>decide (x=vt))=b at hc ⊢
  simp(maxSteps:=9^7) (disch:=first|exact dI|fail) only[jv,Typ.pv_mk,Val.pv_mk,push_cast,seval]
  refine ab.pure hc rfl ?_
  simp(maxSteps:=9^7) (disch:=first|exact dI|fail) only[push_cast,seval]
 ·have h0I:¬ (0:Int)<(w.length:Int):=by omega
  rw[if_neg h0]
  generalize inB vt.length m M=b at hi ⊢
  simp(maxSteps:=9^7) (disch:=first|exact dI|fail) only[jv,Typ.pv_mk,Val.pv_mk,push_cast,seval]
  refine ab.pure hi rfl ?_
  simp(maxSteps:=9^7) (disch:=first|exact dI|fail) only[push_cast,seval]
theorem DH (n:Nat)(m M s:Int)(w:List (List UInt8))(e:List Typ)(f:List TFd)(vn vs:Int)(vt:List UInt8)(vl:List Val)(vf:List Fld):ak Tryz.prog aD 193 [(Typ.mk 5 m M s w e f).pv,(Val.mk 5 vn vs vt vl vf).pv] (.bool (bj (n+1) (.mk 5 m M s w e f) (.mk 5 vn vs vt vl vf))):=by
 have hi:=ec vt.length m M
 rw[show bj (n+1) (.mk 5 m M s w e f) (.mk 5 vn vs vt vl vf)=inB vt.length m M by simp[bj,m8,Typ.kind,Val.kind,Val.text,Typ.min,Typ.max]]
 generalize inB vt.length m M=b at hi ⊢
 refine ak.intro dt (by simp[jv]) ?_
 simp(maxSteps:=9^7) (disch:=first|exact dI|fail) only[jv,Typ.pv_mk,Val.pv_mk,push_cast,seval]
 refine ab.pure hi rfl ?_
 simp(maxSteps:=9^7) (disch:=first|exact dI|fail) only[push_cast,seval]
theorem K7 (n:Nat)(ih:m6 n)(m M s:Int)(w:List (List UInt8))(x:Typ)(r:List Typ)(f:List TFd)(y:Val)(h:mx n x y):ak Tryz.prog aD 246 [y.pv,.eptr [(Typ.mk 8 m M s w (x::r) f).pv] 0 0] (.bool (!bj n x y)):=by
 have hc:=ih x y h
 generalize bj n x y=b at hc ⊢
 obtain⟨k',m',M',s',w',e',f'⟩:=x
 obtain⟨vk,vn,vs,vt,vl,vf⟩:=y
 simp only[Typ.pv_mk,Val.pv_mk] at hc
 refine ak.intro IS (by simp[NO]) ?_
 simp(maxSteps:=9^7) (disch:=first|exact dI|fail) only[NO,Typ.pv_mk,Val.pv_mk,aO,push_cast,seval]
 refine ab.pure hc rfl ?_
 simp(maxSteps:=9^7) (disch:=first|exact dI|fail) only[push_cast,seval]
theorem DG (n:Nat)(ih:m6 n)(m M s:Int)(w:List (List UInt8))(e:List Typ)(f:List TFd)(vn vs:Int)(vt:List UInt8)(vl:List Val)(vf:List Fld)(hl:vl.length≤1000000000)(h:∀ y∈vl,∃ x r,e=x::r∧mx n x y):ak Tryz.prog aD 193 [(Typ.mk 8 m M s w e f).pv,(Val.mk 8 vn vs vt vl vf).pv] (.bool (bj (n+1) (.mk 8 m M s w e f) (.mk 8 vn vs vt vl vf))):=by
 have hi:=ec vl.length m M
 have hc:=pf vl 246 [.eptr [(Typ.mk 8 m M s w e f).pv] 0 0] (fun x=>!(s7 (fun e=>bj n e x) e)) (fun y hy=>by
  obtain⟨x,r,rfl,hx⟩:=h y hy
  exact K7 n ih m M s w x r f y hx) hl
 rw[show bj (n+1) (.mk 8 m M s w e f) (.mk 8 vn vs vt vl vf)=(inB vl.length m M&&!(vl.any (fun x=>!(s7 (fun e=>bj n e x) e)))) by simp[bj,m8,Typ.kind,Val.kind,Val.lst,Typ.min,Typ.max,Typ.elem]]
 generalize inB vl.length m M=b at hi ⊢
 generalize vl.any (fun x=>!(s7 (fun e=>bj n e x) e))=q at hc ⊢
 simp only[Typ.pv_mk] at hc
 refine ak.intro dt (by simp[jv]) ?_
 simp(maxSteps:=9^7) (disch:=first|exact dI|fail) only[jv,Typ.pv_mk,Val.pv_mk,push_cast,seval]
 refine ab.pure hi rfl ?_
 cases b with
 | false=>simp(maxSteps:=9^7) (disch:=first|exact dI|fail) only[push_cast,seval]
 | true=>
   simp(maxSteps:=9^7) (disch:=first|exact dI|fail) only[push_cast,seval]
   refine ab.pure hc rfl ?_
   simp(maxSteps:=9^7) (disch:=first|exact dI|fail) only[push_cast,seval]
end Go.Proofs.YtbaaokocnegdoaaGreatDoor
