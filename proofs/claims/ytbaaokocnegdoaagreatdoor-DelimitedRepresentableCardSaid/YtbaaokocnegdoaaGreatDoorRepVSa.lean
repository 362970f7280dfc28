/- A part of the proof for DelimitedRepresentableCardSaid. -/
import Derived.Test.YtbaaokocnegdoaaGreatDoorRepW9
set_option maxRecDepth 100000
set_option linter.unusedVariables false
set_option linter.unusedSimpArgs false
-- many steps
namespace Go.Proofs.YtbaaokocnegdoaaGreatDoor
open Go Go.Ab
attribute [local irreducible] vc
theorem MD (x:TFd)(name:List UInt8):am Tryz.prog aE 285 [x.pv,.eptr [.str name] 0 0] (.bool (named name x)):=by
 obtain⟨a,b,c,⟨k,m,n,s,w,e,fs⟩,d⟩:=x
 refine am.intro JT (by simp[Pm]) ?_
 simp(maxSteps:=9^7) (disch:=first|exact dI|fail) only[Pm,TFd.pv_mk,Typ.pv_mk,named,TFd.name,push_cast,seval]
 exact decide_eq_decide.2 Iff.rfl
theorem l0 {n:Nat}{k m M s:Int}{w:List (List UInt8)}{e:List Typ}{f:List TFd}(h:cr (n+1) (.mk k m M s w e f)){x:TFd}(hx:x∈f):am Tryz.prog aE 295 [x.pv] x.pv:=by
 simp only[cr] at h
 obtain⟨h1,h2,h3⟩:=h.2.2.2.2 x hx
 obtain⟨n',nm',nd',⟨k',m',M',s',w',e',f'⟩,d'⟩:=x
 exact rt _ _ _ _ _ _ _ _ _ _ _ (rr n _ h3) h1 h2
def bq (t:Typ)(name:List UInt8):Option TFd:=if t.kind=9∨t.kind=10 then t.fields.find? (named name) else none
theorem I6 (n:Nat)(t:Typ)(name:List UInt8)(h:cr n t):am Tryz.prog aE 284 [t.pv,.clo 285 [] [.eptr [.str name] 0 0]] (tfR (bq t name)):=by
 cases n with
 | zero=>exact h.elim
 | succ n=>
 obtain⟨k,m,M,s,w,e,f⟩:=t
 have hcl:=fun x hx=>l0 h (x:=x) hx
 have hfl:f.length≤1000000000:=by simp only[cr] at h;exact h.2.2.1
 clear h
 have h147:=zD f 285 [.eptr [.str name] 0 0] (named name) (fun x _=>MD x name) (by omega)
 refine am.intro JU (by simp[Nx]) ?_
 by_cases hk:k=9∨k=10
 ·rw[show bq (.mk k m M s w e f) name=f.find? (named name) from if_pos hk]
  rcases cq (p:=named name) f 0 with ⟨h1,h2⟩ | ⟨i,x,h1,h2,h3⟩
  ·rw[h1]
   rw[h2] at h147
   rcases hk with rfl | rfl
   all_goals
    simp(maxSteps:=9^7) (disch:=first|exact dI|fail) only[Nx,Typ.pv_mk,push_cast,seval]
    refine ab.pure h147 rfl ?_
    simp(maxSteps:=9^7) (disch:=first|exact dI|fail) only[tfR,Option.getD_none,Option.isSome_none,j4,TFd.pv_mk,Typ.pv_mk,ag,push_cast,seval]
  ·rw[h2]
   rw[h3,Nat.zero_add] at h147
   have hc:=hcl x (List.mem_of_getElem? h1)
   obtain⟨x1,x2,x3,⟨y1,y2,y3,y4,y5,y6,y7⟩,x5⟩:=x
   simp only[TFd.pv_mk,Typ.pv_mk,ag] at hc
   have hi:¬ (i:Int)<0:=by omega
   rcases hk with rfl | rfl
   all_goals
    simp(maxSteps:=9^7) (disch:=first|exact dI|fail) only[Nx,Typ.pv_mk,push_cast,seval]
    refine ab.pure h147 rfl ?_
    simp(maxSteps:=9^7) (disch:=first|exact dI|fail) only[h1,Option.map_some,TFd.pv_mk,Typ.pv_mk,ag,push_cast,seval]
    refine ab.pure hc rfl ?_
    simp(maxSteps:=9^7) (disch:=first|exact dI|fail) only[tfR,Option.getD_some,Option.isSome_some,TFd.pv_mk,Typ.pv_mk,ag,push_cast,seval]
 ·rw[show bq (.mk k m M s w e f) name=none from if_neg hk]
  have h9:¬ k=9:=by omega
  have h10:¬ k=10:=by omega
  simp(maxSteps:=9^7) (disch:=first|exact dI|fail) only[Nx,Typ.pv_mk,tfR,Option.getD_none,Option.isSome_none,j4,TFd.pv_mk,ag,push_cast,seval]
theorem rp (n:Nat)(t:Typ)(name:List UInt8)(h:cr n t):am Tryz.prog aE 247 [t.pv,.str name] (tfR (bq t name)):=by
 have hf:=I6 n t name h
 generalize bq t name=o at hf ⊢
 obtain⟨k,m,M,s,w,e,f⟩:=t
 simp only[Typ.pv_mk] at hf
 refine am.intro Kf (by simp[N7]) ?_
 cases o with
 | none=>
   simp only[tfR,Option.getD_none,Option.isSome_none,j4,TFd.pv_mk,Typ.pv_mk,ag] at hf ⊢
   simp(maxSteps:=9^7) (disch:=first|exact dI|fail) only[N7,Typ.pv_mk,push_cast,seval]
   refine ab.pure hf rfl ?_
   simp(maxSteps:=9^7) (disch:=first|exact dI|fail) only[push_cast,seval]
 | some x=>
   obtain⟨x1,x2,x3,⟨y1,y2,y3,y4,y5,y6,y7⟩,x5⟩:=x
   simp only[tfR,Option.getD_some,Option.isSome_some,TFd.pv_mk,Typ.pv_mk,ag] at hf ⊢
   simp(maxSteps:=9^7) (disch:=first|exact dI|fail) only[N7,Typ.pv_mk,push_cast,seval]
   refine ab.pure hf rfl ?_
   simp(maxSteps:=9^7) (disch:=first|exact dI|fail) only[push_cast,seval]
end Go.Proofs.YtbaaokocnegdoaaGreatDoor
set_option maxRecDepth 100000
set_option linter.unusedVariables false
set_option linter.unusedSimpArgs false
-- many steps
namespace Go.Proofs.YtbaaokocnegdoaaGreatDoor
open Go Go.Ab
attribute [local irreducible] vc
theorem ED (l:List Val)(g:Nat)(cs:List PV)(q:Val→Bool)(hq:∀ x∈l,am Tryz.prog aE g (x.pv::cs) (.bool (q x)))(hl:l.length≤1000000000) :
  am Tryz.prog aE 283 [.list (l.map Val.pv),.clo g [] cs] (.int .i64 (fj q l 0)):=by
 refine am.intro JV (by simp[Pn]) ?_
 simp(maxSteps:=9^7) (disch:=first|exact dI|fail) only[Pn,push_cast,seval]
 refine aD ([]) (fun m:Nat=>[(8,.pv (.int .i64 (m:Int)))]) (fun m=>[]) (fun m=>m≤l.length∧fj q l 0=fj q (l.drop m) m) (fun m=>l.length - m) (0) ?_;intro e0 σ0 n0 h0;simp(maxSteps:=9^7) (disch:=first|exact dI|fail) only[push_cast,seval] at h0;obtain⟨rfl,rfl,rfl⟩:=h0;refine⟨?_,?_,?_⟩
 ·simp(maxSteps:=9^7) (disch:=first|exact dI|fail) only[push_cast,seval]
 ·exact⟨by omega,by simp⟩
 ·rintro m ⟨hm,he⟩
  by_cases hlt:m<l.length
  ·have hltI:(m:Int)<l.length:=by omega
   obtain⟨x,hx⟩:∃ x,l[m]? = some x:=⟨_,List.getElem?_eq_getElem hlt⟩
   have hcall:=hq x (List.mem_of_getElem? hx)
   have hcl:x.pv.cells.length=6:=by cases x;rw[Val.pv_mk];rfl
   have hag:x.pv.isAgg=true:=by cases x;rw[Val.pv_mk];rfl
   simp(maxSteps:=9^7) (disch:=first|exact dI|fail) only[hx,hcl,hag,push_cast,seval]
   refine ab.pure hcall (by exact qL (x.pv::cs)) ?_
   cases hqx:q x with
   | true=>
     rw[he,fx hx hqx]
     simp(maxSteps:=9^7) (disch:=first|exact dI|fail) only[push_cast,seval]
   | false=>
     rw[ea hx hqx] at he
     simp(maxSteps:=9^7) (disch:=first|exact dI|fail) only[push_cast,seval]
     exact⟨m+1,bf (by simp(maxSteps:=9^7) (disch:=first|exact dI|fail) only[push_cast,seval]),⟨by omega,he⟩,by omega⟩
  ·have hltI:¬ (m:Int)<l.length:=by omega
   rw[he,fy hlt]
   simp(maxSteps:=9^7) (disch:=first|exact dI|fail) only[push_cast,seval]
theorem pX (l:List Val)(g:Nat)(cs:List PV)(q:Val→Bool)(hq:∀ x∈l,am Tryz.prog aE g (x.pv::cs) (.bool (q x)))(hl:l.length≤1000000000) :
  am Tryz.prog aE 245 [.list (l.map Val.pv),.clo g [] cs] (.bool (l.any q)):=by
 have h94:=ED l g cs q hq hl
 have hfa:=iB (p:=q) l
 refine am.intro Kh (by simp[N8]) ?_
 rcases cq (p:=q) l 0 with ⟨h1,h2⟩ | ⟨k,x,h1,h2,h3⟩
 ·rw[h2] at h94
  rw[h1] at hfa
  rw[← hfa]
  simp(maxSteps:=9^7) (disch:=first|exact dI|fail) only[N8,push_cast,seval]
  refine ab.pure h94 rfl ?_
  simp(maxSteps:=9^7) (disch:=first|exact dI|fail) only[push_cast,seval]
  exact .refl _
 ·rw[h3] at h94
  rw[h2] at hfa
  rw[← hfa]
  have hk:(0:Int)≤((0+k:Nat):Int):=by omega
  generalize ((0+k:Nat):Int)=z at *
  simp(maxSteps:=9^7) (disch:=first|exact dI|fail) only[N8,push_cast,seval]
  refine ab.pure h94 rfl ?_
  simp(maxSteps:=9^7) (disch:=first|exact dI|fail) only[push_cast,seval]
  exact .refl _
def ia (v:Val):TFd→Bool
 | .mk _ nm nd _ _=>(v.fields.find? (cG nm)).isNone&&!decide (nd=2)
theorem ME (v:Val)(g:TFd)(hv:v.ok)(hk:v.kind=9)(h:v.fields.length≤1000000):am Tryz.prog aE 248 [g.pv,.eptr [v.pv] 0 0] (.bool (ia v g)):=by
 obtain⟨n',nm',nd',⟨k',m',M',s',w',e',f'⟩,d'⟩:=g
 have h52:=E5 v nm' hv hk h
 simp only[ia]
 generalize v.fields.find? (cG nm')=o at h52 ⊢
 obtain⟨vk,vn,vs,vt,vl,vf⟩:=v
 simp only[Val.pv_mk] at h52
 refine am.intro Ke (by simp[NI]) ?_
 cases o with
 | none=>
   simp only[vlR,Option.map_none,Option.getD_none,Option.isSome_none,Option.isNone_none,BW,Val.pv_mk] at h52 ⊢
   by_cases hnd:nd'=2
   ·simp(maxSteps:=9^7) (disch:=first|exact dI|fail) only[NI,Val.pv_mk,TFd.pv_mk,Typ.pv_mk,ag,push_cast,seval]
    refine ab.pure h52 rfl ?_
    simp(maxSteps:=9^7) (disch:=first|exact dI|fail) only[hnd,push_cast,seval]
   ·simp(maxSteps:=9^7) (disch:=first|exact dI|fail) only[NI,Val.pv_mk,TFd.pv_mk,Typ.pv_mk,ag,push_cast,seval]
    refine ab.pure h52 rfl ?_
    simp(maxSteps:=9^7) (disch:=first|exact dI|fail) only[hnd,push_cast,seval]
 | some x=>
   obtain⟨xn,⟨xk,xi,xs,xt,xl,xf⟩⟩:=x
   simp only[vlR,Option.map_some,Option.getD_some,Option.isSome_some,Option.isNone_some,Fld.value,Val.pv_mk] at h52 ⊢
   simp(maxSteps:=9^7) (disch:=first|exact dI|fail) only[NI,Val.pv_mk,TFd.pv_mk,Typ.pv_mk,ag,push_cast,seval]
   refine ab.pure h52 rfl ?_
   simp(maxSteps:=9^7) (disch:=first|exact dI|fail) only[push_cast,seval]
end Go.Proofs.YtbaaokocnegdoaaGreatDoor
set_option maxRecDepth 100000
set_option linter.unusedVariables false
set_option linter.unusedSimpArgs false
-- many steps
namespace Go.Proofs.YtbaaokocnegdoaaGreatDoor
open Go Go.Ab
attribute [local irreducible] vc
def ud (p:Typ→Bool):List Typ→Bool
 | []=>false
 | x::_=>p x
def uc (p:Val→Bool):List Val→Bool
 | []=>false
 | x::_=>p x
def G5 (p:Typ→Val→Bool)(l:List Val):Option TFd→Bool
 | none=>false
 | some g=>uc (p g.typ) l
def sB (p:Typ→Val→Bool)(v:Val):Option TFd→Bool
 | none=>false
 | some g=>p g.typ v
def N1 (t:Typ)(v:Val):Bool:=inB v.num t.min t.max&&decide (v.scale=t.scale)
def Ol (t:Typ)(v:Val):Bool:=if 0<t.words.length then t.words.any fun x=>decide (x=v.text) else inB v.text.length t.min t.max
def nW (p:Typ→Val→Bool)(t:Typ)(v:Val):Bool:=
 if t.kind=2∨t.kind=6∨t.kind=7∨t.kind=3 then N1 t v else if t.kind=4 then Ol t v else if t.kind=5 then inB v.text.length t.min t.max
 else if t.kind=8 then inB v.lst.length t.min t.max&&!(v.lst.any fun x=>!(ud (fun e=>p e x) t.elem)) else if t.kind=10 then G5 p v.lst (bq t v.text)
 else if t.kind=9 then (v.fields.all fun x=>sB p x.value (bq t x.name))&&!(t.fields.any (ia v)) else true
def bp:Nat→Typ→Val→Bool
 | 0,_,_=>false
 | n+1,t,v=>decide (v.kind=t.kind)&&nW (bp n) t v
def nc:Nat→Typ→Val→Prop
 | 0,_,_=>False
 | n+1,t,v=>(∃ N,cr N t)∧(1≤t.kind∧t.kind≤10)∧t.words.length≤1000000∧v.ok∧v.lst.length≤1000000000∧v.fields.length≤1000000∧(v.kind=t.kind →
   (t.kind=2∨t.kind=6∨t.kind=7→v.scale=t.scale)∧(t.kind=8→∀ y∈v.lst,∃ x r,t.elem=x::r∧nc n x y)∧(t.kind=10→∀ g,bq t v.text=some g→∃ y r,v.lst=y::r∧nc n g.typ y)∧(t.kind=9→∀ x∈v.fields,∀ g,bq t x.name=some g→nc n g.typ x.value))
def nU (n:Nat):Prop:=∀ t v,nc n t v→am Tryz.prog aE 193 [t.pv,v.pv] (.bool (bp n t v))
theorem zO (n:Nat)(t:Typ)(v:Val)(h:¬ v.kind=t.kind):am Tryz.prog aE 193 [t.pv,v.pv] (.bool (bp (n+1) t v)):=by
 rw[show bp (n+1) t v=false by simp[bp,h]]
 obtain⟨k,m,M,s,w,e,f⟩:=t
 obtain⟨vk,vn,vs,vt,vl,vf⟩:=v
 simp only[Val.kind,Typ.kind] at h
 refine am.intro dG (by simp[jV]) ?_
 simp(maxSteps:=9^7) (disch:=first|exact dI|fail) only[jV,Typ.pv_mk,Val.pv_mk,push_cast,seval]
theorem uf (n:Nat)(k m M s:Int)(w:List (List UInt8))(e:List Typ)(f:List TFd)(vn vs:Int)(vt:List UInt8)(vl:List Val)(vf:List Fld)(hk:k=2∨k=6∨k=7∨k=3):am Tryz.prog aE 193 [(Typ.mk k m M s w e f).pv,(Val.mk k vn vs vt vl vf).pv] (.bool (bp (n+1) (.mk k m M s w e f) (.mk k vn vs vt vl vf))):=by
 have hi:=ew vn m M
 rw[show bp (n+1) (.mk k m M s w e f) (.mk k vn vs vt vl vf)=(inB vn m M&&decide (vs=s)) by simp[bp,nW,Typ.kind,Val.kind,hk,N1,Val.num,Typ.min,Typ.max,Val.scale,Typ.scale];rfl]
 generalize inB vn m M=b at hi ⊢
 by_cases hs:vs=s
 ·rcases hk with rfl | rfl | rfl | rfl
  all_goals
   refine am.intro dG (by simp[jV]) ?_
   simp(maxSteps:=9^7) (disch:=first|exact dI|fail) only[jV,Typ.pv_mk,Val.pv_mk,push_cast,seval]
   refine ab.pure hi rfl ?_
   cases b with
   | false=>simp(maxSteps:=9^7) (disch:=first|exact dI|fail) only[push_cast,seval]
   | true=>simp(maxSteps:=9^7) (disch:=first|exact dI|fail) only[hs,push_cast,seval]
 ·rcases hk with rfl | rfl | rfl | rfl
  all_goals
   refine am.intro dG (by simp[jV]) ?_
   simp(maxSteps:=9^7) (disch:=first|exact dI|fail) only[jV,Typ.pv_mk,Val.pv_mk,push_cast,seval]
   refine ab.pure hi rfl ?_
   cases b with
   | false=>simp(maxSteps:=9^7) (disch:=first|exact dI|fail) only[push_cast,seval]
   | true=>simp(maxSteps:=9^7) (disch:=first|exact dI|fail) only[hs,push_cast,seval]
theorem EV (n:Nat)(m M s:Int)(w:List (List UInt8))(e:List Typ)(f:List TFd)(vn vs:Int)(vt:List UInt8)(vl:List Val)(vf:List Fld)(hw:w.length≤1000000):am Tryz.prog aE 193 [(Typ.mk 4 m M s w e f).pv,(Val.mk 4 vn vs vt vl vf).pv] (.bool (bp (n+1) (.mk 4 m M s w e f) (.mk 4 vn vs vt vl vf))):=by
 have hi:=ew vt.length m M
 have hc:=gL w vt hw
 rw[show bp (n+1) (.mk 4 m M s w e f) (.mk 4 vn vs vt vl vf)=if 0<w.length then w.any (fun x=>decide (x=vt)) else inB vt.length m M by simp[bp,nW,Typ.kind,Val.kind,Ol,Val.text,Typ.min,Typ.max,Typ.words];rfl]
 refine am.intro dG (by simp[jV]) ?_
 by_cases h0:0<w.length
 ·have h0I:(0:Int)<(w.length:Int):=by omega
  rw[if_pos h0]
  generalize w.any (fun x=>decide (x=vt))=b at hc ⊢
  simp(maxSteps:=9^7) (disch:=first|exact dI|fail) only[jV,Typ.pv_mk,Val.pv_mk,push_cast,seval]
  refine ab.pure hc rfl ?_
  simp(maxSteps:=9^7) (disch:=first|exact dI|fail) only[push_cast,seval]
 ·have h0I:¬ (0:Int)<(w.length:Int):=by omega
  rw[if_neg h0]
  generalize inB vt.length m M=b at hi ⊢
  simp(maxSteps:=9^7) (disch:=first|exact dI|fail) only[jV,Typ.pv_mk,Val.pv_mk,push_cast,seval]
  refine ab.pure hi rfl ?_
  simp(maxSteps:=9^7) (disch:=first|exact dI|fail) only[push_cast,seval]
theorem EU (n:Nat)(m M s:Int)(w:List (List UInt8))(e:List Typ)(f:List TFd)(vn vs:Int)(vt:List UInt8)(vl:List Val)(vf:List Fld):am Tryz.prog aE 193 [(Typ.mk 5 m M s w e f).pv,(Val.mk 5 vn vs vt vl vf).pv] (.bool (bp (n+1) (.mk 5 m M s w e f) (.mk 5 vn vs vt vl vf))):=by
 have hi:=ew vt.length m M
 rw[show bp (n+1) (.mk 5 m M s w e f) (.mk 5 vn vs vt vl vf)=inB vt.length m M by simp[bp,nW,Typ.kind,Val.kind,Val.text,Typ.min,Typ.max]]
 generalize inB vt.length m M=b at hi ⊢
 refine am.intro dG (by simp[jV]) ?_
 simp(maxSteps:=9^7) (disch:=first|exact dI|fail) only[jV,Typ.pv_mk,Val.pv_mk,push_cast,seval]
 refine ab.pure hi rfl ?_
 simp(maxSteps:=9^7) (disch:=first|exact dI|fail) only[push_cast,seval]
theorem MF (n:Nat)(ih:nU n)(m M s:Int)(w:List (List UInt8))(x:Typ)(r:List Typ)(f:List TFd)(y:Val)(h:nc n x y):am Tryz.prog aE 246 [y.pv,.eptr [(Typ.mk 8 m M s w (x::r) f).pv] 0 0] (.bool (!bp n x y)):=by
 have hc:=ih x y h
 generalize bp n x y=b at hc ⊢
 obtain⟨k',m',M',s',w',e',f'⟩:=x
 obtain⟨vk,vn,vs,vt,vl,vf⟩:=y
 simp only[Typ.pv_mk,Val.pv_mk] at hc
 refine am.intro Kg (by simp[Py]) ?_
 simp(maxSteps:=9^7) (disch:=first|exact dI|fail) only[Py,Typ.pv_mk,Val.pv_mk,aT,push_cast,seval]
 refine ab.pure hc rfl ?_
 simp(maxSteps:=9^7) (disch:=first|exact dI|fail) only[push_cast,seval]
theorem ET (n:Nat)(ih:nU n)(m M s:Int)(w:List (List UInt8))(e:List Typ)(f:List TFd)(vn vs:Int)(vt:List UInt8)(vl:List Val)(vf:List Fld)(hl:vl.length≤1000000000)(h:∀ y∈vl,∃ x r,e=x::r∧nc n x y):am Tryz.prog aE 193 [(Typ.mk 8 m M s w e f).pv,(Val.mk 8 vn vs vt vl vf).pv] (.bool (bp (n+1) (.mk 8 m M s w e f) (.mk 8 vn vs vt vl vf))):=by
 have hi:=ew vl.length m M
 have hc:=pX vl 246 [.eptr [(Typ.mk 8 m M s w e f).pv] 0 0] (fun x=>!(ud (fun e=>bp n e x) e)) (fun y hy=>by
  obtain⟨x,r,rfl,hx⟩:=h y hy
  exact MF n ih m M s w x r f y hx) hl
 rw[show bp (n+1) (.mk 8 m M s w e f) (.mk 8 vn vs vt vl vf)=(inB vl.length m M&&!(vl.any (fun x=>!(ud (fun e=>bp n e x) e)))) by simp[bp,nW,Typ.kind,Val.kind,Val.lst,Typ.min,Typ.max,Typ.elem]]
 generalize inB vl.length m M=b at hi ⊢
 generalize vl.any (fun x=>!(ud (fun e=>bp n e x) e))=q at hc ⊢
 simp only[Typ.pv_mk] at hc
 refine am.intro dG (by simp[jV]) ?_
 simp(maxSteps:=9^7) (disch:=first|exact dI|fail) only[jV,Typ.pv_mk,Val.pv_mk,push_cast,seval]
 refine ab.pure hi rfl ?_
 cases b with
 | false=>simp(maxSteps:=9^7) (disch:=first|exact dI|fail) only[push_cast,seval]
 | true=>
   simp(maxSteps:=9^7) (disch:=first|exact dI|fail) only[push_cast,seval]
   refine ab.pure hc rfl ?_
   simp(maxSteps:=9^7) (disch:=first|exact dI|fail) only[push_cast,seval]
end Go.Proofs.YtbaaokocnegdoaaGreatDoor
