/- A part of the proof. -/
import Derived.Test.YtbojpfpliibfbaaGreatDoorEnRWH
set_option maxHeartbeats 16000000
set_option maxRecDepth 100000
set_option linter.unusedVariables false
set_option linter.unusedSimpArgs false
-- many steps
namespace Go.Proofs.YtbojpfpliibfbaaGreatDoor
open Go Go.Ab
attribute [local irreducible] vc
theorem EE (l:List Val)(g:Nat)(cs:List PV)(q:Val->Bool)(hq:∀ x∈l,am Tryz.prog az g (x.pv::cs) (.bool (q x)))(hl:l.length<=9000000000000) :
  am Tryz.prog az 297 [.list (l.map Val.pv),.clo g [] cs] (.int .i64 (d7 q l 0)):=by
 refine am.intro O8.2 (by simp[O8]) ?_
 simp(disch:=try exact dI) only[O8,push_cast,seval]
 refine au ([]) (fun m:Nat=>[(8,.pv (.int .i64 (m:Int)))]) (fun m=>[]) (fun m=>m<=l.length/\d7 q l 0=d7 q (l.drop m) m) (fun m=>l.length - m) (0) ?_;intro e0 σ0 n0 h0;simp(disch:=try exact dI) only[push_cast,seval] at h0;obtain⟨rfl,rfl,rfl⟩:=h0;refine⟨?_,?_,?_⟩
 ·exact qsZ
 ·exact⟨by omega,by simp⟩
 ·rintro m ⟨hm,he⟩
  by_cases hlt:m<l.length
  ·have hltI:(m:Int)<l.length:=by omega
   obtain⟨x,hx⟩:∃ x,l[m]? = some x:=⟨_,List.getElem?_eq_getElem hlt⟩
   have hcall:=hq x (List.mem_of_getElem? hx)
   have hcl:x.pv.cells.length=6:=by cases x;rw[Val.pv_mk];rfl
   have hag:x.pv.isAgg=true:=by cases x;rw[Val.pv_mk];rfl
   simp(disch:=try exact dI) only[hx,hcl,hag,push_cast,seval]
   refine ab.pure hcall (by exact nU (x.pv::cs)) ?_
   cases hqx:q x with
   | true=>
     rw[he,dX hx hqx]
     exact qsZ
   | false=>
     rw[cQ hx hqx] at he
     refine zgZ ?_
     exact⟨m+1,aM qsZ,⟨by omega,he⟩,by omega⟩
  ·have hltI:¬ (m:Int)<l.length:=by omega
   rw[he,dY hlt]
   exact qsZ
theorem qM (l:List Val)(g:Nat)(cs:List PV)(q:Val->Bool)(hq:∀ x∈l,am Tryz.prog az g (x.pv::cs) (.bool (q x)))(hl:l.length<=9000000000000) :
  am Tryz.prog az 263 [.list (l.map Val.pv),.clo g [] cs] (.bool (l.any q)):=by
 have h94:=EE l g cs q hq hl
 have hfa:=eI (p:=q) l
 refine am.intro Nv.2 (by simp[Nv]) ?_
 rcases bx (p:=q) l 0 with ⟨h1,h2⟩ | ⟨k,x,h1,h2,h3⟩
 ·rw[h2] at h94
  rw[h1] at hfa
  rw[<- hfa]
  simp(disch:=try exact dI) only[Nv,push_cast,seval]
  refine ab.pure h94 rfl ?_
  refine zgZ ?_
  exact .refl _
 ·rw[h3] at h94
  rw[h2] at hfa
  rw[<- hfa]
  have hk:(0:Int)<=((0+k:Nat):Int):=by omega
  generalize ((0+k:Nat):Int)=z at *
  simp(disch:=try exact dI) only[Nv,push_cast,seval]
  refine ab.pure h94 rfl ?_
  refine zgZ ?_
  exact .refl _
def i8 (v:Val):TFd->Bool
 | .mk _ nm nd _ _=>(v.fields.find? (bc nm)).isNone&&!decide (nd=2)
theorem Mj (v:Val)(g:TFd)(hv:v.ok)(hk:v.kind=9)(h:v.fields.length<=9000000000000):am Tryz.prog az 266 [g.pv,.eptr [v.pv] 0 0] (.bool (i8 v g)):=by
 obtain⟨n',nm',nd',⟨k',m',M',s',w',e',f'⟩,d'⟩:=g
 have h52:=mQ v nm' hv hk h
 simp only[i8]
 generalize v.fields.find? (bc nm')=o at h52 ⊢
 obtain⟨vk,vn,vs,vt,vl,vf⟩:=v
 simp only[Val.pv_mk] at h52
 refine am.intro M3.2 (by simp[M3]) ?_
 cases o with
 | none=>
   simp only[vlR,Option.map_none,Option.getD_none,Option.isSome_none,Option.isNone_none,nr,Val.pv_mk] at h52 ⊢
   by_cases hnd:nd'=2
   ·simp(disch:=try exact dI) only[M3,Val.pv_mk,TFd.pv_mk,Typ.pv_mk,ag,push_cast,seval]
    refine ab.pure h52 rfl ?_
    simp(disch:=try exact dI) only[hnd,push_cast,seval]
   ·simp(disch:=try exact dI) only[M3,Val.pv_mk,TFd.pv_mk,Typ.pv_mk,ag,push_cast,seval]
    refine ab.pure h52 rfl ?_
    simp(disch:=try exact dI) only[hnd,push_cast,seval]
 | some x=>
   obtain⟨xn,⟨xk,xi,xs,xt,xl,xf⟩⟩:=x
   simp only[vlR,Option.map_some,Option.getD_some,Option.isSome_some,Option.isNone_some,Fld.value,Val.pv_mk] at h52 ⊢
   simp(disch:=try exact dI) only[M3,Val.pv_mk,TFd.pv_mk,Typ.pv_mk,ag,push_cast,seval]
   refine ab.pure h52 rfl ?_
   exact qsZ
end Go.Proofs.YtbojpfpliibfbaaGreatDoor
-- many steps
namespace Go.Proofs.YtbojpfpliibfbaaGreatDoor
open Go Go.Ab
attribute [local irreducible] vc
def uS (p:Typ->Bool):List Typ->Bool
 | []=>false
 | x::_=>p x
def qA (p:Val->Bool):List Val->Bool
 | []=>false
 | x::_=>p x
def G8 (p:Typ->Val->Bool)(l:List Val):Option TFd->Bool
 | none=>false
 | some g=>qA (p g.typ) l
def tI (p:Typ->Val->Bool)(v:Val):Option TFd->Bool
 | none=>false
 | some g=>p g.typ v
def Ni (t:Typ)(v:Val):Bool:=inB v.num t.min t.max&&decide (v.scale=t.scale)
def NO (t:Typ)(v:Val):Bool:=if 0<t.words.length then t.words.any fun x=>decide (x=v.text) else inB v.text.length t.min t.max
def oZ (p:Typ->Val->Bool)(t:Typ)(v:Val):Bool:=
 if t.kind=2\/t.kind=6\/t.kind=7\/t.kind=3 then Ni t v else if t.kind=4 then NO t v else if t.kind=5 then inB v.text.length t.min t.max
 else if t.kind=8 then inB v.lst.length t.min t.max&&!(v.lst.any fun x=>!(uS (fun e=>p e x) t.elem)) else if t.kind=10 then G8 p v.lst (bz t v.text)
 else if t.kind=9 then (v.fields.all fun x=>tI p x.value (bz t x.name))&&!(t.fields.any (i8 v)) else true
def bw:Nat->Typ->Val->Bool
 | 0,_,_=>false
 | n+1,t,v=>decide (v.kind=t.kind)&&oZ (bw n) t v
def ou:Nat->Typ->Val->Prop
 | 0,_,_=>False
 | n+1,t,v=>(∃ N,bD N t)/\(1<=t.kind/\t.kind<=10)/\t.words.length<=9000000000000/\v.ok/\v.lst.length<=9000000000000/\v.fields.length<=9000000000000/\(v.kind=t.kind ->
   (t.kind=2\/t.kind=6\/t.kind=7->v.scale=t.scale)/\(t.kind=8->∀ y∈v.lst,∃ x r,t.elem=x::r/\ou n x y)/\(t.kind=10->∀ g,bz t v.text=some g->∃ y r,v.lst=y::r/\ou n g.typ y)/\(t.kind=9->∀ x∈v.fields,∀ g,bz t x.name=some g->ou n g.typ x.value))
def oV (n:Nat):Prop:=∀ t v,ou n t v->am Tryz.prog az 234 [t.pv,v.pv] (.bool (bw n t v))
theorem Ak (n:Nat)(t:Typ)(v:Val)(h:¬ v.kind=t.kind):am Tryz.prog az 234 [t.pv,v.pv] (.bool (bw (n+1) t v)):=by
 rw[show bw (n+1) t v=false by simp[bw,h]]
 obtain⟨k,m,M,s,w,e,f⟩:=t
 obtain⟨vk,vn,vs,vt,vl,vf⟩:=v
 simp only[Val.kind,Typ.kind] at h
 refine am.intro go.2 (by simp[go]) ?_
 simp(disch:=try exact dI) only[go,Typ.pv_mk,Val.pv_mk,push_cast,seval]
theorem uU (n:Nat)(k m M s:Int)(w:List (List UInt8))(e:List Typ)(f:List TFd)(vn vs:Int)(vt:List UInt8)(vl:List Val)(vf:List Fld)(hk:k=2\/k=6\/k=7\/k=3):am Tryz.prog az 234 [(Typ.mk k m M s w e f).pv,(Val.mk k vn vs vt vl vf).pv] (.bool (bw (n+1) (.mk k m M s w e f) (.mk k vn vs vt vl vf))):=by
 have hi:=e7 vn m M
 rw[show bw (n+1) (.mk k m M s w e f) (.mk k vn vs vt vl vf)=(inB vn m M&&decide (vs=s)) by simp[bw,oZ,Typ.kind,Val.kind,hk,Ni,Val.num,Typ.min,Typ.max,Val.scale,Typ.scale];rfl]
 generalize inB vn m M=b at hi ⊢
 by_cases hs:vs=s
 ·rcases hk with rfl | rfl | rfl | rfl
  all_goals
   refine am.intro go.2 (by simp[go]) ?_
   simp(disch:=try exact dI) only[go,Typ.pv_mk,Val.pv_mk,push_cast,seval]
   refine ab.pure hi rfl ?_
   cases b with
   | false=>simp(disch:=try exact dI) only[push_cast,seval]
   | true=>simp(disch:=try exact dI) only[hs,push_cast,seval]
 ·rcases hk with rfl | rfl | rfl | rfl
  all_goals
   refine am.intro go.2 (by simp[go]) ?_
   simp(disch:=try exact dI) only[go,Typ.pv_mk,Val.pv_mk,push_cast,seval]
   refine ab.pure hi rfl ?_
   cases b with
   | false=>simp(disch:=try exact dI) only[push_cast,seval]
   | true=>simp(disch:=try exact dI) only[hs,push_cast,seval]
theorem EV (n:Nat)(m M s:Int)(w:List (List UInt8))(e:List Typ)(f:List TFd)(vn vs:Int)(vt:List UInt8)(vl:List Val)(vf:List Fld)(hw:w.length<=9000000000000):am Tryz.prog az 234 [(Typ.mk 4 m M s w e f).pv,(Val.mk 4 vn vs vt vl vf).pv] (.bool (bw (n+1) (.mk 4 m M s w e f) (.mk 4 vn vs vt vl vf))):=by
 have hi:=e7 vt.length m M
 have hc:=fL w vt hw
 rw[show bw (n+1) (.mk 4 m M s w e f) (.mk 4 vn vs vt vl vf)=if 0<w.length then w.any (fun x=>decide (x=vt)) else inB vt.length m M by simp[bw,oZ,Typ.kind,Val.kind,NO,Val.text,Typ.min,Typ.max,Typ.words];rfl]
 refine am.intro go.2 (by simp[go]) ?_
 by_cases h0:0<w.length
 ·have h0I:(0:Int)<(w.length:Int):=by omega
  rw[if_pos h0]
  generalize w.any (fun x=>decide (x=vt))=b at hc ⊢
  simp(disch:=try exact dI) only[go,Typ.pv_mk,Val.pv_mk,push_cast,seval]
  refine ab.pure hc rfl ?_
  exact qsZ
 ·have h0I:¬ (0:Int)<(w.length:Int):=by omega
  rw[if_neg h0]
  generalize inB vt.length m M=b at hi ⊢
  simp(disch:=try exact dI) only[go,Typ.pv_mk,Val.pv_mk,push_cast,seval]
  refine ab.pure hi rfl ?_
  exact qsZ
theorem EU (n:Nat)(m M s:Int)(w:List (List UInt8))(e:List Typ)(f:List TFd)(vn vs:Int)(vt:List UInt8)(vl:List Val)(vf:List Fld):am Tryz.prog az 234 [(Typ.mk 5 m M s w e f).pv,(Val.mk 5 vn vs vt vl vf).pv] (.bool (bw (n+1) (.mk 5 m M s w e f) (.mk 5 vn vs vt vl vf))):=by
 have hi:=e7 vt.length m M
 rw[show bw (n+1) (.mk 5 m M s w e f) (.mk 5 vn vs vt vl vf)=inB vt.length m M by simp[bw,oZ,Typ.kind,Val.kind,Val.text,Typ.min,Typ.max]]
 generalize inB vt.length m M=b at hi ⊢
 refine am.intro go.2 (by simp[go]) ?_
 simp(disch:=try exact dI) only[go,Typ.pv_mk,Val.pv_mk,push_cast,seval]
 refine ab.pure hi rfl ?_
 exact qsZ
theorem Mk (n:Nat)(ih:oV n)(m M s:Int)(w:List (List UInt8))(x:Typ)(r:List Typ)(f:List TFd)(y:Val)(h:ou n x y):am Tryz.prog az 264 [y.pv,.eptr [(Typ.mk 8 m M s w (x::r) f).pv] 0 0] (.bool (!bw n x y)):=by
 have hc:=ih x y h
 generalize bw n x y=b at hc ⊢
 obtain⟨k',m',M',s',w',e',f'⟩:=x
 obtain⟨vk,vn,vs,vt,vl,vf⟩:=y
 simp only[Typ.pv_mk,Val.pv_mk] at hc
 refine am.intro Ph.2 (by simp[Ph]) ?_
 simp(disch:=try exact dI) only[Ph,Typ.pv_mk,Val.pv_mk,aS,push_cast,seval]
 refine ab.pure hc rfl ?_
 exact qsZ
theorem ET (n:Nat)(ih:oV n)(m M s:Int)(w:List (List UInt8))(e:List Typ)(f:List TFd)(vn vs:Int)(vt:List UInt8)(vl:List Val)(vf:List Fld)(hl:vl.length<=9000000000000)(h:∀ y∈vl,∃ x r,e=x::r/\ou n x y):am Tryz.prog az 234 [(Typ.mk 8 m M s w e f).pv,(Val.mk 8 vn vs vt vl vf).pv] (.bool (bw (n+1) (.mk 8 m M s w e f) (.mk 8 vn vs vt vl vf))):=by
 have hi:=e7 vl.length m M
 have hc:=qM vl 264 [.eptr [(Typ.mk 8 m M s w e f).pv] 0 0] (fun x=>!(uS (fun e=>bw n e x) e)) (fun y hy=>by
  obtain⟨x,r,rfl,hx⟩:=h y hy
  exact Mk n ih m M s w x r f y hx) hl
 rw[show bw (n+1) (.mk 8 m M s w e f) (.mk 8 vn vs vt vl vf)=(inB vl.length m M&&!(vl.any (fun x=>!(uS (fun e=>bw n e x) e)))) by simp[bw,oZ,Typ.kind,Val.kind,Val.lst,Typ.min,Typ.max,Typ.elem]]
 generalize inB vl.length m M=b at hi ⊢
 generalize vl.any (fun x=>!(uS (fun e=>bw n e x) e))=q at hc ⊢
 simp only[Typ.pv_mk] at hc
 refine am.intro go.2 (by simp[go]) ?_
 simp(disch:=try exact dI) only[go,Typ.pv_mk,Val.pv_mk,push_cast,seval]
 refine ab.pure hi rfl ?_
 cases b with
 | false=>simp(disch:=try exact dI) only[push_cast,seval]
 | true=>
   refine zgZ ?_
   refine ab.pure hc rfl ?_
   exact qsZ
end Go.Proofs.YtbojpfpliibfbaaGreatDoor
-- many steps
namespace Go.Proofs.YtbojpfpliibfbaaGreatDoor
open Go Go.Ab
attribute [local irreducible] vc
theorem Al (n:Nat)(ih:oV n)(m M s:Int)(w:List (List UInt8))(e:List Typ)(f:List TFd)(vn vs:Int)(vt:List UInt8)(vl:List Val)(vf:List Fld)(N:Nat)(hs:bD N (.mk 10 m M s w e f))
  (h:∀ g,bz (.mk 10 m M s w e f) vt=some g->∃ y r,vl=y::r/\ou n g.typ y):am Tryz.prog az 234 [(Typ.mk 10 m M s w e f).pv,(Val.mk 10 vn vs vt vl vf).pv] (.bool (bw (n+1) (.mk 10 m M s w e f) (.mk 10 vn vs vt vl vf))):=by
 have hc:=sv N _ vt hs
 rw[show bw (n+1) (.mk 10 m M s w e f) (.mk 10 vn vs vt vl vf)=G8 (bw n) vl (bz (.mk 10 m M s w e f) vt) by simp[bw,oZ,Typ.kind,Val.kind,Val.lst,Val.text]]
 generalize bz (.mk 10 m M s w e f) vt=o at hc h ⊢
 simp only[Typ.pv_mk] at hc
 cases o with
 | none=>
   simp only[tfR,Option.getD_none,Option.isSome_none,fW,TFd.pv_mk,Typ.pv_mk,ag,G8] at hc ⊢
   refine am.intro go.2 (by simp[go]) ?_
   simp(disch:=try exact dI) only[go,Typ.pv_mk,Val.pv_mk,push_cast,seval]
   refine ab.pure hc rfl ?_
   exact qsZ
 | some g=>
   obtain⟨y,r,rfl,hy⟩:=h g rfl
   have hh:=ih _ _ hy
   obtain⟨n',nm',nd',⟨k',m',M',s',w',e',f'⟩,d'⟩:=g
   simp only[TFd.typ,G8,qA] at hh ⊢
   generalize bw n (.mk k' m' M' s' w' e' f') y=b at hh ⊢
   obtain⟨yk,yn,ys,yt,yl,yf⟩:=y
   simp only[tfR,Option.getD_some,Option.isSome_some,TFd.pv_mk,Typ.pv_mk,Val.pv_mk,ag] at hc hh ⊢
   refine am.intro go.2 (by simp[go]) ?_
   simp(disch:=try exact dI) only[go,Typ.pv_mk,Val.pv_mk,aS,push_cast,seval]
   refine ab.pure hc rfl ?_
   simp(disch:=try exact dI) only[aS,Val.pv_mk,push_cast,seval]
   refine ab.pure hh rfl ?_
   exact qsZ
theorem qB (n:Nat)(k m M s:Int)(w:List (List UInt8))(e:List Typ)(f:List TFd)(vn vs:Int)(vt:List UInt8)(vl:List Val)(vf:List Fld)(h1:¬ (k=2\/k=6\/k=7\/k=3))(h4:¬ k=4)(h5:¬ k=5)(h8:¬ k=8)(h10:¬ k=10)(h9:¬ k=9):am Tryz.prog az 234 [(Typ.mk k m M s w e f).pv,(Val.mk k vn vs vt vl vf).pv] (.bool (bw (n+1) (.mk k m M s w e f) (.mk k vn vs vt vl vf))):=by
 rw[show bw (n+1) (.mk k m M s w e f) (.mk k vn vs vt vl vf)=true by simp[bw,oZ,Typ.kind,Val.kind,h1,h4,h5,h8,h9,h10]]
 have a2:¬ k=2:=by omega
 have a6:¬ k=6:=by omega
 have a7:¬ k=7:=by omega
 have a3:¬ k=3:=by omega
 refine am.intro go.2 (by simp[go]) ?_
 simp(disch:=try exact dI) only[go,Typ.pv_mk,Val.pv_mk,push_cast,seval]
theorem sX {α:Type}{p:α->Bool}{l:List α}{i:Nat}{x:α}(h:l[i]? = some x):(l.drop i).all p=(p x&&(l.drop (i+1)).all p):=by
 have hi:=(List.getElem?_eq_some_iff.1 h).1
 have he:l[i]=x:=(List.getElem?_eq_some_iff.1 h).2
 rw[List.drop_eq_getElem_cons hi,he,List.all_cons]
theorem ES (n:Nat)(ih:oV n)(m M s:Int)(w:List (List UInt8))(e:List Typ)(f:List TFd)(vn vs:Int)(vt:List UInt8)(vl:List Val)(vf:List Fld)(N:Nat)(hs:bD N (.mk 9 m M s w e f))(hv:(Val.mk 9 vn vs vt vl vf).ok)(hvf:vf.length<=9000000000000)
  (h:∀ x∈vf,∀ g,bz (.mk 9 m M s w e f) x.name=some g->ou n g.typ x.value):am Tryz.prog az 234 [(Typ.mk 9 m M s w e f).pv,(Val.mk 9 vn vs vt vl vf).pv] (.bool (bw (n+1) (.mk 9 m M s w e f) (.mk 9 vn vs vt vl vf))):=by
 have hfl:f.length<=9000000000000:=by
  cases N with
  | zero=>exact hs.elim
  | succ N=>simp only[bD] at hs;have:=hs.2.2.1;omega
 have hfld:=fun nm=>sv N _ nm hs
 have hla:=lW f 266 [.eptr [(Val.mk 9 vn vs vt vl vf).pv] 0 0] (i8 (.mk 9 vn vs vt vl vf)) (fun g _=>Mj _ g hv rfl hvf) hfl
 rw[show bw (n+1) (.mk 9 m M s w e f) (.mk 9 vn vs vt vl vf)=((vf.all fun x=>tI (bw n) x.value (bz (.mk 9 m M s w e f) x.name))&&!(f.any (i8 (.mk 9 vn vs vt vl vf)))) by simp[bw,oZ,Typ.kind,Val.kind,Val.fields,Typ.fields]]
 generalize f.any (i8 (.mk 9 vn vs vt vl vf))=q at hla ⊢
 obtain⟨T,hT⟩:∃ T,T=bz (.mk 9 m M s w e f):=⟨_,rfl⟩
 rw[<- hT] at h ⊢
 have hfld:∀ nm,am Tryz.prog az 265 [(Typ.mk 9 m M s w e f).pv,.str nm] (tfR (T nm)):=fun nm=>by rw[hT];exact hfld nm
 clear hT
 simp only[Typ.pv_mk,Val.pv_mk] at hfld hla
 obtain⟨p,hp⟩:∃ p:Fld->Bool,p=fun x=>tI (bw n) x.value (T x.name):=⟨_,rfl⟩
 rw[<- hp]
 obtain⟨R,hR⟩:∃ R,R=(vf.all p&&!q):=⟨_,rfl⟩
 rw[<- hR]
 refine am.intro go.2 (by simp[go]) ?_
 simp(disch:=try exact dI) only[go,Typ.pv_mk,Val.pv_mk,push_cast,seval]
 refine au ([]) (fun i:Nat=>[(107,.pv (.int .i64 (i:Int)))]) (fun _=>[]) (fun i=>i<=vf.length/\R=((vf.drop i).all p&&!q)) (fun i=>vf.length - i) (0) ?_;intro e0 σ0 n0 h0;simp(disch:=try exact dI) only[push_cast,seval] at h0;obtain⟨rfl,rfl,rfl⟩:=h0;refine⟨?_,?_,?_⟩
 ·exact qsZ
 ·exact⟨by omega,by simpa using hR⟩
 rintro i ⟨hi,hr⟩
 by_cases hlt:i<vf.length
 ·have hltI:(i:Int)<(vf.length:Int):=by omega
  obtain⟨x,hx⟩:∃ x,vf[i]? = some x:=⟨_,List.getElem?_eq_getElem hlt⟩
  rw[sX hx] at hr
  have hph:=h x (List.mem_of_getElem? hx)
  have hc:=hfld x.name
  rw[show p x=tI (bw n) x.value (T x.name) by rw[hp]] at hr
  generalize T x.name=o at hph hc hr
  obtain⟨xn,y⟩:=x
  simp only[Fld.name,Fld.value] at hph hc hr
  cases o with
  | none=>
    simp only[tI,Bool.false_and] at hr
    subst hr
    obtain⟨yk,yn,ys,yt,yl,yf⟩:=y
    simp only[tfR,Option.getD_none,Option.isSome_none,fW,TFd.pv_mk,Typ.pv_mk,ag] at hc
    simp(disch:=try exact dI) only[hx,Option.map_some,Fld.pv_mk,Val.pv_mk,ag,push_cast,seval]
    refine ab.pure hc rfl ?_
    exact qsZ
  | some g=>
    have hh:=ih _ _ (hph g rfl)
    simp only[tI] at hr
    obtain⟨n',nm',nd',⟨k',m',M',s',w',e',f'⟩,d'⟩:=g
    simp only[TFd.typ] at hh hr
    generalize bw n (.mk k' m' M' s' w' e' f') y=b at hh hr
    obtain⟨yk,yn,ys,yt,yl,yf⟩:=y
    simp only[tfR,Option.getD_some,Option.isSome_some,TFd.pv_mk,Typ.pv_mk,Val.pv_mk,ag] at hc hh
    cases b with
    | false=>
      simp only[Bool.false_and] at hr
      subst hr
      simp(disch:=try exact dI) only[hx,Option.map_some,Fld.pv_mk,Val.pv_mk,ag,push_cast,seval]
      refine ab.pure hc rfl ?_
      refine zgZ ?_
      refine ab.pure hh rfl ?_
      exact qsZ
    | true=>
      rw[Bool.true_and] at hr
      simp(disch:=try exact dI) only[hx,Option.map_some,Fld.pv_mk,Val.pv_mk,ag,push_cast,seval]
      refine ab.pure hc rfl ?_
      refine zgZ ?_
      refine ab.pure hh rfl ?_
      refine zgZ ?_
      exact⟨i+1,aM qsZ,⟨by omega,hr⟩,by omega⟩
 ·obtain rfl:i=vf.length:=by omega
  rw[List.drop_length,List.all_nil,Bool.true_and] at hr
  subst hr
  simp(disch:=try exact dI) only[Int.lt_irrefl,push_cast,seval]
  refine ab.pure hla rfl ?_
  exact qsZ
theorem Gu:∀ n,oV n
 | 0=>fun _ _ h=>h.elim
 | n+1=>fun t v h=>by
   have ih:=Gu n
   simp only[ou] at h
   obtain⟨⟨N,hs⟩,_,hw,hv,hl,hf,h⟩:=h
   by_cases hk:v.kind=t.kind
   ·have h:=h hk
    obtain⟨k,m,M,s,w,e,f⟩:=t
    obtain⟨vk,vn,vs,vt,vl,vf⟩:=v
    simp only[Val.kind,Typ.kind,Typ.words,Val.lst,Val.fields,Val.text,Typ.elem] at hk h hw hl hf
    subst hk
    obtain⟨_,h8,h10,h9⟩:=h
    by_cases h1:vk=2\/vk=6\/vk=7\/vk=3
    ·exact uU n _ _ _ _ _ _ _ _ _ _ _ _ h1
    by_cases h4:vk=4
    ·subst h4;exact EV n _ _ _ _ _ _ _ _ _ _ _ hw
    by_cases h5:vk=5
    ·subst h5;exact EU n _ _ _ _ _ _ _ _ _ _ _
    by_cases h8':vk=8
    ·subst h8';exact ET n ih _ _ _ _ _ _ _ _ _ _ _ hl (h8 rfl)
    by_cases h10':vk=10
    ·subst h10';exact Al n ih _ _ _ _ _ _ _ _ _ _ _ N hs (h10 rfl)
    by_cases h9':vk=9
    ·subst h9';exact ES n ih _ _ _ _ _ _ _ _ _ _ _ N hs hv hf (h9 rfl)
    exact qB n _ _ _ _ _ _ _ _ _ _ _ _ h1 h4 h5 h8' h10' h9'
   ·exact Ak n t v hk
theorem f8:∀ (n:Nat) (t:Typ),bD n t->bD (n+1) t
 | 0,_,h=>h.elim
 | n+1,.mk k m M s w e f,h=>by
   obtain⟨h1,h2,h3,h4,h5⟩:=h
   exact⟨h1,h2,h3,fun x hx=>f8 n x (h4 x hx),fun g hg=>⟨(h5 g hg).1,(h5 g hg).2.1,f8 n g.typ (h5 g hg).2.2⟩⟩
theorem gv {n m:Nat}(h:n<=m){t:Typ}(ht:bD n t):bD m t:=by
 induction h with
 | refl=>exact ht
 | step _ ih=>exact f8 _ _ ih
theorem jL {α:Type}(g:α->Typ):∀ l:List α,(∀ x∈l,∃ n,bD n (g x))->∃ n,∀ x∈l,bD n (g x)
 | [],_=>⟨0,by simp⟩
 | x::r,h=>by
   obtain⟨n,hn⟩:=h x (by simp)
   obtain⟨m,hm⟩:=jL g r fun y hy=>h y (List.mem_cons_of_mem _ hy)
   refine⟨max n m,fun y hy=>?_⟩
   rcases List.mem_cons.1 hy with rfl | hy
   ·exact gv (Nat.le_max_left _ _) hn
   ·exact gv (Nat.le_max_right _ _) (hm y hy)
theorem mr:∀ (t:Typ),t.ok->∃ n,bD n t
 | .mk k m M s w e f,h=>by
   rw[Typ.ok_mk] at h
   obtain⟨_,_,_,_,h1,_,h2,h3,h4,h5⟩:=h
   have e1:∀ x∈e,∃ n,bD n x:=fun x hx=>mr x (h3 x hx)
   have f1:∀ g∈f,∃ n,bD n g.typ:=fun g hg=>by
    have hg':=h5 g hg
    obtain⟨a1,a2,a3,a4,a5⟩:=g
    rw[TFd.ok_mk] at hg'
    exact mr a4 hg'.2.2.2.1
   obtain⟨a,ha⟩:=jL id e e1
   obtain⟨b,hb⟩:=jL TFd.typ f f1
   refine⟨max a b+1,h1,h2,h4,fun x hx=>gv (Nat.le_max_left _ _) (ha x hx),fun g hg=>?_⟩
   have hg':=h5 g hg
   have hgt:=gv (Nat.le_max_right a b) (hb g hg)
   obtain⟨a1,a2,a3,a4,a5⟩:=g
   rw[TFd.ok_mk] at hg'
   exact⟨hg'.2.2.2.2.1,hg'.2.2.2.2.2,hgt⟩
termination_by t=>SizeOf.sizeOf t
decreasing_by
 all_goals simp_wf
 ·have:=List.sizeOf_lt_of_mem hx;omega
 ·have:=List.sizeOf_lt_of_mem hg
  simp only[TFd.mk.sizeOf_spec] at this
  omega
end Go.Proofs.YtbojpfpliibfbaaGreatDoor
