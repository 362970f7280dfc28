/- A part of the proof. -/
import Derived.Test.YtbojpfpliibfbaaGreatDoorDeRWC
set_option maxHeartbeats 16000000
set_option maxRecDepth 100000
set_option linter.unusedVariables false
set_option linter.unusedSimpArgs false
namespace Go.Proofs.YtbojpfpliibfbaaGreatDoor
open Go Go.Ab
attribute [local irreducible] vc
def wQ (p:Typ->Bool):List Typ->Bool
 | []=>false
 | x::_=>p x
def rS (p:Val->Bool):List Val->Bool
 | []=>false
 | x::_=>p x
def IL (p:Typ->Val->Bool)(l:List Val):Option TFd->Bool
 | none=>false
 | some g=>rS (p g.typ) l
def vL (p:Typ->Val->Bool)(v:Val):Option TFd->Bool
 | none=>false
 | some g=>p g.typ v
def LY (t:Typ)(v:Val):Bool:=inB v.num t.min t.max&&decide (v.scale=t.scale)
def MF (t:Typ)(v:Val):Bool:=if 0<t.words.length then t.words.any fun x=>decide (x=v.text) else inB v.text.length t.min t.max
def pA (p:Typ->Val->Bool)(t:Typ)(v:Val):Bool:=
 if t.kind=2\/t.kind=6\/t.kind=7\/t.kind=3 then LY t v else if t.kind=4 then MF t v else if t.kind=5 then inB v.text.length t.min t.max
 else if t.kind=8 then inB v.lst.length t.min t.max&&!(v.lst.any fun x=>!(wQ (fun e=>p e x) t.elem)) else if t.kind=10 then IL p v.lst (br t v.text)
 else if t.kind=9 then (v.fields.all fun x=>vL p x.value (br t x.name))&&!(t.fields.any (ji v)) else true
def bk:Nat->Typ->Val->Bool
 | 0,_,_=>false
 | n+1,t,v=>decide (v.kind=t.kind)&&pA (bk n) t v
def py:Nat->Typ->Val->Prop
 | 0,_,_=>False
 | n+1,t,v=>(∃ N,bw N t)/\(1<=t.kind/\t.kind<=10)/\t.words.length<=9000000000000/\v.ok/\v.lst.length<=9000000000000/\v.fields.length<=9000000000000/\(v.kind=t.kind ->
   (t.kind=2\/t.kind=6\/t.kind=7->v.scale=t.scale)/\(t.kind=8->∀ y∈v.lst,∃ x r,t.elem=x::r/\py n x y)/\(t.kind=10->∀ g,br t v.text=some g->∃ y r,v.lst=y::r/\py n g.typ y)/\(t.kind=9->∀ x∈v.fields,∀ g,br t x.name=some g->py n g.typ x.value))
def qr (n:Nat):Prop:=∀ t v,py n t v->ak Tryz.prog ap 234 [t.pv,v.pv] (.bool (bk n t v))
theorem BR (n:Nat)(t:Typ)(v:Val)(h:¬ v.kind=t.kind):ak Tryz.prog ap 234 [t.pv,v.pv] (.bool (bk (n+1) t v)):=by
 rw[show bk (n+1) t v=false by simp[bk,h]]
 obtain⟨k,m,M,s,w,e,f⟩:=t
 obtain⟨vk,vn,vs,vt,vl,vf⟩:=v
 simp only[Val.kind,Typ.kind] at h
 refine ak.intro gm.2 (by simp[gm]) ?_
 simp(disch:=try exact dI) only[gm,Typ.pv_mk,Val.pv_mk,push_cast,seval]
theorem wS (n:Nat)(k m M s:Int)(w:List (List UInt8))(e:List Typ)(f:List TFd)(vn vs:Int)(vt:List UInt8)(vl:List Val)(vf:List Fld)(hk:k=2\/k=6\/k=7\/k=3):ak Tryz.prog ap 234 [(Typ.mk k m M s w e f).pv,(Val.mk k vn vs vt vl vf).pv] (.bool (bk (n+1) (.mk k m M s w e f) (.mk k vn vs vt vl vf))):=by
 have hi:=px vn m M
 rw[show bk (n+1) (.mk k m M s w e f) (.mk k vn vs vt vl vf)=(inB vn m M&&decide (vs=s)) by simp[bk,pA,Typ.kind,Val.kind,hk,LY,Val.num,Typ.min,Typ.max,Val.scale,Typ.scale];rfl]
 generalize inB vn m M=b at hi ⊢
 by_cases hs:vs=s
 ·rcases hk with rfl | rfl | rfl | rfl
  all_goals
   refine ak.intro gm.2 (by simp[gm]) ?_
   simp(disch:=try exact dI) only[gm,Typ.pv_mk,Val.pv_mk,push_cast,seval]
   refine ab.pure hi rfl ?_
   cases b with
   | false=>simp(disch:=try exact dI) only[push_cast,seval]
   | true=>simp(disch:=try exact dI) only[hs,push_cast,seval]
 ·rcases hk with rfl | rfl | rfl | rfl
  all_goals
   refine ak.intro gm.2 (by simp[gm]) ?_
   simp(disch:=try exact dI) only[gm,Typ.pv_mk,Val.pv_mk,push_cast,seval]
   refine ab.pure hi rfl ?_
   cases b with
   | false=>simp(disch:=try exact dI) only[push_cast,seval]
   | true=>simp(disch:=try exact dI) only[hs,push_cast,seval]
theorem Gu (n:Nat)(m M s:Int)(w:List (List UInt8))(e:List Typ)(f:List TFd)(vn vs:Int)(vt:List UInt8)(vl:List Val)(vf:List Fld)(hw:w.length<=9000000000000):ak Tryz.prog ap 234 [(Typ.mk 4 m M s w e f).pv,(Val.mk 4 vn vs vt vl vf).pv] (.bool (bk (n+1) (.mk 4 m M s w e f) (.mk 4 vn vs vt vl vf))):=by
 have hi:=px vt.length m M
 have hc:=iM w vt hw
 rw[show bk (n+1) (.mk 4 m M s w e f) (.mk 4 vn vs vt vl vf)=if 0<w.length then w.any (fun x=>decide (x=vt)) else inB vt.length m M by simp[bk,pA,Typ.kind,Val.kind,MF,Val.text,Typ.min,Typ.max,Typ.words];rfl]
 refine ak.intro gm.2 (by simp[gm]) ?_
 by_cases h0:0<w.length
 ·have h0I:(0:Int)<(w.length:Int):=by omega
  rw[if_pos h0]
  generalize w.any (fun x=>decide (x=vt))=b at hc ⊢
  simp(disch:=try exact dI) only[gm,Typ.pv_mk,Val.pv_mk,push_cast,seval]
  refine ab.pure hc rfl ?_
  exact qsZ
 ·have h0I:¬ (0:Int)<(w.length:Int):=by omega
  rw[if_neg h0]
  generalize inB vt.length m M=b at hi ⊢
  simp(disch:=try exact dI) only[gm,Typ.pv_mk,Val.pv_mk,push_cast,seval]
  refine ab.pure hi rfl ?_
  exact qsZ
theorem Gt (n:Nat)(m M s:Int)(w:List (List UInt8))(e:List Typ)(f:List TFd)(vn vs:Int)(vt:List UInt8)(vl:List Val)(vf:List Fld):ak Tryz.prog ap 234 [(Typ.mk 5 m M s w e f).pv,(Val.mk 5 vn vs vt vl vf).pv] (.bool (bk (n+1) (.mk 5 m M s w e f) (.mk 5 vn vs vt vl vf))):=by
 have hi:=px vt.length m M
 rw[show bk (n+1) (.mk 5 m M s w e f) (.mk 5 vn vs vt vl vf)=inB vt.length m M by simp[bk,pA,Typ.kind,Val.kind,Val.text,Typ.min,Typ.max]]
 generalize inB vt.length m M=b at hi ⊢
 refine ak.intro gm.2 (by simp[gm]) ?_
 simp(disch:=try exact dI) only[gm,Typ.pv_mk,Val.pv_mk,push_cast,seval]
 refine ab.pure hi rfl ?_
 exact qsZ
theorem On (n:Nat)(ih:qr n)(m M s:Int)(w:List (List UInt8))(x:Typ)(r:List Typ)(f:List TFd)(y:Val)(h:py n x y):ak Tryz.prog ap 264 [y.pv,.eptr [(Typ.mk 8 m M s w (x::r) f).pv] 0 0] (.bool (!bk n x y)):=by
 have hc:=ih x y h
 generalize bk n x y=b at hc ⊢
 obtain⟨k',m',M',s',w',e',f'⟩:=x
 obtain⟨vk,vn,vs,vt,vl,vf⟩:=y
 simp only[Typ.pv_mk,Val.pv_mk] at hc
 refine ak.intro RH.2 (by simp[RH]) ?_
 simp(disch:=try exact dI) only[RH,Typ.pv_mk,Val.pv_mk,au,push_cast,seval]
 refine ab.pure hc rfl ?_
 exact qsZ
theorem Gs (n:Nat)(ih:qr n)(m M s:Int)(w:List (List UInt8))(e:List Typ)(f:List TFd)(vn vs:Int)(vt:List UInt8)(vl:List Val)(vf:List Fld)(hl:vl.length<=9000000000000)(h:∀ y∈vl,∃ x r,e=x::r/\py n x y):ak Tryz.prog ap 234 [(Typ.mk 8 m M s w e f).pv,(Val.mk 8 vn vs vt vl vf).pv] (.bool (bk (n+1) (.mk 8 m M s w e f) (.mk 8 vn vs vt vl vf))):=by
 have hi:=px vl.length m M
 have hc:=r7 vl 264 [.eptr [(Typ.mk 8 m M s w e f).pv] 0 0] (fun x=>!(wQ (fun e=>bk n e x) e)) (fun y hy=>by
  obtain⟨x,r,rfl,hx⟩:=h y hy
  exact On n ih m M s w x r f y hx) hl
 rw[show bk (n+1) (.mk 8 m M s w e f) (.mk 8 vn vs vt vl vf)=(inB vl.length m M&&!(vl.any (fun x=>!(wQ (fun e=>bk n e x) e)))) by simp[bk,pA,Typ.kind,Val.kind,Val.lst,Typ.min,Typ.max,Typ.elem]]
 generalize inB vl.length m M=b at hi ⊢
 generalize vl.any (fun x=>!(wQ (fun e=>bk n e x) e))=q at hc ⊢
 simp only[Typ.pv_mk] at hc
 refine ak.intro gm.2 (by simp[gm]) ?_
 simp(disch:=try exact dI) only[gm,Typ.pv_mk,Val.pv_mk,push_cast,seval]
 refine ab.pure hi rfl ?_
 cases b with
 | false=>simp(disch:=try exact dI) only[push_cast,seval]
 | true=>
   refine zgZ ?_
   refine ab.pure hc rfl ?_
   exact qsZ
theorem BS (n:Nat)(ih:qr n)(m M s:Int)(w:List (List UInt8))(e:List Typ)(f:List TFd)(vn vs:Int)(vt:List UInt8)(vl:List Val)(vf:List Fld)(N:Nat)(hs:bw N (.mk 10 m M s w e f))
  (h:∀ g,br (.mk 10 m M s w e f) vt=some g->∃ y r,vl=y::r/\py n g.typ y):ak Tryz.prog ap 234 [(Typ.mk 10 m M s w e f).pv,(Val.mk 10 vn vs vt vl vf).pv] (.bool (bk (n+1) (.mk 10 m M s w e f) (.mk 10 vn vs vt vl vf))):=by
 have hc:=uh N _ vt hs
 rw[show bk (n+1) (.mk 10 m M s w e f) (.mk 10 vn vs vt vl vf)=IL (bk n) vl (br (.mk 10 m M s w e f) vt) by simp[bk,pA,Typ.kind,Val.kind,Val.lst,Val.text]]
 generalize br (.mk 10 m M s w e f) vt=o at hc h ⊢
 simp only[Typ.pv_mk] at hc
 cases o with
 | none=>
   simp only[tfR,Option.getD_none,Option.isSome_none,iR,TFd.pv_mk,Typ.pv_mk,ag,IL] at hc ⊢
   refine ak.intro gm.2 (by simp[gm]) ?_
   simp(disch:=try exact dI) only[gm,Typ.pv_mk,Val.pv_mk,push_cast,seval]
   refine ab.pure hc rfl ?_
   exact qsZ
 | some g=>
   obtain⟨y,r,rfl,hy⟩:=h g rfl
   have hh:=ih _ _ hy
   obtain⟨n',nm',nd',⟨k',m',M',s',w',e',f'⟩,d'⟩:=g
   simp only[TFd.typ,IL,rS] at hh ⊢
   generalize bk n (.mk k' m' M' s' w' e' f') y=b at hh ⊢
   obtain⟨yk,yn,ys,yt,yl,yf⟩:=y
   simp only[tfR,Option.getD_some,Option.isSome_some,TFd.pv_mk,Typ.pv_mk,Val.pv_mk,ag] at hc hh ⊢
   refine ak.intro gm.2 (by simp[gm]) ?_
   simp(disch:=try exact dI) only[gm,Typ.pv_mk,Val.pv_mk,au,push_cast,seval]
   refine ab.pure hc rfl ?_
   simp(disch:=try exact dI) only[au,Val.pv_mk,push_cast,seval]
   refine ab.pure hh rfl ?_
   exact qsZ
theorem rT (n:Nat)(k m M s:Int)(w:List (List UInt8))(e:List Typ)(f:List TFd)(vn vs:Int)(vt:List UInt8)(vl:List Val)(vf:List Fld)(h1:¬ (k=2\/k=6\/k=7\/k=3))(h4:¬ k=4)(h5:¬ k=5)(h8:¬ k=8)(h10:¬ k=10)(h9:¬ k=9):ak Tryz.prog ap 234 [(Typ.mk k m M s w e f).pv,(Val.mk k vn vs vt vl vf).pv] (.bool (bk (n+1) (.mk k m M s w e f) (.mk k vn vs vt vl vf))):=by
 rw[show bk (n+1) (.mk k m M s w e f) (.mk k vn vs vt vl vf)=true by simp[bk,pA,Typ.kind,Val.kind,h1,h4,h5,h8,h9,h10]]
 have a2:¬ k=2:=by omega
 have a6:¬ k=6:=by omega
 have a7:¬ k=7:=by omega
 have a3:¬ k=3:=by omega
 refine ak.intro gm.2 (by simp[gm]) ?_
 simp(disch:=try exact dI) only[gm,Typ.pv_mk,Val.pv_mk,push_cast,seval]
theorem uO {α:Type}{p:α->Bool}{l:List α}{i:Nat}{x:α}(h:l[i]? = some x):(l.drop i).all p=(p x&&(l.drop (i+1)).all p):=by
 have hi:=(List.getElem?_eq_some_iff.1 h).1
 have he:l[i]=x:=(List.getElem?_eq_some_iff.1 h).2
 rw[List.drop_eq_getElem_cons hi,he,List.all_cons]
theorem Gr (n:Nat)(ih:qr n)(m M s:Int)(w:List (List UInt8))(e:List Typ)(f:List TFd)(vn vs:Int)(vt:List UInt8)(vl:List Val)(vf:List Fld)(N:Nat)(hs:bw N (.mk 9 m M s w e f))(hv:(Val.mk 9 vn vs vt vl vf).ok)(hvf:vf.length<=9000000000000)
  (h:∀ x∈vf,∀ g,br (.mk 9 m M s w e f) x.name=some g->py n g.typ x.value):ak Tryz.prog ap 234 [(Typ.mk 9 m M s w e f).pv,(Val.mk 9 vn vs vt vl vf).pv] (.bool (bk (n+1) (.mk 9 m M s w e f) (.mk 9 vn vs vt vl vf))):=by
 have hfl:f.length<=9000000000000:=by
  cases N with
  | zero=>exact hs.elim
  | succ N=>simp only[bw] at hs;have:=hs.2.2.1;omega
 have hfld:=fun nm=>uh N _ nm hs
 have hla:=mL f 266 [.eptr [(Val.mk 9 vn vs vt vl vf).pv] 0 0] (ji (.mk 9 vn vs vt vl vf)) (fun g _=>Om _ g hv rfl hvf) hfl
 rw[show bk (n+1) (.mk 9 m M s w e f) (.mk 9 vn vs vt vl vf)=((vf.all fun x=>vL (bk n) x.value (br (.mk 9 m M s w e f) x.name))&&!(f.any (ji (.mk 9 vn vs vt vl vf)))) by simp[bk,pA,Typ.kind,Val.kind,Val.fields,Typ.fields]]
 generalize f.any (ji (.mk 9 vn vs vt vl vf))=q at hla ⊢
 obtain⟨T,hT⟩:∃ T,T=br (.mk 9 m M s w e f):=⟨_,rfl⟩
 rw[<- hT] at h ⊢
 have hfld:∀ nm,ak Tryz.prog ap 265 [(Typ.mk 9 m M s w e f).pv,.str nm] (tfR (T nm)):=fun nm=>by rw[hT];exact hfld nm
 clear hT
 simp only[Typ.pv_mk,Val.pv_mk] at hfld hla
 obtain⟨p,hp⟩:∃ p:Fld->Bool,p=fun x=>vL (bk n) x.value (T x.name):=⟨_,rfl⟩
 rw[<- hp]
 obtain⟨R,hR⟩:∃ R,R=(vf.all p&&!q):=⟨_,rfl⟩
 rw[<- hR]
 refine ak.intro gm.2 (by simp[gm]) ?_
 simp(disch:=try exact dI) only[gm,Typ.pv_mk,Val.pv_mk,push_cast,seval]
 refine am ([]) (fun i:Nat=>[(107,.pv (.int .i64 (i:Int)))]) (fun _=>[]) (fun i=>i<=vf.length/\R=((vf.drop i).all p&&!q)) (fun i=>vf.length - i) (0) ?_;intro e0 σ0 n0 h0;simp(disch:=try exact dI) only[push_cast,seval] at h0;obtain⟨rfl,rfl,rfl⟩:=h0;refine⟨?_,?_,?_⟩
 ·exact qsZ
 ·exact⟨by omega,by simpa using hR⟩
 rintro i ⟨hi,hr⟩
 by_cases hlt:i<vf.length
 ·have hltI:(i:Int)<(vf.length:Int):=by omega
  obtain⟨x,hx⟩:∃ x,vf[i]? = some x:=⟨_,List.getElem?_eq_getElem hlt⟩
  rw[uO hx] at hr
  have hph:=h x (List.mem_of_getElem? hx)
  have hc:=hfld x.name
  rw[show p x=vL (bk n) x.value (T x.name) by rw[hp]] at hr
  generalize T x.name=o at hph hc hr
  obtain⟨xn,y⟩:=x
  simp only[Fld.name,Fld.value] at hph hc hr
  cases o with
  | none=>
    simp only[vL,Bool.false_and] at hr
    subst hr
    obtain⟨yk,yn,ys,yt,yl,yf⟩:=y
    simp only[tfR,Option.getD_none,Option.isSome_none,iR,TFd.pv_mk,Typ.pv_mk,ag] at hc
    simp(disch:=try exact dI) only[hx,Option.map_some,Fld.pv_mk,Val.pv_mk,ag,push_cast,seval]
    refine ab.pure hc rfl ?_
    exact qsZ
  | some g=>
    have hh:=ih _ _ (hph g rfl)
    simp only[vL] at hr
    obtain⟨n',nm',nd',⟨k',m',M',s',w',e',f'⟩,d'⟩:=g
    simp only[TFd.typ] at hh hr
    generalize bk n (.mk k' m' M' s' w' e' f') y=b at hh hr
    obtain⟨yk,yn,ys,yt,yl,yf⟩:=y
    simp only[tfR,Option.getD_some,Option.isSome_some,TFd.pv_mk,Typ.pv_mk,Val.pv_mk,ag] at hc hh
    cases b with
    | false=>
      simp only[Bool.false_and] at hr
      subst hr
      simp(disch:=try exact dI) only[hx,Option.map_some,Fld.pv_mk,Val.pv_mk,ag,push_cast,seval]
      refine ab.pure hc rfl ?_
      refine zgZ ?_
      refine ab.pure hh rfl ?_
      exact qsZ
    | true=>
      rw[Bool.true_and] at hr
      simp(disch:=try exact dI) only[hx,Option.map_some,Fld.pv_mk,Val.pv_mk,ag,push_cast,seval]
      refine ab.pure hc rfl ?_
      refine zgZ ?_
      refine ab.pure hh rfl ?_
      refine zgZ ?_
      exact⟨i+1,aI qsZ,⟨by omega,hr⟩,by omega⟩
 ·obtain rfl:i=vf.length:=by omega
  rw[List.drop_length,List.all_nil,Bool.true_and] at hr
  subst hr
  simp(disch:=try exact dI) only[Int.lt_irrefl,push_cast,seval]
  refine ab.pure hla rfl ?_
  exact qsZ
theorem Ia:∀ n,qr n
 | 0=>fun _ _ h=>h.elim
 | n+1=>fun t v h=>by
   have ih:=Ia n
   simp only[py] at h
   obtain⟨⟨N,hs⟩,_,hw,hv,hl,hf,h⟩:=h
   by_cases hk:v.kind=t.kind
   ·have h:=h hk
    obtain⟨k,m,M,s,w,e,f⟩:=t
    obtain⟨vk,vn,vs,vt,vl,vf⟩:=v
    simp only[Val.kind,Typ.kind,Typ.words,Val.lst,Val.fields,Val.text,Typ.elem] at hk h hw hl hf
    subst hk
    obtain⟨_,h8,h10,h9⟩:=h
    by_cases h1:vk=2\/vk=6\/vk=7\/vk=3
    ·exact wS n _ _ _ _ _ _ _ _ _ _ _ _ h1
    by_cases h4:vk=4
    ·subst h4;exact Gu n _ _ _ _ _ _ _ _ _ _ _ hw
    by_cases h5:vk=5
    ·subst h5;exact Gt n _ _ _ _ _ _ _ _ _ _ _
    by_cases h8':vk=8
    ·subst h8';exact Gs n ih _ _ _ _ _ _ _ _ _ _ _ hl (h8 rfl)
    by_cases h10':vk=10
    ·subst h10';exact BS n ih _ _ _ _ _ _ _ _ _ _ _ N hs (h10 rfl)
    by_cases h9':vk=9
    ·subst h9';exact Gr n ih _ _ _ _ _ _ _ _ _ _ _ N hs hv hf (h9 rfl)
    exact rT n _ _ _ _ _ _ _ _ _ _ _ _ h1 h4 h5 h8' h10' h9'
   ·exact BR n t v hk
theorem fW:∀ (n:Nat) (t:Typ),bw n t->bw (n+1) t
 | 0,_,h=>h.elim
 | n+1,.mk k m M s w e f,h=>by
   obtain⟨h1,h2,h3,h4,h5⟩:=h
   exact⟨h1,h2,h3,fun x hx=>fW n x (h4 x hx),fun g hg=>⟨(h5 g hg).1,(h5 g hg).2.1,fW n g.typ (h5 g hg).2.2⟩⟩
theorem gw {n m:Nat}(h:n<=m){t:Typ}(ht:bw n t):bw m t:=by
 induction h with
 | refl=>exact ht
 | step _ ih=>exact fW _ _ ih
theorem j1 {α:Type}(g:α->Typ):∀ l:List α,(∀ x∈l,∃ n,bw n (g x))->∃ n,∀ x∈l,bw n (g x)
 | [],_=>⟨0,by simp⟩
 | x::r,h=>by
   obtain⟨n,hn⟩:=h x (by simp)
   obtain⟨m,hm⟩:=j1 g r fun y hy=>h y (List.mem_cons_of_mem _ hy)
   refine⟨max n m,fun y hy=>?_⟩
   rcases List.mem_cons.1 hy with rfl | hy
   ·exact gw (Nat.le_max_left _ _) hn
   ·exact gw (Nat.le_max_right _ _) (hm y hy)
theorem m5:∀ (t:Typ),t.ok->∃ n,bw n t
 | .mk k m M s w e f,h=>by
   rw[Typ.ok_mk] at h
   obtain⟨_,_,_,_,h1,_,h2,h3,h4,h5⟩:=h
   have e1:∀ x∈e,∃ n,bw n x:=fun x hx=>m5 x (h3 x hx)
   have f1:∀ g∈f,∃ n,bw n g.typ:=fun g hg=>by
    have hg':=h5 g hg
    obtain⟨a1,a2,a3,a4,a5⟩:=g
    rw[TFd.ok_mk] at hg'
    exact m5 a4 hg'.2.2.2.1
   obtain⟨a,ha⟩:=j1 id e e1
   obtain⟨b,hb⟩:=j1 TFd.typ f f1
   refine⟨max a b+1,h1,h2,h4,fun x hx=>gw (Nat.le_max_left _ _) (ha x hx),fun g hg=>?_⟩
   have hg':=h5 g hg
   have hgt:=gw (Nat.le_max_right a b) (hb g hg)
   obtain⟨a1,a2,a3,a4,a5⟩:=g
   rw[TFd.ok_mk] at hg'
   exact⟨hg'.2.2.2.2.1,hg'.2.2.2.2.2,hgt⟩
termination_by t=>SizeOf.sizeOf t
decreasing_by
 all_goals simp_wf
 ·have:=List.sizeOf_lt_of_mem hx;omega
 ·have:=List.sizeOf_lt_of_mem hg
  simp only[TFd.mk.sizeOf_spec] at this
  omega
def IM:Nat->Val->Prop
 | 0,_=>False
 | n+1,v=>(bd v=0/\bj v=true)/\∀ x∈bg v,IM n x
theorem uA:∀ (xs:List (Int×Val)) (i:Nat),jn i xs=0->∀ q∈xs,∃ j,aR j q=0
 | [],_,_,_,h=>by cases h
 | x::r,i,h,q,hq=>by
   rw[jn] at h
   by_cases h0:aR i x=0
   ·rw[if_pos h0] at h
    rcases List.mem_cons.1 hq with rfl | hq
    ·exact⟨i,h0⟩
    ·exact uA r (i+1) h q hq
   ·rw[if_neg h0] at h;exact absurd h h0
theorem vA {j:Nat}{q:Int×Val}(h:aR j q=0):bd q.2=0/\bj q.2=true:=by
 unfold aR at h
 split at h
 ·cases h
 split at h
 ·cases h
 split at h
 ·cases h
 split at h
 ·cases h
 split at h
 ·cases h
 ·rename_i hu
  exact⟨h,by simpa using hu⟩
theorem yJ:∀ (n:Nat) (lv:Int) (v:Val),cW n v->(∀ q∈cJ n lv v,bd q.2=0/\bj q.2=true)->IM n v
 | 0,_,_,hd,_=>hd.elim
 | n+1,lv,v,hd,h=>by
   simp only[cJ,List.mem_cons,List.mem_flatMap] at h
   refine⟨h (lv,v) (.inl rfl),fun x hx=>yJ n (Go.RowKit.wrap64 (lv+1)) x (hd x hx) fun q hq=>h q (.inr ⟨x,hx,hq⟩)⟩
theorem sD {n:Nat}{v:Val}(hd:cW n v)(h:jn 0 (cJ n 1 v)=0):IM n v:=
 yJ n 1 v hd fun q hq=>by obtain⟨j,hj⟩:=uA _ _ h q hq;exact vA hj
noncomputable def accB (n:Nat)(t:Typ)(v:Val):Bool:=decide (CU v=0)&&bk n t v
theorem xY (n:Nat)(t:Typ)(v:Val)(hv:v.ok)(hP:CU v=0->py n t v):ak Tryz.prog ap 180 [t.pv,v.pv] (.bool (accB n t v)):=by
 have hc:=K7 v hv
 simp only[accB]
 generalize CU v=z at hc hP ⊢
 by_cases hz:z=0
 ·have hh:=Ia n t v (hP hz)
  subst hz
  generalize bk n t v=b at hh ⊢
  obtain⟨k,m,M,s,w,e,f⟩:=t
  obtain⟨vk,vn,vs,vt,vl,vf⟩:=v
  simp only[Typ.pv_mk,Val.pv_mk] at hc hh
  refine ak.intro Mn.2 (by simp[Mn]) ?_
  simp(disch:=try exact dI) only[Mn,Typ.pv_mk,Val.pv_mk,push_cast,seval]
  refine ab.pure hc rfl ?_
  refine zgZ ?_
  refine ab.pure hh rfl ?_
  exact qsZ
 ·rw[decide_eq_false hz,Bool.false_and]
  obtain⟨k,m,M,s,w,e,f⟩:=t
  obtain⟨vk,vn,vs,vt,vl,vf⟩:=v
  simp only[Typ.pv_mk,Val.pv_mk] at hc
  refine ak.intro Mn.2 (by simp[Mn]) ?_
  simp(disch:=try exact dI) only[Mn,Typ.pv_mk,Val.pv_mk,push_cast,seval]
  refine ab.pure hc rfl ?_
  simp(disch:=try exact dI) only[hz,push_cast,seval]
noncomputable def gY (n:Nat):TFd->Bool
 | .mk _ _ nd t d=>decide (nd=3)&&!(rS (accB n t) d)
def tyV:Nat->Typ->Prop
 | 0,_=>False
 | n+1,.mk k m M s w e f=>dr (.mk k m M s w e f)=0/\(k=8->∀ x∈e,tyV n x)/\(k=9\/k=10->∀ g∈f,tyV n g.typ/\(k=9->gY n g=false))
theorem bc {k m M s:Int}{w:List (List UInt8)}{e:List Typ}{f:List TFd}(h:dr (.mk k m M s w e f)=0):inB k 1 10=true/\cf k m M s w=0/\bt k e.length f.length=0/\be k [] f=0:=by
 rw[dr] at h
 by_cases a:inB k 1 10=false
 ·rw[if_pos a] at h;exact absurd h (by decide)
 rw[if_neg a] at h
 by_cases b:du k (.mk k m M s w e f)=true
 ·rw[if_pos b] at h;exact absurd h (by decide)
 rw[if_neg b] at h
 by_cases c:cf k m M s w=0
 ·rw[if_neg (fun hh=>hh c)] at h
  by_cases d:bt k e.length f.length=0
  ·rw[if_neg (fun hh=>hh d)] at h
   exact⟨by simpa using a,c,d,h⟩
  ·rw[if_pos d] at h;exact absurd h d
 ·rw[if_pos c] at h;exact absurd h c
theorem oP {k m M s:Int}{w:List (List UInt8)}{e:List Typ}{f:List TFd}(h:dr (.mk k m M s w e f)=0)(hk:¬ k=3):s=0:=by
 rw[dr] at h
 by_cases a:inB k 1 10=false
 ·rw[if_pos a] at h;exact absurd h (by decide)
 rw[if_neg a] at h
 by_cases b:du k (.mk k m M s w e f)=true
 ·rw[if_pos b] at h;exact absurd h (by decide)
 have b':du k (.mk k m M s w e f)=false:=by simpa using b
 simp only[du,aE,Bool.or_eq_false_iff] at b'
 obtain⟨_,b2,_⟩:=b'
 rw[decide_eq_false hk] at b2
 simpa using b2
theorem jw {m M s:Int}{w:List (List UInt8)}{e:List Typ}{f:List TFd}(h:dr (.mk 8 m M s w e f)=0):∃ x,e=[x]:=by
 have h1:=(bc h).2.2.1
 match e,h1 with
 | [],h1=>simp[bt] at h1
 | [x],_=>exact⟨x,rfl⟩
 | x::y::r,h1=>simp[bt] at h1
theorem lS {t:Typ}{nm:List UInt8}{g:TFd}(h:br t nm=some g):(t.kind=9\/t.kind=10)/\g∈t.fields:=by
 unfold br at h
 split at h
 ·rename_i hk;exact⟨hk,List.mem_of_find?_eq_some h⟩
 ·cases h
theorem EH {v:Val}(hk:v.kind=10)(h:bd v=0):∃ y r,v.lst=y::r:=by
 obtain⟨vk,vn,vs,vt,vl,vf⟩:=v
 simp only[Val.kind] at hk
 subst hk
 cases vl with
 | cons y r=>exact⟨y,r,rfl⟩
 | nil=>
   simp only[bd,show ¬ (10:Int)=1 by decide,show ¬ (10:Int)=2 by decide,show ¬ (10:Int)=3 by decide,show ¬ (10:Int)=4 by decide,show ¬ (10:Int)=5 by decide,show ¬ (10:Int)=6 by decide,show ¬ (10:Int)=7 by decide,show ¬ (10:Int)=8 by decide,show ¬ (10:Int)=9 by decide,if_false,if_true,List.length_nil] at h
   split at h<;>exact absurd h (by decide)
theorem kM:∀ (n m:Nat) (t:Typ) (v:Val),tyV n t->t.ok->IM m v->v.ok->py n t v
 | 0,_,_,_,h,_,_,_=>h.elim
 | _+1,0,_,_,_,_,h,_=>h.elim
 | n+1,m+1,t,v,h1,h2,h3,h4=>by
   have hv:=h4
   obtain⟨⟨hr,hu⟩,hp⟩:=h3
   obtain⟨N,hsm⟩:=m5 t h2
   have hk8:v.kind=8->∀ y∈v.lst,IM m y:=fun hk y hy=>hp y (by rw[bT (.inl hk)];exact hy)
   have hk10:v.kind=10->∀ y∈v.lst,IM m y:=fun hk y hy=>hp y (by rw[bT (.inr hk)];exact hy)
   have hk9:v.kind=9->∀ x∈v.fields,IM m x.value:=fun hk x hx=>hp x.value (by rw[db hk];exact List.mem_map_of_mem hx)
   obtain⟨k,mn,M,s,w,e,f⟩:=t
   simp only[tyV] at h1
   rw[Typ.ok_mk] at h2
   obtain⟨ho,ht8,ht9⟩:=h1
   obtain⟨_,_,_,_,t1,_,_,t5,_,t6⟩:=h2
   have hvl:v.lst.length<=9000000000000/\v.fields.length<=9000000000000/\(∀ x∈v.lst,x.ok)/\∀ x∈v.fields,x.value.ok:=by
    obtain⟨vk,vn,vs,vt,vl,vf⟩:=v
    rw[Val.ok_mk] at h4
    obtain⟨_,_,_,_,q1,q2,q3,q4⟩:=h4
    refine⟨by simp only[Val.lst];omega,by simp only[Val.fields];omega,q2,fun x hx=>?_⟩
    have:=q4 x hx
    obtain⟨nm,y⟩:=x
    rw[Fld.ok_mk] at this
    exact this.2
   obtain⟨hvl,hvf,hl,hf⟩:=hvl
   have hgt:∀ g∈f,g.typ.ok:=fun g hg=>by
    have:=t6 g hg
    obtain⟨a1,a2,a3,a4,a5⟩:=g
    rw[TFd.ok_mk] at this
    exact this.2.2.2.1
   have hkk:inB k 1 10=true:=(bc ho).1
   refine⟨⟨N,hsm⟩,by simpa[inB,Typ.kind] using hkk,by simp only[Typ.words];omega,hv,hvl,hvf,fun hk=>⟨?_,?_,?_,?_⟩⟩
   ·intro h2
    simp only[Typ.kind] at h2 hk
    have hs:=oP ho (by omega)
    obtain⟨vk,vn,vs,vt,vl,vf⟩:=v
    simp only[Val.kind] at hk
    subst hk
    simp only[bj,Bool.and_eq_true,Bool.or_eq_true,decide_eq_true_eq] at hu
    simp only[Val.scale,Typ.scale]
    omega
   ·intro h8 y hy
    simp only[Typ.kind] at h8 hk
    subst h8
    obtain⟨x,rfl⟩:=jw ho
    exact⟨x,[],rfl,kM n m x y (ht8 rfl x (List.mem_cons_self ..)) (t5 x (List.mem_cons_self ..)) (hk8 hk y hy) (hl y hy)⟩
   ·intro h10 g hg
    simp only[Typ.kind] at h10 hk
    subst h10
    obtain⟨_,hgm⟩:=lS hg
    simp only[Typ.fields] at hgm
    obtain⟨y,r,hy⟩:=EH hk hr
    have hym:y∈v.lst:=by rw[hy];exact List.mem_cons_self ..
    exact⟨y,r,hy,kM n m g.typ y (ht9 (.inr rfl) g hgm).1 (hgt g hgm) (hk10 hk y hym) (hl y hym)⟩
   ·intro h9 x hx g hg
    simp only[Typ.kind] at h9 hk
    subst h9
    obtain⟨_,hgm⟩:=lS hg
    simp only[Typ.fields] at hgm
    exact kM n m g.typ x.value (ht9 (.inl rfl) g hgm).1 (hgt g hgm) (hk9 hk x hx) (hf x hx)
end Go.Proofs.YtbojpfpliibfbaaGreatDoor
