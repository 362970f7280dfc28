/- A part. -/
import Derived.Test.YtamoeblcphjbaaaGreatDoorTyLS7
set_option linter.unusedVariables false
set_option linter.unusedSimpArgs false
set_option maxHeartbeats 16000000
set_option maxRecDepth 100000
open Option renaming getD_some->XK,map_some->WZ
open List renaming getElem?_eq_some_iff->WH,drop_eq_getElem_cons->Xw,mem_cons->W9,length_nil->WL,mem_cons_self->Xy
namespace Go.Proofs.YtamoeblcphjbaaaGreatDoor
open Go Go.Ab
attribute [local irreducible] vc
def Jl (p:Typ->Bool):List Typ->Bool
 | []=>false
 | x::_=>p x
def Aq (p:Val->Bool):List Val->Bool
 | []=>false
 | x::_=>p x
def Ta (p:Typ->Val->Bool)(l:List Val):Option TFd->Bool
 | none=>false
 | some g=>Aq (p g.typ) l
def PJ (p:Typ->Val->Bool)(v:Val):Option TFd->Bool
 | none=>false
 | some g=>p g.typ v
def VX (t:Typ)(v:Val):Bool:=inB v.num t.min t.max&&decide (v.scale=t.scale)
def VU (t:Typ)(v:Val):Bool:=if 0<t.words.length then t.words.any fun x=>decide (x=v.text) else inB v.text.length t.min t.max
def Lv (p:Typ->Val->Bool)(t:Typ)(v:Val):Bool:=
 if t.kind=2\/t.kind=6\/t.kind=7\/t.kind=3 then VX t v else if t.kind=4 then VU t v else if t.kind=5 then inB v.text.length t.min t.max
 else if t.kind=8 then inB v.lst.length t.min t.max&&!(v.lst.any fun x=>!(Jl (fun e=>p e x) t.elem)) else if t.kind=10 then Ta p v.lst (dw t v.text)
 else if t.kind=9 then (v.fields.all fun x=>PJ p x.value (dw t x.name))&&!(t.fields.any (Ah v)) else true
def fD:Nat->Typ->Val->Bool
 | 0,_,_=>false
 | n+1,t,v=>decide (v.kind=t.kind)&&Lv (fD n) t v
def EB:Nat->Typ->Val->Prop
 | 0,_,_=>False
 | n+1,t,v=>(∃ N,bN N t)/\(1<=t.kind/\t.kind<=10)/\t.words.length<=9000000000000/\v.ok/\v.lst.length<=9000000000000/\v.fields.length<=9000000000000/\(v.kind=t.kind ->
   (t.kind=2\/t.kind=6\/t.kind=7->v.scale=t.scale)/\(t.kind=8->∀ y∈v.lst,∃ x r,t.elem=x::r/\EB n x y)/\(t.kind=10->∀ g,dw t v.text=some g->∃ y r,v.lst=y::r/\EB n g.typ y)/\(t.kind=9->∀ x∈v.fields,∀ g,dw t x.name=some g->EB n g.typ x.value))
def sU (n:Nat):Prop:=∀ t v,EB n t v->am Tryz.prog aC 199 [t.pv,v.pv] (.bool (fD n t v))
theorem EC (n:Nat)(t:Typ)(v:Val)(h:¬ v.kind=t.kind):am Tryz.prog aC 199 [t.pv,v.pv] (.bool (fD (n+1) t v)):=by
 rw[show fD (n+1) t v=false by simp[fD,h]]
 obtain⟨k,m,M,s,w,e,f⟩:=t
 obtain⟨vk,vn,vs,vt,vl,vf⟩:=v
 simp only[Val.kind,Typ.kind] at h
 refine am.intro iN.2 (by simp[iN]) ?_
 simp(disch:=try exact dI) only[iN,WB,WD,push_cast,seval]
theorem Ar (n:Nat)(k m M s:Int)(w:List (List UInt8))(e:List Typ)(f:List TFd)(vn vs:Int)(vt:List UInt8)(vl:List Val)(vf:List Fld)(hk:k=2\/k=6\/k=7\/k=3):am Tryz.prog aC 199 [(Typ.mk k m M s w e f).pv,(Val.mk k vn vs vt vl vf).pv] (.bool (fD (n+1) (.mk k m M s w e f) (.mk k vn vs vt vl vf))):=by
 have hi:=pM vn m M
 rw[show fD (n+1) (.mk k m M s w e f) (.mk k vn vs vt vl vf)=(inB vn m M&&decide (vs=s)) by simp[fD,Lv,Typ.kind,Val.kind,hk,VX,Val.num,Typ.min,Typ.max,Val.scale,Typ.scale];rfl]
 generalize inB vn m M=b at hi ⊢
 by_cases hs:vs=s
 ·rcases hk with rfl | rfl | rfl | rfl
  all_goals
   refine am.intro iN.2 (by simp[iN]) ?_
   simp(disch:=try exact dI) only[iN,WB,WD,push_cast,seval]
   refine ae.pure hi rfl ?_
   cases b with
   | false=>simp(disch:=try exact dI) only[push_cast,seval]
   | true=>simp(disch:=try exact dI) only[hs,push_cast,seval]
 ·rcases hk with rfl | rfl | rfl | rfl
  all_goals
   refine am.intro iN.2 (by simp[iN]) ?_
   simp(disch:=try exact dI) only[iN,WB,WD,push_cast,seval]
   refine ae.pure hi rfl ?_
   cases b with
   | false=>simp(disch:=try exact dI) only[push_cast,seval]
   | true=>simp(disch:=try exact dI) only[hs,push_cast,seval]
theorem Js (n:Nat)(m M s:Int)(w:List (List UInt8))(e:List Typ)(f:List TFd)(vn vs:Int)(vt:List UInt8)(vl:List Val)(vf:List Fld)(hw:w.length<=9000000000000):am Tryz.prog aC 199 [(Typ.mk 4 m M s w e f).pv,(Val.mk 4 vn vs vt vl vf).pv] (.bool (fD (n+1) (.mk 4 m M s w e f) (.mk 4 vn vs vt vl vf))):=by
 have hi:=pM vt.length m M
 have hc:=AJ w vt hw
 rw[show fD (n+1) (.mk 4 m M s w e f) (.mk 4 vn vs vt vl vf)=if 0<w.length then w.any (fun x=>decide (x=vt)) else inB vt.length m M by simp[fD,Lv,Typ.kind,Val.kind,VU,Val.text,Typ.min,Typ.max,Typ.words];rfl]
 refine am.intro iN.2 (by simp[iN]) ?_
 by_cases h0:0<w.length
 ·have h0I:(0:Int)<(w.length:Int):=by omega
  rw[if_pos h0]
  generalize w.any (fun x=>decide (x=vt))=b at hc ⊢
  simp(disch:=try exact dI) only[iN,WB,WD,push_cast,seval]
  refine ae.pure hc rfl ?_
  exact qsZ
 ·have h0I:¬ (0:Int)<(w.length:Int):=by omega
  rw[if_neg h0]
  generalize inB vt.length m M=b at hi ⊢
  simp(disch:=try exact dI) only[iN,WB,WD,push_cast,seval]
  refine ae.pure hi rfl ?_
  exact qsZ
theorem Jr (n:Nat)(m M s:Int)(w:List (List UInt8))(e:List Typ)(f:List TFd)(vn vs:Int)(vt:List UInt8)(vl:List Val)(vf:List Fld):am Tryz.prog aC 199 [(Typ.mk 5 m M s w e f).pv,(Val.mk 5 vn vs vt vl vf).pv] (.bool (fD (n+1) (.mk 5 m M s w e f) (.mk 5 vn vs vt vl vf))):=by
 have hi:=pM vt.length m M
 rw[show fD (n+1) (.mk 5 m M s w e f) (.mk 5 vn vs vt vl vf)=inB vt.length m M by simp[fD,Lv,Typ.kind,Val.kind,Val.text,Typ.min,Typ.max]]
 generalize inB vt.length m M=b at hi ⊢
 refine am.intro iN.2 (by simp[iN]) ?_
 simp(disch:=try exact dI) only[iN,WB,WD,push_cast,seval]
 refine ae.pure hi rfl ?_
 exact qsZ
theorem Sa (n:Nat)(ih:sU n)(m M s:Int)(w:List (List UInt8))(x:Typ)(r:List Typ)(f:List TFd)(y:Val)(h:EB n x y):am Tryz.prog aC 229 [y.pv,.eptr [(Typ.mk 8 m M s w (x::r) f).pv] 0 0] (.bool (!fD n x y)):=by
 have hc:=ih x y h
 generalize fD n x y=b at hc ⊢
 obtain⟨k',m',M',s',w',e',f'⟩:=x
 obtain⟨vk,vn,vs,vt,vl,vf⟩:=y
 simp only[WB,WD] at hc
 refine am.intro Vf.2 (by simp[Vf]) ?_
 simp(disch:=try exact dI) only[Vf,WB,WD,aJ,push_cast,seval]
 refine ae.pure hc rfl ?_
 exact qsZ
theorem Jq (n:Nat)(ih:sU n)(m M s:Int)(w:List (List UInt8))(e:List Typ)(f:List TFd)(vn vs:Int)(vt:List UInt8)(vl:List Val)(vf:List Fld)(hl:vl.length<=9000000000000)(h:∀ y∈vl,∃ x r,e=x::r/\EB n x y):am Tryz.prog aC 199 [(Typ.mk 8 m M s w e f).pv,(Val.mk 8 vn vs vt vl vf).pv] (.bool (fD (n+1) (.mk 8 m M s w e f) (.mk 8 vn vs vt vl vf))):=by
 have hi:=pM vl.length m M
 have hc:=uZ vl 229 [.eptr [(Typ.mk 8 m M s w e f).pv] 0 0] (fun x=>!(Jl (fun e=>fD n e x) e)) (fun y hy=>by
  obtain⟨x,r,rfl,hx⟩:=h y hy
  exact Sa n ih m M s w x r f y hx) hl
 rw[show fD (n+1) (.mk 8 m M s w e f) (.mk 8 vn vs vt vl vf)=(inB vl.length m M&&!(vl.any (fun x=>!(Jl (fun e=>fD n e x) e)))) by simp[fD,Lv,Typ.kind,Val.kind,Val.lst,Typ.min,Typ.max,Typ.elem]]
 generalize inB vl.length m M=b at hi ⊢
 generalize vl.any (fun x=>!(Jl (fun e=>fD n e x) e))=q at hc ⊢
 simp only[WB] at hc
 refine am.intro iN.2 (by simp[iN]) ?_
 simp(disch:=try exact dI) only[iN,WB,WD,push_cast,seval]
 refine ae.pure hi rfl ?_
 cases b with
 | false=>simp(disch:=try exact dI) only[push_cast,seval]
 | true=>
   refine zgZ ?_
   refine ae.pure hc rfl ?_
   exact qsZ
theorem ED (n:Nat)(ih:sU n)(m M s:Int)(w:List (List UInt8))(e:List Typ)(f:List TFd)(vn vs:Int)(vt:List UInt8)(vl:List Val)(vf:List Fld)(N:Nat)(hs:bN N (.mk 10 m M s w e f))
  (h:∀ g,dw (.mk 10 m M s w e f) vt=some g->∃ y r,vl=y::r/\EB n g.typ y):am Tryz.prog aC 199 [(Typ.mk 10 m M s w e f).pv,(Val.mk 10 vn vs vt vl vf).pv] (.bool (fD (n+1) (.mk 10 m M s w e f) (.mk 10 vn vs vt vl vf))):=by
 have hc:=xG N _ vt hs
 rw[show fD (n+1) (.mk 10 m M s w e f) (.mk 10 vn vs vt vl vf)=Ta (fD n) vl (dw (.mk 10 m M s w e f) vt) by simp[fD,Lv,Typ.kind,Val.kind,Val.lst,Val.text]]
 generalize dw (.mk 10 m M s w e f) vt=o at hc h ⊢
 simp only[WB] at hc
 cases o with
 | none=>
   simp only[tfR,Option.getD_none,Option.isSome_none,nK,Wt,WB,ap,Ta] at hc ⊢
   refine am.intro iN.2 (by simp[iN]) ?_
   simp(disch:=try exact dI) only[iN,WB,WD,push_cast,seval]
   refine ae.pure hc rfl ?_
   exact qsZ
 | some g=>
   obtain⟨y,r,rfl,hy⟩:=h g rfl
   have hh:=ih _ _ hy
   obtain⟨n',nm',nd',⟨k',m',M',s',w',e',f'⟩,d'⟩:=g
   simp only[TFd.typ,Ta,Aq] at hh ⊢
   generalize fD n (.mk k' m' M' s' w' e' f') y=b at hh ⊢
   obtain⟨yk,yn,ys,yt,yl,yf⟩:=y
   simp only[tfR,XK,Option.isSome_some,Wt,WB,WD,ap] at hc hh ⊢
   refine am.intro iN.2 (by simp[iN]) ?_
   simp(disch:=try exact dI) only[iN,WB,WD,aJ,push_cast,seval]
   refine ae.pure hc rfl ?_
   simp(disch:=try exact dI) only[aJ,WD,push_cast,seval]
   refine ae.pure hh rfl ?_
   exact qsZ
theorem uM (n:Nat)(k m M s:Int)(w:List (List UInt8))(e:List Typ)(f:List TFd)(vn vs:Int)(vt:List UInt8)(vl:List Val)(vf:List Fld)(h1:¬ (k=2\/k=6\/k=7\/k=3))(h4:¬ k=4)(h5:¬ k=5)(h8:¬ k=8)(h10:¬ k=10)(h9:¬ k=9):am Tryz.prog aC 199 [(Typ.mk k m M s w e f).pv,(Val.mk k vn vs vt vl vf).pv] (.bool (fD (n+1) (.mk k m M s w e f) (.mk k vn vs vt vl vf))):=by
 rw[show fD (n+1) (.mk k m M s w e f) (.mk k vn vs vt vl vf)=true by simp[fD,Lv,Typ.kind,Val.kind,h1,h4,h5,h8,h9,h10]]
 have a2:¬ k=2:=by omega
 have a6:¬ k=6:=by omega
 have a7:¬ k=7:=by omega
 have a3:¬ k=3:=by omega
 refine am.intro iN.2 (by simp[iN]) ?_
 simp(disch:=try exact dI) only[iN,WB,WD,push_cast,seval]
theorem Kj {α:Type}{p:α->Bool}{l:List α}{i:Nat}{x:α}(h:l[i]? = some x):(l.drop i).all p=(p x&&(l.drop (i+1)).all p):=by
 have hi:=(WH.1 h).1
 have he:l[i]=x:=(WH.1 h).2
 rw[Xw hi,he,List.all_cons]
theorem Jp (n:Nat)(ih:sU n)(m M s:Int)(w:List (List UInt8))(e:List Typ)(f:List TFd)(vn vs:Int)(vt:List UInt8)(vl:List Val)(vf:List Fld)(N:Nat)(hs:bN N (.mk 9 m M s w e f))(hv:(Val.mk 9 vn vs vt vl vf).ok)(hvf:vf.length<=9000000000000)
  (h:∀ x∈vf,∀ g,dw (.mk 9 m M s w e f) x.name=some g->EB n g.typ x.value):am Tryz.prog aC 199 [(Typ.mk 9 m M s w e f).pv,(Val.mk 9 vn vs vt vl vf).pv] (.bool (fD (n+1) (.mk 9 m M s w e f) (.mk 9 vn vs vt vl vf))):=by
 have hfl:f.length<=9000000000000:=by
  cases N with
  | zero=>exact hs.elim
  | succ N=>simp only[bN] at hs;have:=hs.2.2.1;omega
 have hfld:=fun nm=>xG N _ nm hs
 have hla:=AK f 231 [.eptr [(Val.mk 9 vn vs vt vl vf).pv] 0 0] (Ah (.mk 9 vn vs vt vl vf)) (fun g _=>R9 _ g hv rfl hvf) hfl
 rw[show fD (n+1) (.mk 9 m M s w e f) (.mk 9 vn vs vt vl vf)=((vf.all fun x=>PJ (fD n) x.value (dw (.mk 9 m M s w e f) x.name))&&!(f.any (Ah (.mk 9 vn vs vt vl vf)))) by simp[fD,Lv,Typ.kind,Val.kind,Val.fields,Typ.fields]]
 generalize f.any (Ah (.mk 9 vn vs vt vl vf))=q at hla ⊢
 obtain⟨T,hT⟩:∃ T,T=dw (.mk 9 m M s w e f):=⟨_,rfl⟩
 rw[<- hT] at h ⊢
 have hfld:∀ nm,am Tryz.prog aC 230 [(Typ.mk 9 m M s w e f).pv,.str nm] (tfR (T nm)):=fun nm=>by rw[hT];exact hfld nm
 clear hT
 simp only[WB,WD] at hfld hla
 obtain⟨p,hp⟩:∃ p:Fld->Bool,p=fun x=>PJ (fD n) x.value (T x.name):=⟨_,rfl⟩
 rw[<- hp]
 obtain⟨R,hR⟩:∃ R,R=(vf.all p&&!q):=⟨_,rfl⟩
 rw[<- hR]
 refine am.intro iN.2 (by simp[iN]) ?_
 simp(disch:=try exact dI) only[iN,WB,WD,push_cast,seval]
 refine aG ([]) (fun i:Nat=>[(107,.pv (.int .i64 (i:Int)))]) (fun _=>[]) (fun i=>i<=vf.length/\R=((vf.drop i).all p&&!q)) (fun i=>vf.length - i) (0) ?_;intro e0 σ0 n0 h0;simp(disch:=try exact dI) only[push_cast,seval] at h0;obtain⟨rfl,rfl,rfl⟩:=h0;refine⟨?_,?_,?_⟩
 ·exact qsZ
 ·exact⟨by omega,by simpa using hR⟩
 rintro i ⟨hi,hr⟩
 by_cases hlt:i<vf.length
 ·have hltI:(i:Int)<(vf.length:Int):=by omega
  obtain⟨x,hx⟩:∃ x,vf[i]? = some x:=⟨_,List.getElem?_eq_getElem hlt⟩
  rw[Kj hx] at hr
  have hph:=h x (List.mem_of_getElem? hx)
  have hc:=hfld x.name
  rw[show p x=PJ (fD n) x.value (T x.name) by rw[hp]] at hr
  generalize T x.name=o at hph hc hr
  obtain⟨xn,y⟩:=x
  simp only[Fld.name,Fld.value] at hph hc hr
  cases o with
  | none=>
    simp only[PJ,Bool.false_and] at hr
    subst hr
    obtain⟨yk,yn,ys,yt,yl,yf⟩:=y
    simp only[tfR,Option.getD_none,Option.isSome_none,nK,Wt,WB,ap] at hc
    simp(disch:=try exact dI) only[hx,WZ,Wq,WD,ap,push_cast,seval]
    refine ae.pure hc rfl ?_
    exact qsZ
  | some g=>
    have hh:=ih _ _ (hph g rfl)
    simp only[PJ] at hr
    obtain⟨n',nm',nd',⟨k',m',M',s',w',e',f'⟩,d'⟩:=g
    simp only[TFd.typ] at hh hr
    generalize fD n (.mk k' m' M' s' w' e' f') y=b at hh hr
    obtain⟨yk,yn,ys,yt,yl,yf⟩:=y
    simp only[tfR,XK,Option.isSome_some,Wt,WB,WD,ap] at hc hh
    cases b with
    | false=>
      simp only[Bool.false_and] at hr
      subst hr
      simp(disch:=try exact dI) only[hx,WZ,Wq,WD,ap,push_cast,seval]
      refine ae.pure hc rfl ?_
      refine zgZ ?_
      refine ae.pure hh rfl ?_
      exact qsZ
    | true=>
      rw[Bool.true_and] at hr
      simp(disch:=try exact dI) only[hx,WZ,Wq,WD,ap,push_cast,seval]
      refine ae.pure hc rfl ?_
      refine zgZ ?_
      refine ae.pure hh rfl ?_
      refine zgZ ?_
      exact⟨i+1,bl qsZ,⟨by omega,hr⟩,by omega⟩
 ·obtain rfl:i=vf.length:=by omega
  rw[List.drop_length,List.all_nil,Bool.true_and] at hr
  subst hr
  simp(disch:=try exact dI) only[Int.lt_irrefl,push_cast,seval]
  refine ae.pure hla rfl ?_
  exact qsZ
theorem Lw:∀ n,sU n
 | 0=>fun _ _ h=>h.elim
 | n+1=>fun t v h=>by
   have ih:=Lw n
   simp only[EB] at h
   obtain⟨⟨N,hs⟩,_,hw,hv,hl,hf,h⟩:=h
   by_cases hk:v.kind=t.kind
   ·have h:=h hk
    obtain⟨k,m,M,s,w,e,f⟩:=t
    obtain⟨vk,vn,vs,vt,vl,vf⟩:=v
    simp only[Val.kind,Typ.kind,Typ.words,Val.lst,Val.fields,Val.text,Typ.elem] at hk h hw hl hf
    subst hk
    obtain⟨_,h8,h10,h9⟩:=h
    by_cases h1:vk=2\/vk=6\/vk=7\/vk=3
    ·exact Ar n _ _ _ _ _ _ _ _ _ _ _ _ h1
    by_cases h4:vk=4
    ·subst h4;exact Js n _ _ _ _ _ _ _ _ _ _ _ hw
    by_cases h5:vk=5
    ·subst h5;exact Jr n _ _ _ _ _ _ _ _ _ _ _
    by_cases h8':vk=8
    ·subst h8';exact Jq n ih _ _ _ _ _ _ _ _ _ _ _ hl (h8 rfl)
    by_cases h10':vk=10
    ·subst h10';exact ED n ih _ _ _ _ _ _ _ _ _ _ _ N hs (h10 rfl)
    by_cases h9':vk=9
    ·subst h9';exact Jp n ih _ _ _ _ _ _ _ _ _ _ _ N hs hv hf (h9 rfl)
    exact uM n _ _ _ _ _ _ _ _ _ _ _ _ h1 h4 h5 h8' h10' h9'
   ·exact EC n t v hk
theorem ix:∀ (n:Nat) (t:Typ),bN n t->bN (n+1) t
 | 0,_,h=>h.elim
 | n+1,.mk k m M s w e f,h=>by
   obtain⟨h1,h2,h3,h4,h5⟩:=h
   exact⟨h1,h2,h3,fun x hx=>ix n x (h4 x hx),fun g hg=>⟨(h5 g hg).1,(h5 g hg).2.1,ix n g.typ (h5 g hg).2.2⟩⟩
theorem iZ {n m:Nat}(h:n<=m){t:Typ}(ht:bN n t):bN m t:=by
 induction h with
 | refl=>exact ht
 | step _ ih=>exact ix _ _ ih
theorem lT {α:Type}(g:α->Typ):∀ l:List α,(∀ x∈l,∃ n,bN n (g x))->∃ n,∀ x∈l,bN n (g x)
 | [],_=>⟨0,by simp⟩
 | x::r,h=>by
   obtain⟨n,hn⟩:=h x (by simp)
   obtain⟨m,hm⟩:=lT g r fun y hy=>h y (List.mem_cons_of_mem _ hy)
   refine⟨max n m,fun y hy=>?_⟩
   rcases W9.1 hy with rfl | hy
   ·exact iZ (Nat.le_max_left _ _) hn
   ·exact iZ (Nat.le_max_right _ _) (hm y hy)
theorem iY:∀ (t:Typ),t.ok->∃ n,bN n t
 | .mk k m M s w e f,h=>by
   rw[WA] at h
   obtain⟨_,_,_,_,h1,_,h2,h3,h4,h5⟩:=h
   have e1:∀ x∈e,∃ n,bN n x:=fun x hx=>iY x (h3 x hx)
   have f1:∀ g∈f,∃ n,bN n g.typ:=fun g hg=>by
    have hg':=h5 g hg
    obtain⟨a1,a2,a3,a4,a5⟩:=g
    rw[Ws] at hg'
    exact iY a4 hg'.2.2.2.1
   obtain⟨a,ha⟩:=lT id e e1
   obtain⟨b,hb⟩:=lT TFd.typ f f1
   refine⟨max a b+1,h1,h2,h4,fun x hx=>iZ (Nat.le_max_left _ _) (ha x hx),fun g hg=>?_⟩
   have hg':=h5 g hg
   have hgt:=iZ (Nat.le_max_right a b) (hb g hg)
   obtain⟨a1,a2,a3,a4,a5⟩:=g
   rw[Ws] at hg'
   exact⟨hg'.2.2.2.2.1,hg'.2.2.2.2.2,hgt⟩
termination_by t=>SizeOf.sizeOf t
decreasing_by
 all_goals simp_wf
 ·have:=List.sizeOf_lt_of_mem hx;omega
 ·have:=List.sizeOf_lt_of_mem hg
  simp only[TFd.mk.sizeOf_spec] at this
  omega
def Mu:Nat->Val->Prop
 | 0,_=>False
 | n+1,v=>(bv v=0/\eA v=true)/\∀ x∈bu v,Mu n x
theorem xU:∀ (xs:List (Int×Val)) (i:Nat),lz i xs=0->∀ q∈xs,∃ j,bM j q=0
 | [],_,_,_,h=>by cases h
 | x::r,i,h,q,hq=>by
   rw[lz] at h
   by_cases h0:bM i x=0
   ·rw[if_pos h0] at h
    rcases W9.1 hq with rfl | hq
    ·exact⟨i,h0⟩
    ·exact xU r (i+1) h q hq
   ·rw[if_neg h0] at h;exact absurd h h0
theorem yQ {j:Nat}{q:Int×Val}(h:bM j q=0):bv q.2=0/\eA q.2=true:=by
 unfold bM at h
 split at h
 ·cases h
 split at h
 ·cases h
 split at h
 ·cases h
 split at h
 ·cases h
 split at h
 ·cases h
 ·rename_i hu
  exact⟨h,by simpa using hu⟩
theorem BJ:∀ (n:Nat) (lv:Int) (v:Val),ia n v->(∀ q∈bF n lv v,bv q.2=0/\eA q.2=true)->Mu n v
 | 0,_,_,hd,_=>hd.elim
 | n+1,lv,v,hd,h=>by
   simp only[bF,W9,List.mem_flatMap] at h
   refine⟨h (lv,v) (.inl rfl),fun x hx=>BJ n (Go.RowKit.wrap64 (lv+1)) x (hd x hx) fun q hq=>h q (.inr ⟨x,hx,hq⟩)⟩
theorem GL {n:Nat}{v:Val}(hd:ia n v)(h:lz 0 (bF n 1 v)=0):Mu n v:=
 BJ n 1 v hd fun q hq=>by obtain⟨j,hj⟩:=xU _ _ h q hq;exact yQ hj
noncomputable def accB (n:Nat)(t:Typ)(v:Val):Bool:=decide (xS v=0)&&fD n t v
theorem A8 (n:Nat)(t:Typ)(v:Val)(hv:v.ok)(hP:xS v=0->EB n t v):am Tryz.prog aC 144 [t.pv,v.pv] (.bool (accB n t v)):=by
 have hc:=O7 v hv
 simp only[accB]
 generalize xS v=z at hc hP ⊢
 by_cases hz:z=0
 ·have hh:=Lw n t v (hP hz)
  subst hz
  generalize fD n t v=b at hh ⊢
  obtain⟨k,m,M,s,w,e,f⟩:=t
  obtain⟨vk,vn,vs,vt,vl,vf⟩:=v
  simp only[WB,WD] at hc hh
  refine am.intro P5.2 (by simp[P5]) ?_
  simp(disch:=try exact dI) only[P5,WB,WD,push_cast,seval]
  refine ae.pure hc rfl ?_
  refine zgZ ?_
  refine ae.pure hh rfl ?_
  exact qsZ
 ·rw[decide_eq_false hz,Bool.false_and]
  obtain⟨k,m,M,s,w,e,f⟩:=t
  obtain⟨vk,vn,vs,vt,vl,vf⟩:=v
  simp only[WB,WD] at hc
  refine am.intro P5.2 (by simp[P5]) ?_
  simp(disch:=try exact dI) only[P5,WB,WD,push_cast,seval]
  refine ae.pure hc rfl ?_
  simp(disch:=try exact dI) only[hz,push_cast,seval]
noncomputable def g9 (n:Nat):TFd->Bool
 | .mk _ _ nd t d=>decide (nd=3)&&!(Aq (accB n t) d)
def tyV:Nat->Typ->Prop
 | 0,_=>False
 | n+1,.mk k m M s w e f=>kN (.mk k m M s w e f)=0/\(k=8->∀ x∈e,tyV n x)/\(k=9\/k=10->∀ g∈f,tyV n g.typ/\(k=9->g9 n g=false))
theorem fw {k m M s:Int}{w:List (List UInt8)}{e:List Typ}{f:List TFd}(h:kN (.mk k m M s w e f)=0):inB k 1 10=true/\eh k m M s w=0/\dx k e.length f.length=0/\cW k [] f=0:=by
 rw[kN] at h
 by_cases a:inB k 1 10=false
 ·rw[if_pos a] at h;exact absurd h (by decide)
 rw[if_neg a] at h
 by_cases b:j7 k (.mk k m M s w e f)=true
 ·rw[if_pos b] at h;exact absurd h (by decide)
 rw[if_neg b] at h
 by_cases c:eh k m M s w=0
 ·rw[if_neg (fun hh=>hh c)] at h
  by_cases d:dx k e.length f.length=0
  ·rw[if_neg (fun hh=>hh d)] at h
   exact⟨by simpa using a,c,d,h⟩
  ·rw[if_pos d] at h;exact absurd h d
 ·rw[if_pos c] at h;exact absurd h c
theorem Dc {k m M s:Int}{w:List (List UInt8)}{e:List Typ}{f:List TFd}(h:kN (.mk k m M s w e f)=0)(hk:¬ k=3):s=0:=by
 rw[kN] at h
 by_cases a:inB k 1 10=false
 ·rw[if_pos a] at h;exact absurd h (by decide)
 rw[if_neg a] at h
 by_cases b:j7 k (.mk k m M s w e f)=true
 ·rw[if_pos b] at h;exact absurd h (by decide)
 have b':j7 k (.mk k m M s w e f)=false:=by simpa using b
 simp only[j7,j8,Bool.or_eq_false_iff] at b'
 obtain⟨_,b2,_⟩:=b'
 rw[decide_eq_false hk] at b2
 simpa using b2
theorem wv {m M s:Int}{w:List (List UInt8)}{e:List Typ}{f:List TFd}(h:kN (.mk 8 m M s w e f)=0):∃ x,e=[x]:=by
 have h1:=(fw h).2.2.1
 match e,h1 with
 | [],h1=>simp[dx] at h1
 | [x],_=>exact⟨x,rfl⟩
 | x::y::r,h1=>simp[dx] at h1
theorem nQ {t:Typ}{nm:List UInt8}{g:TFd}(h:dw t nm=some g):(t.kind=9\/t.kind=10)/\g∈t.fields:=by
 unfold dw at h
 split at h
 ·rename_i hk;exact⟨hk,List.mem_of_find?_eq_some h⟩
 ·cases h
theorem HK {v:Val}(hk:v.kind=10)(h:bv v=0):∃ y r,v.lst=y::r:=by
 obtain⟨vk,vn,vs,vt,vl,vf⟩:=v
 simp only[Val.kind] at hk
 subst hk
 cases vl with
 | cons y r=>exact⟨y,r,rfl⟩
 | nil=>
   simp only[bv,show ¬ (10:Int)=1 by decide,show ¬ (10:Int)=2 by decide,show ¬ (10:Int)=3 by decide,show ¬ (10:Int)=4 by decide,show ¬ (10:Int)=5 by decide,show ¬ (10:Int)=6 by decide,show ¬ (10:Int)=7 by decide,show ¬ (10:Int)=8 by decide,show ¬ (10:Int)=9 by decide,if_false,if_true,WL] at h
   split at h<;>exact absurd h (by decide)
theorem pT:∀ (n m:Nat) (t:Typ) (v:Val),tyV n t->t.ok->Mu m v->v.ok->EB n t v
 | 0,_,_,_,h,_,_,_=>h.elim
 | _+1,0,_,_,_,_,h,_=>h.elim
 | n+1,m+1,t,v,h1,h2,h3,h4=>by
   have hv:=h4
   obtain⟨⟨hr,hu⟩,hp⟩:=h3
   obtain⟨N,hsm⟩:=iY t h2
   have hk8:v.kind=8->∀ y∈v.lst,Mu m y:=fun hk y hy=>hp y (by rw[cu (.inl hk)];exact hy)
   have hk10:v.kind=10->∀ y∈v.lst,Mu m y:=fun hk y hy=>hp y (by rw[cu (.inr hk)];exact hy)
   have hk9:v.kind=9->∀ x∈v.fields,Mu m x.value:=fun hk x hx=>hp x.value (by rw[eP hk];exact List.mem_map_of_mem hx)
   obtain⟨k,mn,M,s,w,e,f⟩:=t
   simp only[tyV] at h1
   rw[WA] at h2
   obtain⟨ho,ht8,ht9⟩:=h1
   obtain⟨_,_,_,_,t1,_,_,t5,_,t6⟩:=h2
   have hvl:v.lst.length<=9000000000000/\v.fields.length<=9000000000000/\(∀ x∈v.lst,x.ok)/\∀ x∈v.fields,x.value.ok:=by
    obtain⟨vk,vn,vs,vt,vl,vf⟩:=v
    rw[WC] at h4
    obtain⟨_,_,_,_,q1,q2,q3,q4⟩:=h4
    refine⟨by simp only[Val.lst];omega,by simp only[Val.fields];omega,q2,fun x hx=>?_⟩
    have:=q4 x hx
    obtain⟨nm,y⟩:=x
    rw[Wp] at this
    exact this.2
   obtain⟨hvl,hvf,hl,hf⟩:=hvl
   have hgt:∀ g∈f,g.typ.ok:=fun g hg=>by
    have:=t6 g hg
    obtain⟨a1,a2,a3,a4,a5⟩:=g
    rw[Ws] at this
    exact this.2.2.2.1
   have hkk:inB k 1 10=true:=(fw ho).1
   refine⟨⟨N,hsm⟩,by simpa[inB,Typ.kind] using hkk,by simp only[Typ.words];omega,hv,hvl,hvf,fun hk=>⟨?_,?_,?_,?_⟩⟩
   ·intro h2
    simp only[Typ.kind] at h2 hk
    have hs:=Dc ho (by omega)
    obtain⟨vk,vn,vs,vt,vl,vf⟩:=v
    simp only[Val.kind] at hk
    subst hk
    simp only[eA,Bool.and_eq_true,Bool.or_eq_true,decide_eq_true_eq] at hu
    simp only[Val.scale,Typ.scale]
    omega
   ·intro h8 y hy
    simp only[Typ.kind] at h8 hk
    subst h8
    obtain⟨x,rfl⟩:=wv ho
    exact⟨x,[],rfl,pT n m x y (ht8 rfl x (Xy ..)) (t5 x (Xy ..)) (hk8 hk y hy) (hl y hy)⟩
   ·intro h10 g hg
    simp only[Typ.kind] at h10 hk
    subst h10
    obtain⟨_,hgm⟩:=nQ hg
    simp only[Typ.fields] at hgm
    obtain⟨y,r,hy⟩:=HK hk hr
    have hym:y∈v.lst:=by rw[hy];exact Xy ..
    exact⟨y,r,hy,pT n m g.typ y (ht9 (.inr rfl) g hgm).1 (hgt g hgm) (hk10 hk y hym) (hl y hym)⟩
   ·intro h9 x hx g hg
    simp only[Typ.kind] at h9 hk
    subst h9
    obtain⟨_,hgm⟩:=nQ hg
    simp only[Typ.fields] at hgm
    exact pT n m g.typ x.value (ht9 (.inl rfl) g hgm).1 (hgt g hgm) (hk9 hk x hx) (hf x hx)
def d6 (rec:Int->Typ->Int×Int):Int->List Typ->Int×Int
 | l,[]=>(0,l)
 | l,t::r=>if (rec l t).1=0 then d6 rec (rec l t).2 r else rec l t
noncomputable def dB (n:Nat)(rec:Int->Typ->Int×Int):Int->List TFd->Int×Int
 | l,[]=>(0,l)
 | l,g::r=>if (rec l g.typ).1=0 then (if g9 n g=true then (18,(rec l g.typ).2) else dB n rec (rec l g.typ).2 r) else rec l g.typ
noncomputable def dr (δ:Int):Nat->Int->Typ->Int×Int
 | 0,l,_=>if l=0 then (9,0) else (23,l - δ)
 | n+1,l,.mk k m M s w e f=>if l=0 then (9,0) else if kN (.mk k m M s w e f)=0 then (if k=9 then dB n (dr δ n) (l - 1) f else d6 (dr δ n) (l - 1) (ca (.mk k m M s w e f))) else (kN (.mk k m M s w e f),l - 1)
theorem Ai {rec:Int->Typ->Int×Int}{ps:List Typ}{i:Nat}{t:Typ}(h:ps[i]? = some t)(l:Int):d6 rec l (ps.drop i)=if (rec l t).1=0 then d6 rec (rec l t).2 (ps.drop (i+1)) else rec l t:=by
 have hi:=(WH.1 h).1
 have he:ps[i]=t:=(WH.1 h).2
 rw[Xw hi,he,d6]
theorem As {n:Nat}{rec:Int->Typ->Int×Int}{ps:List TFd}{i:Nat}{g:TFd}(h:ps[i]? = some g)(l:Int):dB n rec l (ps.drop i)=if (rec l g.typ).1=0 then (if g9 n g=true then (18,(rec l g.typ).2) else dB n rec (rec l g.typ).2 (ps.drop (i+1))) else rec l g.typ:=by
 have hi:=(WH.1 h).1
 have he:ps[i]=g:=(WH.1 h).2
 rw[Xw hi,he,dB]
theorem mI {rec:Int->Typ->Int×Int}:∀ (ps:List Typ) (l:Int),(d6 rec l ps).1=0->∀ t∈ps,∃ l,(rec l t).1=0
 | [],_,_,_,h=>by cases h
 | x::r,l,h,t,ht=>by
   rw[d6] at h
   by_cases h0:(rec l x).1=0
   ·rw[if_pos h0] at h
    rcases W9.1 ht with rfl | ht
    ·exact⟨l,h0⟩
    ·exact mI r _ h t ht
   ·rw[if_neg h0] at h;exact absurd h h0
theorem se {n:Nat}{rec:Int->Typ->Int×Int}:∀ (ps:List TFd) (l:Int),(dB n rec l ps).1=0->∀ g∈ps,∃ l,(rec l g.typ).1=0
 | [],_,_,_,h=>by cases h
 | x::r,l,h,t,ht=>by
   rw[dB] at h
   by_cases h0:(rec l x.typ).1=0
   ·rw[if_pos h0] at h
    by_cases hd:g9 n x=true
    ·rw[if_pos hd] at h;exact absurd h (show ¬ (18:Int)=0 by decide)
    ·rw[if_neg hd] at h
     rcases W9.1 ht with rfl | ht
     ·exact⟨l,h0⟩
     ·exact se r _ h t ht
   ·rw[if_neg h0] at h;exact absurd h h0
theorem oD {n:Nat}{rec:Int->Typ->Int×Int}:∀ (ps:List TFd) (l:Int),(dB n rec l ps).1=0->∀ g∈ps,g9 n g=false
 | [],_,_,_,h=>by cases h
 | x::r,l,h,t,ht=>by
   rw[dB] at h
   by_cases h0:(rec l x.typ).1=0
   ·rw[if_pos h0] at h
    by_cases hd:g9 n x=true
    ·rw[if_pos hd] at h;exact absurd h (show ¬ (18:Int)=0 by decide)
    ·rw[if_neg hd] at h
     rcases W9.1 ht with rfl | ht
     ·simpa using hd
     ·exact oD r _ h t ht
   ·rw[if_neg h0] at h;exact absurd h h0
theorem ni {δ:Int}:∀ (n:Nat) (l:Int) (t:Typ),(dr δ n l t).1=0->tyV n t
 | 0,l,_,h=>by
   rw[dr] at h
   split at h<;>cases h
 | n+1,l,.mk k m M s w e f,h=>by
   rw[dr] at h
   by_cases hl:l=0
   ·rw[if_pos hl] at h;cases h
   rw[if_neg hl] at h
   by_cases ho:kN (.mk k m M s w e f)=0
   ·rw[if_pos ho] at h
    refine⟨ho,fun h8 x hx=>?_,fun h9 g hg=>?_⟩
    ·subst h8
     rw[if_neg (by decide)] at h
     obtain⟨l',hl'⟩:=mI _ _ h x hx
     exact ni n l' x hl'
    ·by_cases hk:k=9
     ·subst hk
      rw[if_pos rfl] at h
      obtain⟨l',hl'⟩:=se _ _ h g hg
      exact⟨ni n l' g.typ hl',fun _=>oD _ _ h g hg⟩
     ·have hk10:k=10:=by omega
      subst hk10
      rw[if_neg (by decide)] at h
      obtain⟨l',hl'⟩:=mI _ _ h g.typ (List.mem_map_of_mem hg)
      exact⟨ni n l' g.typ hl',fun h=>absurd h hk⟩
   ·rw[if_neg ho] at h;exact absurd h ho
def Gs (rec:Int->Typ->Int×Int):Prop:=∀ t l,0<=l->l<=4096->0<=(rec l t).2/\(rec l t).2<=4096
theorem ov {rec:Int->Typ->Int×Int}(h:Gs rec):∀ (ps:List Typ) (l:Int),0<=l->l<=4096->0<=(d6 rec l ps).2/\(d6 rec l ps).2<=4096
 | [],l,h1,h2=>⟨h1,h2⟩
 | x::r,l,h1,h2=>by
   have h3:=h x l h1 h2
   rw[d6]
   split
   ·exact ov h r _ h3.1 h3.2
   ·exact h3
theorem oC {n:Nat}{rec:Int->Typ->Int×Int}(h:Gs rec):∀ (ps:List TFd) (l:Int),0<=l->l<=4096->0<=(dB n rec l ps).2/\(dB n rec l ps).2<=4096
 | [],l,h1,h2=>⟨h1,h2⟩
 | x::r,l,h1,h2=>by
   have h3:=h x.typ l h1 h2
   rw[dB]
   split
   ·split
    ·exact h3
    ·exact oC h r _ h3.1 h3.2
   ·exact h3
theorem jB {δ:Int}(hδ:0<=δ/\δ<=1):∀ n,Gs (dr δ n)
 | 0,t,l,h1,h2=>by
   rw[dr]
   split
   ·simp
   ·simp only;omega
 | n+1,.mk k m M s w e f,l,h1,h2=>by
   rw[dr]
   split
   ·simp
   split
   ·split
    ·exact oC (jB hδ n) f (l - 1) (by omega) (by omega)
    ·exact ov (jB hδ n) _ (l - 1) (by omega) (by omega)
   ·simp only;omega
theorem iG {k:Int}:∀ (f b:List TFd),cW k b f=0->∀ g∈f,∃ b,eu k b g=0
 | [],_,_,_,h=>by cases h
 | x::r,b,h,g,hg=>by
   rw[cW] at h
   by_cases h0:eu k b x=0
   ·rw[if_pos h0] at h
    rcases W9.1 hg with rfl | hg
    ·exact⟨b,h0⟩
    ·exact iG r _ h g hg
   ·rw[if_neg h0] at h;exact absurd h h0
theorem oG {k:Int}{b:List TFd}{n:Int}{nm:List UInt8}{t:Typ}{d:List Val}(h:eu k b (.mk n nm 3 t d)=0):∃ x r,d=x::r:=by
 cases d with
 | cons x r=>exact⟨x,r,rfl⟩
 | nil=>
   simp only[eu,WL,true_and,if_true] at h
   repeat' split at h
   all_goals first | exact absurd h (by decide) | skip
