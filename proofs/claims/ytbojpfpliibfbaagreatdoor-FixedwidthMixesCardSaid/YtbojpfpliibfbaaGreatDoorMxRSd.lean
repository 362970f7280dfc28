/- A part of the proof. -/
import Derived.Test.YtbojpfpliibfbaaGreatDoorMxRS9
set_option maxHeartbeats 16000000
set_option maxRecDepth 100000
set_option linter.unusedVariables false
set_option linter.unusedSimpArgs false
namespace Go.Proofs.YtbojpfpliibfbaaGreatDoor
open Go Go.Ab
attribute [local irreducible] vc
theorem CN (n:Nat)(ih:qm n)(m M s:Int)(w:List (List UInt8))(e:List Typ)(f:List TFd)(vn vs:Int)(vt:List UInt8)(vl:List Val)(vf:List Fld)(N:Nat)(hs:bC N (.mk 10 m M s w e f))
  (h:∀ g,ck (.mk 10 m M s w e f) vt=some g->∃ y r,vl=y::r/\CL n g.typ y):ag Tryz.prog aq 234 [(Typ.mk 10 m M s w e f).pv,(Val.mk 10 vn vs vt vl vf).pv] (.bool (eo (n+1) (.mk 10 m M s w e f) (.mk 10 vn vs vt vl vf))):=by
 have hc:=uf N _ vt hs
 rw[show eo (n+1) (.mk 10 m M s w e f) (.mk 10 vn vs vt vl vf)=QW (eo n) vl (ck (.mk 10 m M s w e f) vt) by simp[eo,Jg,Typ.kind,Val.kind,Val.lst,Val.text]]
 generalize ck (.mk 10 m M s w e f) vt=o at hc h ⊢
 simp only[Typ.pv_mk] at hc
 cases o with
 | none=>
   simp only[tfR,Option.getD_none,Option.isSome_none,iM,TFd.pv_mk,Typ.pv_mk,ae,QW] at hc ⊢
   refine ag.intro f5.2 (by simp[f5]) ?_
   simp(disch:=try exact dI) only[f5,Typ.pv_mk,Val.pv_mk,push_cast,seval]
   refine ab.pure hc rfl ?_
   exact qsZ
 | some g=>
   obtain⟨y,r,rfl,hy⟩:=h g rfl
   have hh:=ih _ _ hy
   obtain⟨n',nm',nd',⟨k',m',M',s',w',e',f'⟩,d'⟩:=g
   simp only[TFd.typ,QW,CH] at hh ⊢
   generalize eo n (.mk k' m' M' s' w' e' f') y=b at hh ⊢
   obtain⟨yk,yn,ys,yt,yl,yf⟩:=y
   simp only[tfR,Option.getD_some,Option.isSome_some,TFd.pv_mk,Typ.pv_mk,Val.pv_mk,ae] at hc hh ⊢
   refine ag.intro f5.2 (by simp[f5]) ?_
   simp(disch:=try exact dI) only[f5,Typ.pv_mk,Val.pv_mk,aD,push_cast,seval]
   refine ab.pure hc rfl ?_
   simp(disch:=try exact dI) only[aD,Val.pv_mk,push_cast,seval]
   refine ab.pure hh rfl ?_
   exact qsZ
theorem r8 (n:Nat)(k m M s:Int)(w:List (List UInt8))(e:List Typ)(f:List TFd)(vn vs:Int)(vt:List UInt8)(vl:List Val)(vf:List Fld)(h1:¬ (k=2\/k=6\/k=7\/k=3))(h4:¬ k=4)(h5:¬ k=5)(h8:¬ k=8)(h10:¬ k=10)(h9:¬ k=9):ag Tryz.prog aq 234 [(Typ.mk k m M s w e f).pv,(Val.mk k vn vs vt vl vf).pv] (.bool (eo (n+1) (.mk k m M s w e f) (.mk k vn vs vt vl vf))):=by
 rw[show eo (n+1) (.mk k m M s w e f) (.mk k vn vs vt vl vf)=true by simp[eo,Jg,Typ.kind,Val.kind,h1,h4,h5,h8,h9,h10]]
 have a2:¬ k=2:=by omega
 have a6:¬ k=6:=by omega
 have a7:¬ k=7:=by omega
 have a3:¬ k=3:=by omega
 refine ag.intro f5.2 (by simp[f5]) ?_
 simp(disch:=try exact dI) only[f5,Typ.pv_mk,Val.pv_mk,push_cast,seval]
theorem Ir {α:Type}{p:α->Bool}{l:List α}{i:Nat}{x:α}(h:l[i]? = some x):(l.drop i).all p=(p x&&(l.drop (i+1)).all p):=by
 have hi:=(List.getElem?_eq_some_iff.1 h).1
 have he:l[i]=x:=(List.getElem?_eq_some_iff.1 h).2
 rw[List.drop_eq_getElem_cons hi,he,List.all_cons]
theorem Hy (n:Nat)(ih:qm n)(m M s:Int)(w:List (List UInt8))(e:List Typ)(f:List TFd)(vn vs:Int)(vt:List UInt8)(vl:List Val)(vf:List Fld)(N:Nat)(hs:bC N (.mk 9 m M s w e f))(hv:(Val.mk 9 vn vs vt vl vf).ok)(hvf:vf.length<=9000000000000)
  (h:∀ x∈vf,∀ g,ck (.mk 9 m M s w e f) x.name=some g->CL n g.typ x.value):ag Tryz.prog aq 234 [(Typ.mk 9 m M s w e f).pv,(Val.mk 9 vn vs vt vl vf).pv] (.bool (eo (n+1) (.mk 9 m M s w e f) (.mk 9 vn vs vt vl vf))):=by
 have hfl:f.length<=9000000000000:=by
  cases N with
  | zero=>exact hs.elim
  | succ N=>simp only[bC] at hs;have:=hs.2.2.1;omega
 have hfld:=fun nm=>uf N _ nm hs
 have hla:=mw f 266 [.eptr [(Val.mk 9 vn vs vt vl vf).pv] 0 0] (wQ (.mk 9 vn vs vt vl vf)) (fun g _=>PN _ g hv rfl hvf) hfl
 rw[show eo (n+1) (.mk 9 m M s w e f) (.mk 9 vn vs vt vl vf)=((vf.all fun x=>Nh (eo n) x.value (ck (.mk 9 m M s w e f) x.name))&&!(f.any (wQ (.mk 9 vn vs vt vl vf)))) by simp[eo,Jg,Typ.kind,Val.kind,Val.fields,Typ.fields]]
 generalize f.any (wQ (.mk 9 vn vs vt vl vf))=q at hla ⊢
 obtain⟨T,hT⟩:∃ T,T=ck (.mk 9 m M s w e f):=⟨_,rfl⟩
 rw[<- hT] at h ⊢
 have hfld:∀ nm,ag Tryz.prog aq 265 [(Typ.mk 9 m M s w e f).pv,.str nm] (tfR (T nm)):=fun nm=>by rw[hT];exact hfld nm
 clear hT
 simp only[Typ.pv_mk,Val.pv_mk] at hfld hla
 obtain⟨p,hp⟩:∃ p:Fld->Bool,p=fun x=>Nh (eo n) x.value (T x.name):=⟨_,rfl⟩
 rw[<- hp]
 obtain⟨R,hR⟩:∃ R,R=(vf.all p&&!q):=⟨_,rfl⟩
 rw[<- hR]
 refine ag.intro f5.2 (by simp[f5]) ?_
 simp(disch:=try exact dI) only[f5,Typ.pv_mk,Val.pv_mk,push_cast,seval]
 refine az ([]) (fun i:Nat=>[(107,.pv (.int .i64 (i:Int)))]) (fun _=>[]) (fun i=>i<=vf.length/\R=((vf.drop i).all p&&!q)) (fun i=>vf.length - i) (0) ?_;intro e0 σ0 n0 h0;simp(disch:=try exact dI) only[push_cast,seval] at h0;obtain⟨rfl,rfl,rfl⟩:=h0;refine⟨?_,?_,?_⟩
 ·exact qsZ
 ·exact⟨by omega,by simpa using hR⟩
 rintro i ⟨hi,hr⟩
 by_cases hlt:i<vf.length
 ·have hltI:(i:Int)<(vf.length:Int):=by omega
  obtain⟨x,hx⟩:∃ x,vf[i]? = some x:=⟨_,List.getElem?_eq_getElem hlt⟩
  rw[Ir hx] at hr
  have hph:=h x (List.mem_of_getElem? hx)
  have hc:=hfld x.name
  rw[show p x=Nh (eo n) x.value (T x.name) by rw[hp]] at hr
  generalize T x.name=o at hph hc hr
  obtain⟨xn,y⟩:=x
  simp only[Fld.name,Fld.value] at hph hc hr
  cases o with
  | none=>
    simp only[Nh,Bool.false_and] at hr
    subst hr
    obtain⟨yk,yn,ys,yt,yl,yf⟩:=y
    simp only[tfR,Option.getD_none,Option.isSome_none,iM,TFd.pv_mk,Typ.pv_mk,ae] at hc
    simp(disch:=try exact dI) only[hx,Option.map_some,Fld.pv_mk,Val.pv_mk,ae,push_cast,seval]
    refine ab.pure hc rfl ?_
    exact qsZ
  | some g=>
    have hh:=ih _ _ (hph g rfl)
    simp only[Nh] at hr
    obtain⟨n',nm',nd',⟨k',m',M',s',w',e',f'⟩,d'⟩:=g
    simp only[TFd.typ] at hh hr
    generalize eo n (.mk k' m' M' s' w' e' f') y=b at hh hr
    obtain⟨yk,yn,ys,yt,yl,yf⟩:=y
    simp only[tfR,Option.getD_some,Option.isSome_some,TFd.pv_mk,Typ.pv_mk,Val.pv_mk,ae] at hc hh
    cases b with
    | false=>
      simp only[Bool.false_and] at hr
      subst hr
      simp(disch:=try exact dI) only[hx,Option.map_some,Fld.pv_mk,Val.pv_mk,ae,push_cast,seval]
      refine ab.pure hc rfl ?_
      refine zgZ ?_
      refine ab.pure hh rfl ?_
      exact qsZ
    | true=>
      rw[Bool.true_and] at hr
      simp(disch:=try exact dI) only[hx,Option.map_some,Fld.pv_mk,Val.pv_mk,ae,push_cast,seval]
      refine ab.pure hc rfl ?_
      refine zgZ ?_
      refine ab.pure hh rfl ?_
      refine zgZ ?_
      exact⟨i+1,aV qsZ,⟨by omega,hr⟩,by omega⟩
 ·obtain rfl:i=vf.length:=by omega
  rw[List.drop_length,List.all_nil,Bool.true_and] at hr
  subst hr
  simp(disch:=try exact dI) only[Int.lt_irrefl,push_cast,seval]
  refine ab.pure hla rfl ?_
  exact qsZ
theorem Jh:∀ n,qm n
 | 0=>fun _ _ h=>h.elim
 | n+1=>fun t v h=>by
   have ih:=Jh n
   simp only[CL] at h
   obtain⟨⟨N,hs⟩,_,hw,hv,hl,hf,h⟩:=h
   by_cases hk:v.kind=t.kind
   ·have h:=h hk
    obtain⟨k,m,M,s,w,e,f⟩:=t
    obtain⟨vk,vn,vs,vt,vl,vf⟩:=v
    simp only[Val.kind,Typ.kind,Typ.words,Val.lst,Val.fields,Val.text,Typ.elem] at hk h hw hl hf
    subst hk
    obtain⟨_,h8,h10,h9⟩:=h
    by_cases h1:vk=2\/vk=6\/vk=7\/vk=3
    ·exact wX n _ _ _ _ _ _ _ _ _ _ _ _ h1
    by_cases h4:vk=4
    ·subst h4;exact HB n _ _ _ _ _ _ _ _ _ _ _ hw
    by_cases h5:vk=5
    ·subst h5;exact HA n _ _ _ _ _ _ _ _ _ _ _
    by_cases h8':vk=8
    ·subst h8';exact Hz n ih _ _ _ _ _ _ _ _ _ _ _ hl (h8 rfl)
    by_cases h10':vk=10
    ·subst h10';exact CN n ih _ _ _ _ _ _ _ _ _ _ _ N hs (h10 rfl)
    by_cases h9':vk=9
    ·subst h9';exact Hy n ih _ _ _ _ _ _ _ _ _ _ _ N hs hv hf (h9 rfl)
    exact r8 n _ _ _ _ _ _ _ _ _ _ _ _ h1 h4 h5 h8' h10' h9'
   ·exact CM n t v hk
theorem fT:∀ (n:Nat) (t:Typ),bC n t->bC (n+1) t
 | 0,_,h=>h.elim
 | n+1,.mk k m M s w e f,h=>by
   obtain⟨h1,h2,h3,h4,h5⟩:=h
   exact⟨h1,h2,h3,fun x hx=>fT n x (h4 x hx),fun g hg=>⟨(h5 g hg).1,(h5 g hg).2.1,fT n g.typ (h5 g hg).2.2⟩⟩
theorem gi {n m:Nat}(h:n<=m){t:Typ}(ht:bC n t):bC m t:=by
 induction h with
 | refl=>exact ht
 | step _ ih=>exact fT _ _ ih
theorem jO {α:Type}(g:α->Typ):∀ l:List α,(∀ x∈l,∃ n,bC n (g x))->∃ n,∀ x∈l,bC n (g x)
 | [],_=>⟨0,by simp⟩
 | x::r,h=>by
   obtain⟨n,hn⟩:=h x (by simp)
   obtain⟨m,hm⟩:=jO g r fun y hy=>h y (List.mem_cons_of_mem _ hy)
   refine⟨max n m,fun y hy=>?_⟩
   rcases List.mem_cons.1 hy with rfl | hy
   ·exact gi (Nat.le_max_left _ _) hn
   ·exact gi (Nat.le_max_right _ _) (hm y hy)
theorem mN:∀ (t:Typ),t.ok->∃ n,bC n t
 | .mk k m M s w e f,h=>by
   rw[Typ.ok_mk] at h
   obtain⟨_,_,_,_,h1,_,h2,h3,h4,h5⟩:=h
   have e1:∀ x∈e,∃ n,bC n x:=fun x hx=>mN x (h3 x hx)
   have f1:∀ g∈f,∃ n,bC n g.typ:=fun g hg=>by
    have hg':=h5 g hg
    obtain⟨a1,a2,a3,a4,a5⟩:=g
    rw[TFd.ok_mk] at hg'
    exact mN a4 hg'.2.2.2.1
   obtain⟨a,ha⟩:=jO id e e1
   obtain⟨b,hb⟩:=jO TFd.typ f f1
   refine⟨max a b+1,h1,h2,h4,fun x hx=>gi (Nat.le_max_left _ _) (ha x hx),fun g hg=>?_⟩
   have hg':=h5 g hg
   have hgt:=gi (Nat.le_max_right a b) (hb g hg)
   obtain⟨a1,a2,a3,a4,a5⟩:=g
   rw[TFd.ok_mk] at hg'
   exact⟨hg'.2.2.2.2.1,hg'.2.2.2.2.2,hgt⟩
termination_by t=>SizeOf.sizeOf t
decreasing_by
 all_goals simp_wf
 ·have:=List.sizeOf_lt_of_mem hx;omega
 ·have:=List.sizeOf_lt_of_mem hg
  simp only[TFd.mk.sizeOf_spec] at this
  omega
def JZ:Nat->Val->Prop
 | 0,_=>False
 | n+1,v=>(bJ v=0/\eN v=true)/\∀ x∈cy v,JZ n x
theorem uq:∀ (xs:List (Int×Val)) (i:Nat),qo i xs=0->∀ q∈xs,∃ j,be j q=0
 | [],_,_,_,h=>by cases h
 | x::r,i,h,q,hq=>by
   rw[qo] at h
   by_cases h0:be i x=0
   ·rw[if_pos h0] at h
    rcases List.mem_cons.1 hq with rfl | hq
    ·exact⟨i,h0⟩
    ·exact uq r (i+1) h q hq
   ·rw[if_neg h0] at h;exact absurd h h0
theorem vr {j:Nat}{q:Int×Val}(h:be j q=0):bJ q.2=0/\eN q.2=true:=by
 unfold be at h
 split at h
 ·cases h
 split at h
 ·cases h
 split at h
 ·cases h
 split at h
 ·cases h
 split at h
 ·cases h
 ·rename_i hu
  exact⟨h,by simpa using hu⟩
theorem zy:∀ (n:Nat) (lv:Int) (v:Val),ly n v->(∀ q∈eQ n lv v,bJ q.2=0/\eN q.2=true)->JZ n v
 | 0,_,_,hd,_=>hd.elim
 | n+1,lv,v,hd,h=>by
   simp only[eQ,List.mem_cons,List.mem_flatMap] at h
   refine⟨h (lv,v) (.inl rfl),fun x hx=>zy n (Go.RowKit.wrap64 (lv+1)) x (hd x hx) fun q hq=>h q (.inr ⟨x,hx,hq⟩)⟩
theorem E2 {n:Nat}{v:Val}(hd:ly n v)(h:qo 0 (eQ n 1 v)=0):JZ n v:=
 zy n 1 v hd fun q hq=>by obtain⟨j,hj⟩:=uq _ _ h q hq;exact vr hj
noncomputable def accB (n:Nat)(t:Typ)(v:Val):Bool:=decide (PT v=0)&&eo n t v
theorem yj (n:Nat)(t:Typ)(v:Val)(hv:v.ok)(hP:PT v=0->CL n t v):ag Tryz.prog aq 180 [t.pv,v.pv] (.bool (accB n t v)):=by
 have hc:=MB v hv
 simp only[accB]
 generalize PT v=z at hc hP ⊢
 by_cases hz:z=0
 ·have hh:=Jh n t v (hP hz)
  subst hz
  generalize eo n t v=b at hh ⊢
  obtain⟨k,m,M,s,w,e,f⟩:=t
  obtain⟨vk,vn,vs,vt,vl,vf⟩:=v
  simp only[Typ.pv_mk,Val.pv_mk] at hc hh
  refine ag.intro NA.2 (by simp[NA]) ?_
  simp(disch:=try exact dI) only[NA,Typ.pv_mk,Val.pv_mk,push_cast,seval]
  refine ab.pure hc rfl ?_
  refine zgZ ?_
  refine ab.pure hh rfl ?_
  exact qsZ
 ·rw[decide_eq_false hz,Bool.false_and]
  obtain⟨k,m,M,s,w,e,f⟩:=t
  obtain⟨vk,vn,vs,vt,vl,vf⟩:=v
  simp only[Typ.pv_mk,Val.pv_mk] at hc
  refine ag.intro NA.2 (by simp[NA]) ?_
  simp(disch:=try exact dI) only[NA,Typ.pv_mk,Val.pv_mk,push_cast,seval]
  refine ab.pure hc rfl ?_
  simp(disch:=try exact dI) only[hz,push_cast,seval]
noncomputable def lx (n:Nat):TFd->Bool
 | .mk _ _ nd t d=>decide (nd=3)&&!(CH (accB n t) d)
def tyV:Nat->Typ->Prop
 | 0,_=>False
 | n+1,.mk k m M s w e f=>dM (.mk k m M s w e f)=0/\(k=8->∀ x∈e,tyV n x)/\(k=9\/k=10->∀ g∈f,tyV n g.typ/\(k=9->lx n g=false))
theorem bh {k m M s:Int}{w:List (List UInt8)}{e:List Typ}{f:List TFd}(h:dM (.mk k m M s w e f)=0):inB k 1 10=true/\dC k m M s w=0/\cH k e.length f.length=0/\bZ k [] f=0:=by
 rw[dM] at h
 by_cases a:inB k 1 10=false
 ·rw[if_pos a] at h;exact absurd h (by decide)
 rw[if_neg a] at h
 by_cases b:fG k (.mk k m M s w e f)=true
 ·rw[if_pos b] at h;exact absurd h (by decide)
 rw[if_neg b] at h
 by_cases c:dC k m M s w=0
 ·rw[if_neg (fun hh=>hh c)] at h
  by_cases d:cH k e.length f.length=0
  ·rw[if_neg (fun hh=>hh d)] at h
   exact⟨by simpa using a,c,d,h⟩
  ·rw[if_pos d] at h;exact absurd h d
 ·rw[if_pos c] at h;exact absurd h c
theorem BD {k m M s:Int}{w:List (List UInt8)}{e:List Typ}{f:List TFd}(h:dM (.mk k m M s w e f)=0)(hk:¬ k=3):s=0:=by
 rw[dM] at h
 by_cases a:inB k 1 10=false
 ·rw[if_pos a] at h;exact absurd h (by decide)
 rw[if_neg a] at h
 by_cases b:fG k (.mk k m M s w e f)=true
 ·rw[if_pos b] at h;exact absurd h (by decide)
 have b':fG k (.mk k m M s w e f)=false:=by simpa using b
 simp only[fG,aK,Bool.or_eq_false_iff] at b'
 obtain⟨_,b2,_⟩:=b'
 rw[decide_eq_false hk] at b2
 simpa using b2
theorem tr {m M s:Int}{w:List (List UInt8)}{e:List Typ}{f:List TFd}(h:dM (.mk 8 m M s w e f)=0):∃ x,e=[x]:=by
 have h1:=(bh h).2.2.1
 match e,h1 with
 | [],h1=>simp[cH] at h1
 | [x],_=>exact⟨x,rfl⟩
 | x::y::r,h1=>simp[cH] at h1
theorem lI {t:Typ}{nm:List UInt8}{g:TFd}(h:ck t nm=some g):(t.kind=9\/t.kind=10)/\g∈t.fields:=by
 unfold ck at h
 split at h
 ·rename_i hk;exact⟨hk,List.mem_of_find?_eq_some h⟩
 ·cases h
theorem FN {v:Val}(hk:v.kind=10)(h:bJ v=0):∃ y r,v.lst=y::r:=by
 obtain⟨vk,vn,vs,vt,vl,vf⟩:=v
 simp only[Val.kind] at hk
 subst hk
 cases vl with
 | cons y r=>exact⟨y,r,rfl⟩
 | nil=>
   simp only[bJ,show ¬ (10:Int)=1 by decide,show ¬ (10:Int)=2 by decide,show ¬ (10:Int)=3 by decide,show ¬ (10:Int)=4 by decide,show ¬ (10:Int)=5 by decide,show ¬ (10:Int)=6 by decide,show ¬ (10:Int)=7 by decide,show ¬ (10:Int)=8 by decide,show ¬ (10:Int)=9 by decide,if_false,if_true,List.length_nil] at h
   split at h<;>exact absurd h (by decide)
theorem np:∀ (n m:Nat) (t:Typ) (v:Val),tyV n t->t.ok->JZ m v->v.ok->CL n t v
 | 0,_,_,_,h,_,_,_=>h.elim
 | _+1,0,_,_,_,_,h,_=>h.elim
 | n+1,m+1,t,v,h1,h2,h3,h4=>by
   have hv:=h4
   obtain⟨⟨hr,hu⟩,hp⟩:=h3
   obtain⟨N,hsm⟩:=mN t h2
   have hk8:v.kind=8->∀ y∈v.lst,JZ m y:=fun hk y hy=>hp y (by rw[ig (.inl hk)];exact hy)
   have hk10:v.kind=10->∀ y∈v.lst,JZ m y:=fun hk y hy=>hp y (by rw[ig (.inr hk)];exact hy)
   have hk9:v.kind=9->∀ x∈v.fields,JZ m x.value:=fun hk x hx=>hp x.value (by rw[lR hk];exact List.mem_map_of_mem hx)
   obtain⟨k,mn,M,s,w,e,f⟩:=t
   simp only[tyV] at h1
   rw[Typ.ok_mk] at h2
   obtain⟨ho,ht8,ht9⟩:=h1
   obtain⟨_,_,_,_,t1,_,_,t5,_,t6⟩:=h2
   have hvl:v.lst.length<=9000000000000/\v.fields.length<=9000000000000/\(∀ x∈v.lst,x.ok)/\∀ x∈v.fields,x.value.ok:=by
    obtain⟨vk,vn,vs,vt,vl,vf⟩:=v
    rw[Val.ok_mk] at h4
    obtain⟨_,_,_,_,q1,q2,q3,q4⟩:=h4
    refine⟨by simp only[Val.lst];omega,by simp only[Val.fields];omega,q2,fun x hx=>?_⟩
    have:=q4 x hx
    obtain⟨nm,y⟩:=x
    rw[Fld.ok_mk] at this
    exact this.2
   obtain⟨hvl,hvf,hl,hf⟩:=hvl
   have hgt:∀ g∈f,g.typ.ok:=fun g hg=>by
    have:=t6 g hg
    obtain⟨a1,a2,a3,a4,a5⟩:=g
    rw[TFd.ok_mk] at this
    exact this.2.2.2.1
   have hkk:inB k 1 10=true:=(bh ho).1
   refine⟨⟨N,hsm⟩,by simpa[inB,Typ.kind] using hkk,by simp only[Typ.words];omega,hv,hvl,hvf,fun hk=>⟨?_,?_,?_,?_⟩⟩
   ·intro h2
    simp only[Typ.kind] at h2 hk
    have hs:=BD ho (by omega)
    obtain⟨vk,vn,vs,vt,vl,vf⟩:=v
    simp only[Val.kind] at hk
    subst hk
    simp only[eN,Bool.and_eq_true,Bool.or_eq_true,decide_eq_true_eq] at hu
    simp only[Val.scale,Typ.scale]
    omega
   ·intro h8 y hy
    simp only[Typ.kind] at h8 hk
    subst h8
    obtain⟨x,rfl⟩:=tr ho
    exact⟨x,[],rfl,np n m x y (ht8 rfl x (List.mem_cons_self ..)) (t5 x (List.mem_cons_self ..)) (hk8 hk y hy) (hl y hy)⟩
   ·intro h10 g hg
    simp only[Typ.kind] at h10 hk
    subst h10
    obtain⟨_,hgm⟩:=lI hg
    simp only[Typ.fields] at hgm
    obtain⟨y,r,hy⟩:=FN hk hr
    have hym:y∈v.lst:=by rw[hy];exact List.mem_cons_self ..
    exact⟨y,r,hy,np n m g.typ y (ht9 (.inr rfl) g hgm).1 (hgt g hgm) (hk10 hk y hym) (hl y hym)⟩
   ·intro h9 x hx g hg
    simp only[Typ.kind] at h9 hk
    subst h9
    obtain⟨_,hgm⟩:=lI hg
    simp only[Typ.fields] at hgm
    exact np n m g.typ x.value (ht9 (.inl rfl) g hgm).1 (hgt g hgm) (hk9 hk x hx) (hf x hx)
def iy (rec:Int->Typ->Int×Int):Int->List Typ->Int×Int
 | l,[]=>(0,l)
 | l,t::r=>if (rec l t).1=0 then iy rec (rec l t).2 r else rec l t
noncomputable def fY (n:Nat)(rec:Int->Typ->Int×Int):Int->List TFd->Int×Int
 | l,[]=>(0,l)
 | l,g::r=>if (rec l g.typ).1=0 then (if lx n g=true then (18,(rec l g.typ).2) else fY n rec (rec l g.typ).2 r) else rec l g.typ
noncomputable def fH (δ:Int):Nat->Int->Typ->Int×Int
 | 0,l,_=>if l=0 then (9,0) else (23,l - δ)
 | n+1,l,.mk k m M s w e f=>if l=0 then (9,0) else if dM (.mk k m M s w e f)=0 then (if k=9 then fY n (fH δ n) (l - 1) f else iy (fH δ n) (l - 1) (cl (.mk k m M s w e f))) else (dM (.mk k m M s w e f),l - 1)
theorem wR {rec:Int->Typ->Int×Int}{ps:List Typ}{i:Nat}{t:Typ}(h:ps[i]? = some t)(l:Int):iy rec l (ps.drop i)=if (rec l t).1=0 then iy rec (rec l t).2 (ps.drop (i+1)) else rec l t:=by
 have hi:=(List.getElem?_eq_some_iff.1 h).1
 have he:ps[i]=t:=(List.getElem?_eq_some_iff.1 h).2
 rw[List.drop_eq_getElem_cons hi,he,iy]
theorem wY {n:Nat}{rec:Int->Typ->Int×Int}{ps:List TFd}{i:Nat}{g:TFd}(h:ps[i]? = some g)(l:Int):fY n rec l (ps.drop i)=if (rec l g.typ).1=0 then (if lx n g=true then (18,(rec l g.typ).2) else fY n rec (rec l g.typ).2 (ps.drop (i+1))) else rec l g.typ:=by
 have hi:=(List.getElem?_eq_some_iff.1 h).1
 have he:ps[i]=g:=(List.getElem?_eq_some_iff.1 h).2
 rw[List.drop_eq_getElem_cons hi,he,fY]
theorem ku {rec:Int->Typ->Int×Int}:∀ (ps:List Typ) (l:Int),(iy rec l ps).1=0->∀ t∈ps,∃ l,(rec l t).1=0
 | [],_,_,_,h=>by cases h
 | x::r,l,h,t,ht=>by
   rw[iy] at h
   by_cases h0:(rec l x).1=0
   ·rw[if_pos h0] at h
    rcases List.mem_cons.1 ht with rfl | ht
    ·exact⟨l,h0⟩
    ·exact ku r _ h t ht
   ·rw[if_neg h0] at h;exact absurd h h0
theorem pw {n:Nat}{rec:Int->Typ->Int×Int}:∀ (ps:List TFd) (l:Int),(fY n rec l ps).1=0->∀ g∈ps,∃ l,(rec l g.typ).1=0
 | [],_,_,_,h=>by cases h
 | x::r,l,h,t,ht=>by
   rw[fY] at h
   by_cases h0:(rec l x.typ).1=0
   ·rw[if_pos h0] at h
    by_cases hd:lx n x=true
    ·rw[if_pos hd] at h;exact absurd h (show ¬ (18:Int)=0 by decide)
    ·rw[if_neg hd] at h
     rcases List.mem_cons.1 ht with rfl | ht
     ·exact⟨l,h0⟩
     ·exact pw r _ h t ht
   ·rw[if_neg h0] at h;exact absurd h h0
theorem mh {n:Nat}{rec:Int->Typ->Int×Int}:∀ (ps:List TFd) (l:Int),(fY n rec l ps).1=0->∀ g∈ps,lx n g=false
 | [],_,_,_,h=>by cases h
 | x::r,l,h,t,ht=>by
   rw[fY] at h
   by_cases h0:(rec l x.typ).1=0
   ·rw[if_pos h0] at h
    by_cases hd:lx n x=true
    ·rw[if_pos hd] at h;exact absurd h (show ¬ (18:Int)=0 by decide)
    ·rw[if_neg hd] at h
     rcases List.mem_cons.1 ht with rfl | ht
     ·simpa using hd
     ·exact mh r _ h t ht
   ·rw[if_neg h0] at h;exact absurd h h0
theorem iI {δ:Int}:∀ (n:Nat) (l:Int) (t:Typ),(fH δ n l t).1=0->tyV n t
 | 0,l,_,h=>by
   rw[fH] at h
   split at h<;>cases h
 | n+1,l,.mk k m M s w e f,h=>by
   rw[fH] at h
   by_cases hl:l=0
   ·rw[if_pos hl] at h;cases h
   rw[if_neg hl] at h
   by_cases ho:dM (.mk k m M s w e f)=0
   ·rw[if_pos ho] at h
    refine⟨ho,fun h8 x hx=>?_,fun h9 g hg=>?_⟩
    ·subst h8
     rw[if_neg (by decide)] at h
     obtain⟨l',hl'⟩:=ku _ _ h x hx
     exact iI n l' x hl'
    ·by_cases hk:k=9
     ·subst hk
      rw[if_pos rfl] at h
      obtain⟨l',hl'⟩:=pw _ _ h g hg
      exact⟨iI n l' g.typ hl',fun _=>mh _ _ h g hg⟩
     ·have hk10:k=10:=by omega
      subst hk10
      rw[if_neg (by decide)] at h
      obtain⟨l',hl'⟩:=ku _ _ h g.typ (List.mem_map_of_mem hg)
      exact⟨iI n l' g.typ hl',fun h=>absurd h hk⟩
   ·rw[if_neg ho] at h;exact absurd h ho
def EH (rec:Int->Typ->Int×Int):Prop:=∀ t l,0<=l->l<=4096->0<=(rec l t).2/\(rec l t).2<=4096
theorem mb {rec:Int->Typ->Int×Int}(h:EH rec):∀ (ps:List Typ) (l:Int),0<=l->l<=4096->0<=(iy rec l ps).2/\(iy rec l ps).2<=4096
 | [],l,h1,h2=>⟨h1,h2⟩
 | x::r,l,h1,h2=>by
   have h3:=h x l h1 h2
   rw[iy]
   split
   ·exact mb h r _ h3.1 h3.2
   ·exact h3
theorem mg {n:Nat}{rec:Int->Typ->Int×Int}(h:EH rec):∀ (ps:List TFd) (l:Int),0<=l->l<=4096->0<=(fY n rec l ps).2/\(fY n rec l ps).2<=4096
 | [],l,h1,h2=>⟨h1,h2⟩
 | x::r,l,h1,h2=>by
   have h3:=h x.typ l h1 h2
   rw[fY]
   split
   ·split
    ·exact h3
    ·exact mg h r _ h3.1 h3.2
   ·exact h3
theorem gL {δ:Int}(hδ:0<=δ/\δ<=1):∀ n,EH (fH δ n)
 | 0,t,l,h1,h2=>by
   rw[fH]
   split
   ·simp
   ·simp only;omega
 | n+1,.mk k m M s w e f,l,h1,h2=>by
   rw[fH]
   split
   ·simp
   split
   ·split
    ·exact mg (gL hδ n) f (l - 1) (by omega) (by omega)
    ·exact mb (gL hδ n) _ (l - 1) (by omega) (by omega)
   ·simp only;omega
theorem bY {k:Int}:∀ (f b:List TFd),bZ k b f=0->∀ g∈f,∃ b,cC k b g=0
 | [],_,_,_,h=>by cases h
 | x::r,b,h,g,hg=>by
   rw[bZ] at h
   by_cases h0:cC k b x=0
   ·rw[if_pos h0] at h
    rcases List.mem_cons.1 hg with rfl | hg
    ·exact⟨b,h0⟩
    ·exact bY r _ h g hg
   ·rw[if_neg h0] at h;exact absurd h h0
theorem ml {k:Int}{b:List TFd}{n:Int}{nm:List UInt8}{t:Typ}{d:List Val}(h:cC k b (.mk n nm 3 t d)=0):∃ x r,d=x::r:=by
 cases d with
 | cons x r=>exact⟨x,r,rfl⟩
 | nil=>
   simp only[cC,List.length_nil,true_and,if_true] at h
   repeat' split at h
   all_goals first | exact absurd h (by decide) | skip
end Go.Proofs.YtbojpfpliibfbaaGreatDoor
