/- A part. -/
import Derived.Test.YtngchmkoadaecaaGreatDoorPbJS9
set_option linter.unusedVariables false
set_option linter.unusedSimpArgs false
set_option maxHeartbeats 16000000
set_option maxRecDepth 100000
open Option renaming isSome_none->Yj,getD_some->XK,isSome_some->X8,map_some->Xm
open List renaming getElem?_eq_some_iff->WU,drop_eq_getElem_cons->XP,mem_cons->Xs,sizeOf_lt_of_mem->XS,length_nil->Xn,mem_cons_self->X6
open Bool renaming false_and->XR,true_and->Xv
namespace Go.Proofs.YtngchmkoadaecaaGreatDoor
open Go Go.Ab
attribute [local irreducible] vc
theorem DP (n:Nat)(ih:qp n)(m M s:Int)(w:List (List UInt8))(e:List Typ)(f:List TFd)(vn vs:Int)(vt:List UInt8)(vl:List Val)(vf:List Fld)(N:Nat)(hs:cb N (.mk 10 m M s w e f))
  (h:∀ g,cY (.mk 10 m M s w e f) vt=some g->∃ y r,vl=y::r/\DM n g.typ y):ap Tryz.prog aC 145 [(Typ.mk 10 m M s w e f).pv,(Val.mk 10 vn vs vt vl vf).pv] (.bool (eL (n+1) (.mk 10 m M s w e f) (.mk 10 vn vs vt vl vf))):=by
 have hc:=uL N _ vt hs
 rw[show eL (n+1) (.mk 10 m M s w e f) (.mk 10 vn vs vt vl vf)=Tx (eL n) vl (cY (.mk 10 m M s w e f) vt) by simp[eL,KL,Typ.kind,Val.kind,Val.lst,Val.text]]
 generalize cY (.mk 10 m M s w e f) vt=o at hc h ⊢
 simp only[WO] at hc
 cases o with
 | none=>
   simp only[tfR,Option.getD_none,Yj,lD,WJ,WO,ae,Tx] at hc ⊢
   refine ap.intro gC.2 (by simp[gC]) ?_
   simp(maxSteps:=9^7) (disch:=try exact dI) only[gC,WO,WQ,push_cast,seval]
   refine ab.pure hc rfl ?_
   simp(maxSteps:=9^7) (disch:=try exact dI) only[push_cast,seval]
 | some g=>
   obtain⟨y,r,rfl,hy⟩:=h g rfl
   have hh:=ih _ _ hy
   obtain⟨n',nm',nd',⟨k',m',M',s',w',e',f'⟩,d'⟩:=g
   simp only[TFd.typ,Tx,DI] at hh ⊢
   generalize eL n (.mk k' m' M' s' w' e' f') y=b at hh ⊢
   obtain⟨yk,yn,ys,yt,yl,yf⟩:=y
   simp only[tfR,XK,X8,WJ,WO,WQ,ae] at hc hh ⊢
   refine ap.intro gC.2 (by simp[gC]) ?_
   simp(maxSteps:=9^7) (disch:=try exact dI) only[gC,WO,WQ,cP,push_cast,seval]
   refine ab.pure hc rfl ?_
   simp(maxSteps:=9^7) (disch:=try exact dI) only[cP,WQ,push_cast,seval]
   refine ab.pure hh rfl ?_
   simp(maxSteps:=9^7) (disch:=try exact dI) only[push_cast,seval]
theorem sP (n:Nat)(k m M s:Int)(w:List (List UInt8))(e:List Typ)(f:List TFd)(vn vs:Int)(vt:List UInt8)(vl:List Val)(vf:List Fld)(h1:¬ (k=2\/k=6\/k=7\/k=3))(h4:¬ k=4)(h5:¬ k=5)(h8:¬ k=8)(h10:¬ k=10)(h9:¬ k=9):ap Tryz.prog aC 145 [(Typ.mk k m M s w e f).pv,(Val.mk k vn vs vt vl vf).pv] (.bool (eL (n+1) (.mk k m M s w e f) (.mk k vn vs vt vl vf))):=by
 rw[show eL (n+1) (.mk k m M s w e f) (.mk k vn vs vt vl vf)=true by simp[eL,KL,Typ.kind,Val.kind,h1,h4,h5,h8,h9,h10]]
 have a2:¬ k=2:=by omega
 have a6:¬ k=6:=by omega
 have a7:¬ k=7:=by omega
 have a3:¬ k=3:=by omega
 refine ap.intro gC.2 (by simp[gC]) ?_
 simp(maxSteps:=9^7) (disch:=try exact dI) only[gC,WO,WQ,push_cast,seval]
theorem J4 {α:Type}{p:α->Bool}{l:List α}{i:Nat}{x:α}(h:l[i]? = some x):(l.drop i).all p=(p x&&(l.drop (i+1)).all p):=by
 have hi:=(WU.1 h).1
 have he:l[i]=x:=(WU.1 h).2
 rw[XP hi,he,List.all_cons]
theorem I6 (n:Nat)(ih:qp n)(m M s:Int)(w:List (List UInt8))(e:List Typ)(f:List TFd)(vn vs:Int)(vt:List UInt8)(vl:List Val)(vf:List Fld)(N:Nat)(hs:cb N (.mk 9 m M s w e f))(hv:(Val.mk 9 vn vs vt vl vf).ok)(hvf:vf.length<=9000000000000)
  (h:∀ x∈vf,∀ g,cY (.mk 9 m M s w e f) x.name=some g->DM n g.typ x.value):ap Tryz.prog aC 145 [(Typ.mk 9 m M s w e f).pv,(Val.mk 9 vn vs vt vl vf).pv] (.bool (eL (n+1) (.mk 9 m M s w e f) (.mk 9 vn vs vt vl vf))):=by
 have hfl:f.length<=9000000000000:=by
  cases N with
  | zero=>exact hs.elim
  | succ N=>simp only[cb] at hs;have:=hs.2.2.1;omega
 have hfld:=fun nm=>uL N _ nm hs
 have hla:=zj f 164 [.eptr [(Val.mk 9 vn vs vt vl vf).pv] 0 0] (yv (.mk 9 vn vs vt vl vf)) (fun g _=>RP _ g hv rfl hvf) hfl
 rw[show eL (n+1) (.mk 9 m M s w e f) (.mk 9 vn vs vt vl vf)=((vf.all fun x=>Pz (eL n) x.value (cY (.mk 9 m M s w e f) x.name))&&!(f.any (yv (.mk 9 vn vs vt vl vf)))) by simp[eL,KL,Typ.kind,Val.kind,Val.fields,Typ.fields]]
 generalize f.any (yv (.mk 9 vn vs vt vl vf))=q at hla ⊢
 obtain⟨T,hT⟩:∃ T,T=cY (.mk 9 m M s w e f):=⟨_,rfl⟩
 rw[<- hT] at h ⊢
 have hfld:∀ nm,ap Tryz.prog aC 163 [(Typ.mk 9 m M s w e f).pv,.str nm] (tfR (T nm)):=fun nm=>by rw[hT];exact hfld nm
 clear hT
 simp only[WO,WQ] at hfld hla
 obtain⟨p,hp⟩:∃ p:Fld->Bool,p=fun x=>Pz (eL n) x.value (T x.name):=⟨_,rfl⟩
 rw[<- hp]
 obtain⟨R,hR⟩:∃ R,R=(vf.all p&&!q):=⟨_,rfl⟩
 rw[<- hR]
 refine ap.intro gC.2 (by simp[gC]) ?_
 simp(maxSteps:=9^7) (disch:=try exact dI) only[gC,WO,WQ,push_cast,seval]
 refine au ([]) (fun i:Nat=>[(107,.pv (.int .i64 (i:Int)))]) (fun _=>[]) (fun i=>i<=vf.length/\R=((vf.drop i).all p&&!q)) (fun i=>vf.length - i) (0) ?_;intro e0 σ0 n0 h0;simp(maxSteps:=9^7) (disch:=try exact dI) only[push_cast,seval] at h0;obtain⟨rfl,rfl,rfl⟩:=h0;refine⟨?_,?_,?_⟩
 ·simp(maxSteps:=9^7) (disch:=try exact dI) only[push_cast,seval]
 ·exact⟨by omega,by simpa using hR⟩
 rintro i ⟨hi,hr⟩
 by_cases hlt:i<vf.length
 ·have hltI:(i:Int)<(vf.length:Int):=by omega
  obtain⟨x,hx⟩:∃ x,vf[i]? = some x:=⟨_,List.getElem?_eq_getElem hlt⟩
  rw[J4 hx] at hr
  have hph:=h x (List.mem_of_getElem? hx)
  have hc:=hfld x.name
  rw[show p x=Pz (eL n) x.value (T x.name) by rw[hp]] at hr
  generalize T x.name=o at hph hc hr
  obtain⟨xn,y⟩:=x
  simp only[Fld.name,Fld.value] at hph hc hr
  cases o with
  | none=>
    simp only[Pz,XR] at hr
    subst hr
    obtain⟨yk,yn,ys,yt,yl,yf⟩:=y
    simp only[tfR,Option.getD_none,Yj,lD,WJ,WO,ae] at hc
    simp(maxSteps:=9^7) (disch:=try exact dI) only[hx,Xm,Wq,WQ,ae,push_cast,seval]
    refine ab.pure hc rfl ?_
    simp(maxSteps:=9^7) (disch:=try exact dI) only[push_cast,seval]
  | some g=>
    have hh:=ih _ _ (hph g rfl)
    simp only[Pz] at hr
    obtain⟨n',nm',nd',⟨k',m',M',s',w',e',f'⟩,d'⟩:=g
    simp only[TFd.typ] at hh hr
    generalize eL n (.mk k' m' M' s' w' e' f') y=b at hh hr
    obtain⟨yk,yn,ys,yt,yl,yf⟩:=y
    simp only[tfR,XK,X8,WJ,WO,WQ,ae] at hc hh
    cases b with
    | false=>
      simp only[XR] at hr
      subst hr
      simp(maxSteps:=9^7) (disch:=try exact dI) only[hx,Xm,Wq,WQ,ae,push_cast,seval]
      refine ab.pure hc rfl ?_
      simp(maxSteps:=9^7) (disch:=try exact dI) only[push_cast,seval]
      refine ab.pure hh rfl ?_
      simp(maxSteps:=9^7) (disch:=try exact dI) only[push_cast,seval]
    | true=>
      rw[Xv] at hr
      simp(maxSteps:=9^7) (disch:=try exact dI) only[hx,Xm,Wq,WQ,ae,push_cast,seval]
      refine ab.pure hc rfl ?_
      simp(maxSteps:=9^7) (disch:=try exact dI) only[push_cast,seval]
      refine ab.pure hh rfl ?_
      simp(maxSteps:=9^7) (disch:=try exact dI) only[push_cast,seval]
      exact⟨i+1,aJ qsZ,⟨by omega,hr⟩,by omega⟩
 ·obtain rfl:i=vf.length:=by omega
  rw[List.drop_length,List.all_nil,Xv] at hr
  subst hr
  simp(maxSteps:=9^7) (disch:=try exact dI) only[Int.lt_irrefl,push_cast,seval]
  refine ab.pure hla rfl ?_
  simp(maxSteps:=9^7) (disch:=try exact dI) only[push_cast,seval]
theorem KN:∀ n,qp n
 | 0=>fun _ _ h=>h.elim
 | n+1=>fun t v h=>by
   have ih:=KN n
   simp only[DM] at h
   obtain⟨⟨N,hs⟩,_,hw,hv,hl,hf,h⟩:=h
   by_cases hk:v.kind=t.kind
   ·have h:=h hk
    obtain⟨k,m,M,s,w,e,f⟩:=t
    obtain⟨vk,vn,vs,vt,vl,vf⟩:=v
    simp only[Val.kind,Typ.kind,Typ.words,Val.lst,Val.fields,Val.text,Typ.elem] at hk h hw hl hf
    subst hk
    obtain⟨_,h8,h10,h9⟩:=h
    by_cases h1:vk=2\/vk=6\/vk=7\/vk=3
    ·exact yF n _ _ _ _ _ _ _ _ _ _ _ _ h1
    by_cases h4:vk=4
    ·subst h4;exact I9 n _ _ _ _ _ _ _ _ _ _ _ hw
    by_cases h5:vk=5
    ·subst h5;exact I8 n _ _ _ _ _ _ _ _ _ _ _
    by_cases h8':vk=8
    ·subst h8';exact I7 n ih _ _ _ _ _ _ _ _ _ _ _ hl (h8 rfl)
    by_cases h10':vk=10
    ·subst h10';exact DP n ih _ _ _ _ _ _ _ _ _ _ _ N hs (h10 rfl)
    by_cases h9':vk=9
    ·subst h9';exact I6 n ih _ _ _ _ _ _ _ _ _ _ _ N hs hv hf (h9 rfl)
    exact sP n _ _ _ _ _ _ _ _ _ _ _ _ h1 h4 h5 h8' h10' h9'
   ·exact DO n t v hk
theorem gp:∀ (n:Nat) (t:Typ),cb n t->cb (n+1) t
 | 0,_,h=>h.elim
 | n+1,.mk k m M s w e f,h=>by
   obtain⟨h1,h2,h3,h4,h5⟩:=h
   exact⟨h1,h2,h3,fun x hx=>gp n x (h4 x hx),fun g hg=>⟨(h5 g hg).1,(h5 g hg).2.1,gp n g.typ (h5 g hg).2.2⟩⟩
theorem gD {n m:Nat}(h:n<=m){t:Typ}(ht:cb n t):cb m t:=by
 induction h with
 | refl=>exact ht
 | step _ ih=>exact gp _ _ ih
theorem jN {α:Type}(g:α->Typ):∀ l:List α,(∀ x∈l,∃ n,cb n (g x))->∃ n,∀ x∈l,cb n (g x)
 | [],_=>⟨0,by simp⟩
 | x::r,h=>by
   obtain⟨n,hn⟩:=h x (by simp)
   obtain⟨m,hm⟩:=jN g r fun y hy=>h y (List.mem_cons_of_mem _ hy)
   refine⟨max n m,fun y hy=>?_⟩
   rcases Xs.1 hy with rfl | hy
   ·exact gD (Nat.le_max_left _ _) hn
   ·exact gD (Nat.le_max_right _ _) (hm y hy)
theorem mM:∀ (t:Typ),t.ok->∃ n,cb n t
 | .mk k m M s w e f,h=>by
   rw[WN] at h
   obtain⟨_,_,_,_,h1,_,h2,h3,h4,h5⟩:=h
   have e1:∀ x∈e,∃ n,cb n x:=fun x hx=>mM x (h3 x hx)
   have f1:∀ g∈f,∃ n,cb n g.typ:=fun g hg=>by
    have hg':=h5 g hg
    obtain⟨a1,a2,a3,a4,a5⟩:=g
    rw[WI] at hg'
    exact mM a4 hg'.2.2.2.1
   obtain⟨a,ha⟩:=jN id e e1
   obtain⟨b,hb⟩:=jN TFd.typ f f1
   refine⟨max a b+1,h1,h2,h4,fun x hx=>gD (Nat.le_max_left _ _) (ha x hx),fun g hg=>?_⟩
   have hg':=h5 g hg
   have hgt:=gD (Nat.le_max_right a b) (hb g hg)
   obtain⟨a1,a2,a3,a4,a5⟩:=g
   rw[WI] at hg'
   exact⟨hg'.2.2.2.2.1,hg'.2.2.2.2.2,hgt⟩
termination_by t=>SizeOf.sizeOf t
decreasing_by
 all_goals simp_wf
 ·have:=XS hx;omega
 ·have:=XS hg
  simp only[TFd.mk.sizeOf_spec] at this
  omega
def Ly:Nat->Val->Prop
 | 0,_=>False
 | n+1,v=>(ct v=0/\e7 v=true)/\∀ x∈dj v,Ly n x
theorem u9:∀ (xs:List (Int×Val)) (i:Nat),qJ i xs=0->∀ q∈xs,∃ j,bI j q=0
 | [],_,_,_,h=>by cases h
 | x::r,i,h,q,hq=>by
   rw[qJ] at h
   by_cases h0:bI i x=0
   ·rw[if_pos h0] at h
    rcases Xs.1 hq with rfl | hq
    ·exact⟨i,h0⟩
    ·exact u9 r (i+1) h q hq
   ·rw[if_neg h0] at h;exact absurd h h0
theorem wI {j:Nat}{q:Int×Val}(h:bI j q=0):ct q.2=0/\e7 q.2=true:=by
 unfold bI at h
 split at h
 ·cases h
 split at h
 ·cases h
 split at h
 ·cases h
 split at h
 ·cases h
 split at h
 ·cases h
 ·rename_i hu
  exact⟨h,by simpa using hu⟩
theorem AU:∀ (n:Nat) (lv:Int) (v:Val),lz n v->(∀ q∈ff n lv v,ct q.2=0/\e7 q.2=true)->Ly n v
 | 0,_,_,hd,_=>hd.elim
 | n+1,lv,v,hd,h=>by
   simp only[ff,Xs,List.mem_flatMap] at h
   refine⟨h (lv,v) (.inl rfl),fun x hx=>AU n (Go.RowKit.wrap64 (lv+1)) x (hd x hx) fun q hq=>h q (.inr ⟨x,hx,hq⟩)⟩
theorem Gi {n:Nat}{v:Val}(hd:lz n v)(h:qJ 0 (ff n 1 v)=0):Ly n v:=
 AU n 1 v hd fun q hq=>by obtain⟨j,hj⟩:=u9 _ _ h q hq;exact wI hj
noncomputable def accB (n:Nat)(t:Typ)(v:Val):Bool:=decide (RU v=0)&&eL n t v
theorem Ag (n:Nat)(t:Typ)(v:Val)(hv:v.ok)(hP:RU v=0->DM n t v):ap Tryz.prog aC 132 [t.pv,v.pv] (.bool (accB n t v)):=by
 have hc:=ON v hv
 simp only[accB]
 generalize RU v=z at hc hP ⊢
 by_cases hz:z=0
 ·have hh:=KN n t v (hP hz)
  subst hz
  generalize eL n t v=b at hh ⊢
  obtain⟨k,m,M,s,w,e,f⟩:=t
  obtain⟨vk,vn,vs,vt,vl,vf⟩:=v
  simp only[WO,WQ] at hc hh
  refine ap.intro PM.2 (by simp[PM]) ?_
  simp(maxSteps:=9^7) (disch:=try exact dI) only[PM,WO,WQ,push_cast,seval]
  refine ab.pure hc rfl ?_
  simp(maxSteps:=9^7) (disch:=try exact dI) only[push_cast,seval]
  refine ab.pure hh rfl ?_
  simp(maxSteps:=9^7) (disch:=try exact dI) only[push_cast,seval]
 ·rw[decide_eq_false hz,XR]
  obtain⟨k,m,M,s,w,e,f⟩:=t
  obtain⟨vk,vn,vs,vt,vl,vf⟩:=v
  simp only[WO,WQ] at hc
  refine ap.intro PM.2 (by simp[PM]) ?_
  simp(maxSteps:=9^7) (disch:=try exact dI) only[PM,WO,WQ,push_cast,seval]
  refine ab.pure hc rfl ?_
  simp(maxSteps:=9^7) (disch:=try exact dI) only[hz,push_cast,seval]
noncomputable def ly (n:Nat):TFd->Bool
 | .mk _ _ nd t d=>decide (nd=3)&&!(DI (accB n t) d)
def tyV:Nat->Typ->Prop
 | 0,_=>False
 | n+1,.mk k m M s w e f=>lf (.mk k m M s w e f)=0/\(k=8->∀ x∈e,tyV n x)/\(k=9\/k=10->∀ g∈f,tyV n g.typ/\(k=9->ly n g=false))
theorem eH {k m M s:Int}{w:List (List UInt8)}{e:List Typ}{f:List TFd}(h:lf (.mk k m M s w e f)=0):inB k 1 10=true/\fA k m M s w=0/\dn k e.length f.length=0/\dF k [] f=0:=by
 rw[lf] at h
 by_cases a:inB k 1 10=false
 ·rw[if_pos a] at h;exact absurd h (by decide)
 rw[if_neg a] at h
 by_cases b:kv k (.mk k m M s w e f)=true
 ·rw[if_pos b] at h;exact absurd h (by decide)
 rw[if_neg b] at h
 by_cases c:fA k m M s w=0
 ·rw[if_neg (fun hh=>hh c)] at h
  by_cases d:dn k e.length f.length=0
  ·rw[if_neg (fun hh=>hh d)] at h
   exact⟨by simpa using a,c,d,h⟩
  ·rw[if_pos d] at h;exact absurd h d
 ·rw[if_pos c] at h;exact absurd h c
theorem Cw {k m M s:Int}{w:List (List UInt8)}{e:List Typ}{f:List TFd}(h:lf (.mk k m M s w e f)=0)(hk:¬ k=3):s=0:=by
 rw[lf] at h
 by_cases a:inB k 1 10=false
 ·rw[if_pos a] at h;exact absurd h (by decide)
 rw[if_neg a] at h
 by_cases b:kv k (.mk k m M s w e f)=true
 ·rw[if_pos b] at h;exact absurd h (by decide)
 have b':kv k (.mk k m M s w e f)=false:=by simpa using b
 simp only[kv,aO,Bool.or_eq_false_iff] at b'
 obtain⟨_,b2,_⟩:=b'
 rw[decide_eq_false hk] at b2
 simpa using b2
theorem uj {m M s:Int}{w:List (List UInt8)}{e:List Typ}{f:List TFd}(h:lf (.mk 8 m M s w e f)=0):∃ x,e=[x]:=by
 have h1:=(eH h).2.2.1
 match e,h1 with
 | [],h1=>simp[dn] at h1
 | [x],_=>exact⟨x,rfl⟩
 | x::y::r,h1=>simp[dn] at h1
theorem lH {t:Typ}{nm:List UInt8}{g:TFd}(h:cY t nm=some g):(t.kind=9\/t.kind=10)/\g∈t.fields:=by
 unfold cY at h
 split at h
 ·rename_i hk;exact⟨hk,List.mem_of_find?_eq_some h⟩
 ·cases h
theorem G1 {v:Val}(hk:v.kind=10)(h:ct v=0):∃ y r,v.lst=y::r:=by
 obtain⟨vk,vn,vs,vt,vl,vf⟩:=v
 simp only[Val.kind] at hk
 subst hk
 cases vl with
 | cons y r=>exact⟨y,r,rfl⟩
 | nil=>
   simp only[ct,show ¬ (10:Int)=1 by decide,show ¬ (10:Int)=2 by decide,show ¬ (10:Int)=3 by decide,show ¬ (10:Int)=4 by decide,show ¬ (10:Int)=5 by decide,show ¬ (10:Int)=6 by decide,show ¬ (10:Int)=7 by decide,show ¬ (10:Int)=8 by decide,show ¬ (10:Int)=9 by decide,if_false,if_true,Xn] at h
   split at h<;>exact absurd h (by decide)
theorem nj:∀ (n m:Nat) (t:Typ) (v:Val),tyV n t->t.ok->Ly m v->v.ok->DM n t v
 | 0,_,_,_,h,_,_,_=>h.elim
 | _+1,0,_,_,_,_,h,_=>h.elim
 | n+1,m+1,t,v,h1,h2,h3,h4=>by
   have hv:=h4
   obtain⟨⟨hr,hu⟩,hp⟩:=h3
   obtain⟨N,hsm⟩:=mM t h2
   have hk8:v.kind=8->∀ y∈v.lst,Ly m y:=fun hk y hy=>hp y (by rw[iv (.inl hk)];exact hy)
   have hk10:v.kind=10->∀ y∈v.lst,Ly m y:=fun hk y hy=>hp y (by rw[iv (.inr hk)];exact hy)
   have hk9:v.kind=9->∀ x∈v.fields,Ly m x.value:=fun hk x hx=>hp x.value (by rw[lS hk];exact List.mem_map_of_mem hx)
   obtain⟨k,mn,M,s,w,e,f⟩:=t
   simp only[tyV] at h1
   rw[WN] at h2
   obtain⟨ho,ht8,ht9⟩:=h1
   obtain⟨_,_,_,_,t1,_,_,t5,_,t6⟩:=h2
   have hvl:v.lst.length<=9000000000000/\v.fields.length<=9000000000000/\(∀ x∈v.lst,x.ok)/\∀ x∈v.fields,x.value.ok:=by
    obtain⟨vk,vn,vs,vt,vl,vf⟩:=v
    rw[WP] at h4
    obtain⟨_,_,_,_,q1,q2,q3,q4⟩:=h4
    refine⟨by simp only[Val.lst];omega,by simp only[Val.fields];omega,q2,fun x hx=>?_⟩
    have:=q4 x hx
    obtain⟨nm,y⟩:=x
    rw[Wp] at this
    exact this.2
   obtain⟨hvl,hvf,hl,hf⟩:=hvl
   have hgt:∀ g∈f,g.typ.ok:=fun g hg=>by
    have:=t6 g hg
    obtain⟨a1,a2,a3,a4,a5⟩:=g
    rw[WI] at this
    exact this.2.2.2.1
   have hkk:inB k 1 10=true:=(eH ho).1
   refine⟨⟨N,hsm⟩,by simpa[inB,Typ.kind] using hkk,by simp only[Typ.words];omega,hv,hvl,hvf,fun hk=>⟨?_,?_,?_,?_⟩⟩
   ·intro h2
    simp only[Typ.kind] at h2 hk
    have hs:=Cw ho (by omega)
    obtain⟨vk,vn,vs,vt,vl,vf⟩:=v
    simp only[Val.kind] at hk
    subst hk
    simp only[e7,Bool.and_eq_true,Bool.or_eq_true,decide_eq_true_eq] at hu
    simp only[Val.scale,Typ.scale]
    omega
   ·intro h8 y hy
    simp only[Typ.kind] at h8 hk
    subst h8
    obtain⟨x,rfl⟩:=uj ho
    exact⟨x,[],rfl,nj n m x y (ht8 rfl x (X6 ..)) (t5 x (X6 ..)) (hk8 hk y hy) (hl y hy)⟩
   ·intro h10 g hg
    simp only[Typ.kind] at h10 hk
    subst h10
    obtain⟨_,hgm⟩:=lH hg
    simp only[Typ.fields] at hgm
    obtain⟨y,r,hy⟩:=G1 hk hr
    have hym:y∈v.lst:=by rw[hy];exact X6 ..
    exact⟨y,r,hy,nj n m g.typ y (ht9 (.inr rfl) g hgm).1 (hgt g hgm) (hk10 hk y hym) (hl y hym)⟩
   ·intro h9 x hx g hg
    simp only[Typ.kind] at h9 hk
    subst h9
    obtain⟨_,hgm⟩:=lH hg
    simp only[Typ.fields] at hgm
    exact nj n m g.typ x.value (ht9 (.inl rfl) g hgm).1 (hgt g hgm) (hk9 hk x hx) (hf x hx)
def iE (rec:Int->Typ->Int×Int):Int->List Typ->Int×Int
 | l,[]=>(0,l)
 | l,t::r=>if (rec l t).1=0 then iE rec (rec l t).2 r else rec l t
noncomputable def gx (n:Nat)(rec:Int->Typ->Int×Int):Int->List TFd->Int×Int
 | l,[]=>(0,l)
 | l,g::r=>if (rec l g.typ).1=0 then (if ly n g=true then (18,(rec l g.typ).2) else gx n rec (rec l g.typ).2 r) else rec l g.typ
noncomputable def f6 (δ:Int):Nat->Int->Typ->Int×Int
 | 0,l,_=>if l=0 then (9,0) else (23,l - δ)
 | n+1,l,.mk k m M s w e f=>if l=0 then (9,0) else if lf (.mk k m M s w e f)=0 then (if k=9 then gx n (f6 δ n) (l - 1) f else iE (f6 δ n) (l - 1) (da (.mk k m M s w e f))) else (lf (.mk k m M s w e f),l - 1)
theorem yw {rec:Int->Typ->Int×Int}{ps:List Typ}{i:Nat}{t:Typ}(h:ps[i]? = some t)(l:Int):iE rec l (ps.drop i)=if (rec l t).1=0 then iE rec (rec l t).2 (ps.drop (i+1)) else rec l t:=by
 have hi:=(WU.1 h).1
 have he:ps[i]=t:=(WU.1 h).2
 rw[XP hi,he,iE]
theorem yG {n:Nat}{rec:Int->Typ->Int×Int}{ps:List TFd}{i:Nat}{g:TFd}(h:ps[i]? = some g)(l:Int):gx n rec l (ps.drop i)=if (rec l g.typ).1=0 then (if ly n g=true then (18,(rec l g.typ).2) else gx n rec (rec l g.typ).2 (ps.drop (i+1))) else rec l g.typ:=by
 have hi:=(WU.1 h).1
 have he:ps[i]=g:=(WU.1 h).2
 rw[XP hi,he,gx]
theorem ki {rec:Int->Typ->Int×Int}:∀ (ps:List Typ) (l:Int),(iE rec l ps).1=0->∀ t∈ps,∃ l,(rec l t).1=0
 | [],_,_,_,h=>by cases h
 | x::r,l,h,t,ht=>by
   rw[iE] at h
   by_cases h0:(rec l x).1=0
   ·rw[if_pos h0] at h
    rcases Xs.1 ht with rfl | ht
    ·exact⟨l,h0⟩
    ·exact ki r _ h t ht
   ·rw[if_neg h0] at h;exact absurd h h0
theorem px {n:Nat}{rec:Int->Typ->Int×Int}:∀ (ps:List TFd) (l:Int),(gx n rec l ps).1=0->∀ g∈ps,∃ l,(rec l g.typ).1=0
 | [],_,_,_,h=>by cases h
 | x::r,l,h,t,ht=>by
   rw[gx] at h
   by_cases h0:(rec l x.typ).1=0
   ·rw[if_pos h0] at h
    by_cases hd:ly n x=true
    ·rw[if_pos hd] at h;exact absurd h (show ¬ (18:Int)=0 by decide)
    ·rw[if_neg hd] at h
     rcases Xs.1 ht with rfl | ht
     ·exact⟨l,h0⟩
     ·exact px r _ h t ht
   ·rw[if_neg h0] at h;exact absurd h h0
theorem mh {n:Nat}{rec:Int->Typ->Int×Int}:∀ (ps:List TFd) (l:Int),(gx n rec l ps).1=0->∀ g∈ps,ly n g=false
 | [],_,_,_,h=>by cases h
 | x::r,l,h,t,ht=>by
   rw[gx] at h
   by_cases h0:(rec l x.typ).1=0
   ·rw[if_pos h0] at h
    by_cases hd:ly n x=true
    ·rw[if_pos hd] at h;exact absurd h (show ¬ (18:Int)=0 by decide)
    ·rw[if_neg hd] at h
     rcases Xs.1 ht with rfl | ht
     ·simpa using hd
     ·exact mh r _ h t ht
   ·rw[if_neg h0] at h;exact absurd h h0
theorem kO {δ:Int}:∀ (n:Nat) (l:Int) (t:Typ),(f6 δ n l t).1=0->tyV n t
 | 0,l,_,h=>by
   rw[f6] at h
   split at h<;>cases h
 | n+1,l,.mk k m M s w e f,h=>by
   rw[f6] at h
   by_cases hl:l=0
   ·rw[if_pos hl] at h;cases h
   rw[if_neg hl] at h
   by_cases ho:lf (.mk k m M s w e f)=0
   ·rw[if_pos ho] at h
    refine⟨ho,fun h8 x hx=>?_,fun h9 g hg=>?_⟩
    ·subst h8
     rw[if_neg (by decide)] at h
     obtain⟨l',hl'⟩:=ki _ _ h x hx
     exact kO n l' x hl'
    ·by_cases hk:k=9
     ·subst hk
      rw[if_pos rfl] at h
      obtain⟨l',hl'⟩:=px _ _ h g hg
      exact⟨kO n l' g.typ hl',fun _=>mh _ _ h g hg⟩
     ·have hk10:k=10:=by omega
      subst hk10
      rw[if_neg (by decide)] at h
      obtain⟨l',hl'⟩:=ki _ _ h g.typ (List.mem_map_of_mem hg)
      exact⟨kO n l' g.typ hl',fun h=>absurd h hk⟩
   ·rw[if_neg ho] at h;exact absurd h ho
def FA (rec:Int->Typ->Int×Int):Prop:=∀ t l,0<=l->l<=4096->0<=(rec l t).2/\(rec l t).2<=4096
theorem l8 {rec:Int->Typ->Int×Int}(h:FA rec):∀ (ps:List Typ) (l:Int),0<=l->l<=4096->0<=(iE rec l ps).2/\(iE rec l ps).2<=4096
 | [],l,h1,h2=>⟨h1,h2⟩
 | x::r,l,h1,h2=>by
   have h3:=h x l h1 h2
   rw[iE]
   split
   ·exact l8 h r _ h3.1 h3.2
   ·exact h3
theorem mg {n:Nat}{rec:Int->Typ->Int×Int}(h:FA rec):∀ (ps:List TFd) (l:Int),0<=l->l<=4096->0<=(gx n rec l ps).2/\(gx n rec l ps).2<=4096
 | [],l,h1,h2=>⟨h1,h2⟩
 | x::r,l,h1,h2=>by
   have h3:=h x.typ l h1 h2
   rw[gx]
   split
   ·split
    ·exact h3
    ·exact mg h r _ h3.1 h3.2
   ·exact h3
theorem g6 {δ:Int}(hδ:0<=δ/\δ<=1):∀ n,FA (f6 δ n)
 | 0,t,l,h1,h2=>by
   rw[f6]
   split
   ·simp
   ·simp only;omega
 | n+1,.mk k m M s w e f,l,h1,h2=>by
   rw[f6]
   split
   ·simp
   split
   ·split
    ·exact mg (g6 hδ n) f (l - 1) (by omega) (by omega)
    ·exact l8 (g6 hδ n) _ (l - 1) (by omega) (by omega)
   ·simp only;omega
theorem gz {k:Int}:∀ (f b:List TFd),dF k b f=0->∀ g∈f,∃ b,fx k b g=0
 | [],_,_,_,h=>by cases h
 | x::r,b,h,g,hg=>by
   rw[dF] at h
   by_cases h0:fx k b x=0
   ·rw[if_pos h0] at h
    rcases Xs.1 hg with rfl | hg
    ·exact⟨b,h0⟩
    ·exact gz r _ h g hg
   ·rw[if_neg h0] at h;exact absurd h h0
theorem mj {k:Int}{b:List TFd}{n:Int}{nm:List UInt8}{t:Typ}{d:List Val}(h:fx k b (.mk n nm 3 t d)=0):∃ x r,d=x::r:=by
 cases d with
 | cons x r=>exact⟨x,r,rfl⟩
 | nil=>
   simp only[fx,Xn,true_and,if_true] at h
   repeat' split at h
   all_goals first | exact absurd h (by decide) | skip
