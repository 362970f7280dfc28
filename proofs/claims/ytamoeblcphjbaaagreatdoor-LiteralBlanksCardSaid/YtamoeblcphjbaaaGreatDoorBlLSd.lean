/- A part. -/
import Derived.Test.YtamoeblcphjbaaaGreatDoorBlLWH
set_option linter.unusedVariables false
set_option linter.unusedSimpArgs false
set_option maxHeartbeats 16000000
set_option maxRecDepth 100000
open Option renaming getD_some->Vg,map_some->UD
open List renaming getElem?_eq_some_iff->Up,drop_eq_getElem_cons->Vb,getElem?_eq_getElem->Uo,mem_of_getElem?->Uw,drop_length->Vz,mem_cons->UX,length_nil->Ux,mem_cons_self->Vj
namespace Go.Proofs.YtamoeblcphjbaaaGreatDoor
open Go Go.Ab
attribute [local irreducible] vc
theorem Df (n:Nat)(ih:rG n)(m M s:Int)(w:List (List UInt8))(e:List Typ)(f:List TFd)(vn vs:Int)(vt:List UInt8)(vl:List Val)(vf:List Fld)(N:Nat)(hs:bS N (.mk 10 m M s w e f))
  (h:∀ g,dd (.mk 10 m M s w e f) vt=some g->∃ y r,vl=y::r/\Dd n g.typ y):au Tryz.prog aH 199 [(Typ.mk 10 m M s w e f).pv,(Val.mk 10 vn vs vt vl vf).pv] (.bool (e7 (n+1) (.mk 10 m M s w e f) (.mk 10 vn vs vt vl vf))):=by
 have hc:=vQ N _ vt hs
 rw[show e7 (n+1) (.mk 10 m M s w e f) (.mk 10 vn vs vt vl vf)=QX (e7 n) vl (dd (.mk 10 m M s w e f) vt) by simp[e7,Jo,Typ.kind,Val.kind,Val.lst,Val.text]]
 generalize dd (.mk 10 m M s w e f) vt=o at hc h ⊢
 simp only[Ul] at hc
 cases o with
 | none=>
   simp only[tfR,Option.getD_none,Option.isSome_none,mS,Ue,Ul,aw,QX] at hc ⊢
   refine au.intro g8.2 (by simp[g8]) ?_
   simp(disch:=try exact dI) only[g8,Ul,Un,push_cast,seval]
   refine ae.pure hc rfl ?_
   exact qsZ
 | some g=>
   obtain⟨y,r,rfl,hy⟩:=h g rfl
   have hh:=ih _ _ hy
   obtain⟨n',nm',nd',⟨k',m',M',s',w',e',f'⟩,d'⟩:=g
   simp only[TFd.typ,QX,C9] at hh ⊢
   generalize e7 n (.mk k' m' M' s' w' e' f') y=b at hh ⊢
   obtain⟨yk,yn,ys,yt,yl,yf⟩:=y
   simp only[tfR,Vg,Option.isSome_some,Ue,Ul,Un,aw] at hc hh ⊢
   refine au.intro g8.2 (by simp[g8]) ?_
   simp(disch:=try exact dI) only[g8,Ul,Un,aL,push_cast,seval]
   refine ae.pure hc rfl ?_
   simp(disch:=try exact dI) only[aL,Un,push_cast,seval]
   refine ae.pure hh rfl ?_
   exact qsZ
theorem tk (n:Nat)(k m M s:Int)(w:List (List UInt8))(e:List Typ)(f:List TFd)(vn vs:Int)(vt:List UInt8)(vl:List Val)(vf:List Fld)(h1:¬ (k=2\/k=6\/k=7\/k=3))(h4:¬ k=4)(h5:¬ k=5)(h8:¬ k=8)(h10:¬ k=10)(h9:¬ k=9):au Tryz.prog aH 199 [(Typ.mk k m M s w e f).pv,(Val.mk k vn vs vt vl vf).pv] (.bool (e7 (n+1) (.mk k m M s w e f) (.mk k vn vs vt vl vf))):=by
 rw[show e7 (n+1) (.mk k m M s w e f) (.mk k vn vs vt vl vf)=true by simp[e7,Jo,Typ.kind,Val.kind,h1,h4,h5,h8,h9,h10]]
 have a2:¬ k=2:=by omega
 have a6:¬ k=6:=by omega
 have a7:¬ k=7:=by omega
 have a3:¬ k=3:=by omega
 refine au.intro g8.2 (by simp[g8]) ?_
 simp(disch:=try exact dI) only[g8,Ul,Un,push_cast,seval]
theorem Ih {α:Type}{p:α->Bool}{l:List α}{i:Nat}{x:α}(h:l[i]? = some x):(l.drop i).all p=(p x&&(l.drop (i+1)).all p):=by
 have hi:=(Up.1 h).1
 have he:l[i]=x:=(Up.1 h).2
 rw[Vb hi,he,List.all_cons]
theorem Hp (n:Nat)(ih:rG n)(m M s:Int)(w:List (List UInt8))(e:List Typ)(f:List TFd)(vn vs:Int)(vt:List UInt8)(vl:List Val)(vf:List Fld)(N:Nat)(hs:bS N (.mk 9 m M s w e f))(hv:(Val.mk 9 vn vs vt vl vf).ok)(hvf:vf.length<=9000000000000)
  (h:∀ x∈vf,∀ g,dd (.mk 9 m M s w e f) x.name=some g->Dd n g.typ x.value):au Tryz.prog aH 199 [(Typ.mk 9 m M s w e f).pv,(Val.mk 9 vn vs vt vl vf).pv] (.bool (e7 (n+1) (.mk 9 m M s w e f) (.mk 9 vn vs vt vl vf))):=by
 have hfl:f.length<=9000000000000:=by
  cases N with
  | zero=>exact hs.elim
  | succ N=>simp only[bS] at hs;have:=hs.2.2.1;omega
 have hfld:=fun nm=>vQ N _ nm hs
 have hla:=yG f 231 [.eptr [(Val.mk 9 vn vs vt vl vf).pv] 0 0] (x7 (.mk 9 vn vs vt vl vf)) (fun g _=>P9 _ g hv rfl hvf) hfl
 rw[show e7 (n+1) (.mk 9 m M s w e f) (.mk 9 vn vs vt vl vf)=((vf.all fun x=>NB (e7 n) x.value (dd (.mk 9 m M s w e f) x.name))&&!(f.any (x7 (.mk 9 vn vs vt vl vf)))) by simp[e7,Jo,Typ.kind,Val.kind,Val.fields,Typ.fields]]
 generalize f.any (x7 (.mk 9 vn vs vt vl vf))=q at hla ⊢
 obtain⟨T,hT⟩:∃ T,T=dd (.mk 9 m M s w e f):=⟨_,rfl⟩
 rw[<- hT] at h ⊢
 have hfld:∀ nm,au Tryz.prog aH 230 [(Typ.mk 9 m M s w e f).pv,.str nm] (tfR (T nm)):=fun nm=>by rw[hT];exact hfld nm
 clear hT
 simp only[Ul,Un] at hfld hla
 obtain⟨p,hp⟩:∃ p:Fld->Bool,p=fun x=>NB (e7 n) x.value (T x.name):=⟨_,rfl⟩
 rw[<- hp]
 obtain⟨R,hR⟩:∃ R,R=(vf.all p&&!q):=⟨_,rfl⟩
 rw[<- hR]
 refine au.intro g8.2 (by simp[g8]) ?_
 simp(disch:=try exact dI) only[g8,Ul,Un,push_cast,seval]
 refine aK ([]) (fun i:Nat=>[(107,.pv (.int .i64 (i:Int)))]) (fun _=>[]) (fun i=>i<=vf.length/\R=((vf.drop i).all p&&!q)) (fun i=>vf.length - i) (0) ?_;intro e0 σ0 n0 h0;simp(disch:=try exact dI) only[push_cast,seval] at h0;obtain⟨rfl,rfl,rfl⟩:=h0;refine⟨?_,?_,?_⟩
 ·exact qsZ
 ·exact⟨by omega,by simpa using hR⟩
 rintro i ⟨hi,hr⟩
 by_cases hlt:i<vf.length
 ·have hltI:(i:Int)<(vf.length:Int):=by omega
  obtain⟨x,hx⟩:∃ x,vf[i]? = some x:=⟨_,Uo hlt⟩
  rw[Ih hx] at hr
  have hph:=h x (Uw hx)
  have hc:=hfld x.name
  rw[show p x=NB (e7 n) x.value (T x.name) by rw[hp]] at hr
  generalize T x.name=o at hph hc hr
  obtain⟨xn,y⟩:=x
  simp only[Fld.name,Fld.value] at hph hc hr
  cases o with
  | none=>
    simp only[NB,Bool.false_and] at hr
    subst hr
    obtain⟨yk,yn,ys,yt,yl,yf⟩:=y
    simp only[tfR,Option.getD_none,Option.isSome_none,mS,Ue,Ul,aw] at hc
    simp(disch:=try exact dI) only[hx,UD,Ub,Un,aw,push_cast,seval]
    refine ae.pure hc rfl ?_
    exact qsZ
  | some g=>
    have hh:=ih _ _ (hph g rfl)
    simp only[NB] at hr
    obtain⟨n',nm',nd',⟨k',m',M',s',w',e',f'⟩,d'⟩:=g
    simp only[TFd.typ] at hh hr
    generalize e7 n (.mk k' m' M' s' w' e' f') y=b at hh hr
    obtain⟨yk,yn,ys,yt,yl,yf⟩:=y
    simp only[tfR,Vg,Option.isSome_some,Ue,Ul,Un,aw] at hc hh
    cases b with
    | false=>
      simp only[Bool.false_and] at hr
      subst hr
      simp(disch:=try exact dI) only[hx,UD,Ub,Un,aw,push_cast,seval]
      refine ae.pure hc rfl ?_
      refine zgZ ?_
      refine ae.pure hh rfl ?_
      exact qsZ
    | true=>
      rw[Bool.true_and] at hr
      simp(disch:=try exact dI) only[hx,UD,Ub,Un,aw,push_cast,seval]
      refine ae.pure hc rfl ?_
      refine zgZ ?_
      refine ae.pure hh rfl ?_
      refine zgZ ?_
      exact⟨i+1,bu qsZ,⟨by omega,hr⟩,by omega⟩
 ·obtain rfl:i=vf.length:=by omega
  rw[Vz,List.all_nil,Bool.true_and] at hr
  subst hr
  simp(disch:=try exact dI) only[Int.lt_irrefl,push_cast,seval]
  refine ae.pure hla rfl ?_
  exact qsZ
theorem Jp:∀ n,rG n
 | 0=>fun _ _ h=>h.elim
 | n+1=>fun t v h=>by
   have ih:=Jp n
   simp only[Dd] at h
   obtain⟨⟨N,hs⟩,_,hw,hv,hl,hf,h⟩:=h
   by_cases hk:v.kind=t.kind
   ·have h:=h hk
    obtain⟨k,m,M,s,w,e,f⟩:=t
    obtain⟨vk,vn,vs,vt,vl,vf⟩:=v
    simp only[Val.kind,Typ.kind,Typ.words,Val.lst,Val.fields,Val.text,Typ.elem] at hk h hw hl hf
    subst hk
    obtain⟨_,h8,h10,h9⟩:=h
    by_cases h1:vk=2\/vk=6\/vk=7\/vk=3
    ·exact yh n _ _ _ _ _ _ _ _ _ _ _ _ h1
    by_cases h4:vk=4
    ·subst h4;exact Hs n _ _ _ _ _ _ _ _ _ _ _ hw
    by_cases h5:vk=5
    ·subst h5;exact Hr n _ _ _ _ _ _ _ _ _ _ _
    by_cases h8':vk=8
    ·subst h8';exact Hq n ih _ _ _ _ _ _ _ _ _ _ _ hl (h8 rfl)
    by_cases h10':vk=10
    ·subst h10';exact Df n ih _ _ _ _ _ _ _ _ _ _ _ N hs (h10 rfl)
    by_cases h9':vk=9
    ·subst h9';exact Hp n ih _ _ _ _ _ _ _ _ _ _ _ N hs hv hf (h9 rfl)
    exact tk n _ _ _ _ _ _ _ _ _ _ _ _ h1 h4 h5 h8' h10' h9'
   ·exact De n t v hk
theorem gK:∀ (n:Nat) (t:Typ),bS n t->bS (n+1) t
 | 0,_,h=>h.elim
 | n+1,.mk k m M s w e f,h=>by
   obtain⟨h1,h2,h3,h4,h5⟩:=h
   exact⟨h1,h2,h3,fun x hx=>gK n x (h4 x hx),fun g hg=>⟨(h5 g hg).1,(h5 g hg).2.1,gK n g.typ (h5 g hg).2.2⟩⟩
theorem iq {n m:Nat}(h:n<=m){t:Typ}(ht:bS n t):bS m t:=by
 induction h with
 | refl=>exact ht
 | step _ ih=>exact gK _ _ ih
theorem kW {α:Type}(g:α->Typ):∀ l:List α,(∀ x∈l,∃ n,bS n (g x))->∃ n,∀ x∈l,bS n (g x)
 | [],_=>⟨0,by simp⟩
 | x::r,h=>by
   obtain⟨n,hn⟩:=h x (by simp)
   obtain⟨m,hm⟩:=kW g r fun y hy=>h y (List.mem_cons_of_mem _ hy)
   refine⟨max n m,fun y hy=>?_⟩
   rcases UX.1 hy with rfl | hy
   ·exact iq (Nat.le_max_left _ _) hn
   ·exact iq (Nat.le_max_right _ _) (hm y hy)
theorem j9:∀ (t:Typ),t.ok->∃ n,bS n t
 | .mk k m M s w e f,h=>by
   rw[Uk] at h
   obtain⟨_,_,_,_,h1,_,h2,h3,h4,h5⟩:=h
   have e1:∀ x∈e,∃ n,bS n x:=fun x hx=>j9 x (h3 x hx)
   have f1:∀ g∈f,∃ n,bS n g.typ:=fun g hg=>by
    have hg':=h5 g hg
    obtain⟨a1,a2,a3,a4,a5⟩:=g
    rw[Ud] at hg'
    exact j9 a4 hg'.2.2.2.1
   obtain⟨a,ha⟩:=kW id e e1
   obtain⟨b,hb⟩:=kW TFd.typ f f1
   refine⟨max a b+1,h1,h2,h4,fun x hx=>iq (Nat.le_max_left _ _) (ha x hx),fun g hg=>?_⟩
   have hg':=h5 g hg
   have hgt:=iq (Nat.le_max_right a b) (hb g hg)
   obtain⟨a1,a2,a3,a4,a5⟩:=g
   rw[Ud] at hg'
   exact⟨hg'.2.2.2.2.1,hg'.2.2.2.2.2,hgt⟩
termination_by t=>SizeOf.sizeOf t
decreasing_by
 all_goals simp_wf
 ·have:=List.sizeOf_lt_of_mem hx;omega
 ·have:=List.sizeOf_lt_of_mem hg
  simp only[TFd.mk.sizeOf_spec] at this
  omega
def JZ:Nat->Val->Prop
 | 0,_=>False
 | n+1,v=>(cx v=0/\ft v=true)/\∀ x∈cY v,JZ n x
theorem wd:∀ (xs:List (Int×Val)) (i:Nat),pm i xs=0->∀ q∈xs,∃ j,bL j q=0
 | [],_,_,_,h=>by cases h
 | x::r,i,h,q,hq=>by
   rw[pm] at h
   by_cases h0:bL i x=0
   ·rw[if_pos h0] at h
    rcases UX.1 hq with rfl | hq
    ·exact⟨i,h0⟩
    ·exact wd r (i+1) h q hq
   ·rw[if_neg h0] at h;exact absurd h h0
theorem wT {j:Nat}{q:Int×Val}(h:bL j q=0):cx q.2=0/\ft q.2=true:=by
 unfold bL at h
 split at h
 ·cases h
 split at h
 ·cases h
 split at h
 ·cases h
 split at h
 ·cases h
 split at h
 ·cases h
 ·rename_i hu
  exact⟨h,by simpa using hu⟩
theorem Aj:∀ (n:Nat) (lv:Int) (v:Val),j3 n v->(∀ q∈fm n lv v,cx q.2=0/\ft q.2=true)->JZ n v
 | 0,_,_,hd,_=>hd.elim
 | n+1,lv,v,hd,h=>by
   simp only[fm,UX,List.mem_flatMap] at h
   refine⟨h (lv,v) (.inl rfl),fun x hx=>Aj n (Go.RowKit.wrap64 (lv+1)) x (hd x hx) fun q hq=>h q (.inr ⟨x,hx,hq⟩)⟩
theorem E1 {n:Nat}{v:Val}(hd:j3 n v)(h:pm 0 (fm n 1 v)=0):JZ n v:=
 Aj n 1 v hd fun q hq=>by obtain⟨j,hj⟩:=wd _ _ h q hq;exact wT hj
noncomputable def accB (n:Nat)(t:Typ)(v:Val):Bool:=decide (JD v=0)&&e7 n t v
theorem ze (n:Nat)(t:Typ)(v:Val)(hv:v.ok)(hP:JD v=0->Dd n t v):au Tryz.prog aH 144 [t.pv,v.pv] (.bool (accB n t v)):=by
 have hc:=D2 v hv
 simp only[accB]
 generalize JD v=z at hc hP ⊢
 by_cases hz:z=0
 ·have hh:=Jp n t v (hP hz)
  subst hz
  generalize e7 n t v=b at hh ⊢
  obtain⟨k,m,M,s,w,e,f⟩:=t
  obtain⟨vk,vn,vs,vt,vl,vf⟩:=v
  simp only[Ul,Un] at hc hh
  refine au.intro NX.2 (by simp[NX]) ?_
  simp(disch:=try exact dI) only[NX,Ul,Un,push_cast,seval]
  refine ae.pure hc rfl ?_
  refine zgZ ?_
  refine ae.pure hh rfl ?_
  exact qsZ
 ·rw[decide_eq_false hz,Bool.false_and]
  obtain⟨k,m,M,s,w,e,f⟩:=t
  obtain⟨vk,vn,vs,vt,vl,vf⟩:=v
  simp only[Ul,Un] at hc
  refine au.intro NX.2 (by simp[NX]) ?_
  simp(disch:=try exact dI) only[NX,Ul,Un,push_cast,seval]
  refine ae.pure hc rfl ?_
  simp(disch:=try exact dI) only[hz,push_cast,seval]
noncomputable def mQ (n:Nat):TFd->Bool
 | .mk _ _ nd t d=>decide (nd=3)&&!(C9 (accB n t) d)
def tyV:Nat->Typ->Prop
 | 0,_=>False
 | n+1,.mk k m M s w e f=>mF (.mk k m M s w e f)=0/\(k=8->∀ x∈e,tyV n x)/\(k=9\/k=10->∀ g∈f,tyV n g.typ/\(k=9->mQ n g=false))
theorem eY {k m M s:Int}{w:List (List UInt8)}{e:List Typ}{f:List TFd}(h:mF (.mk k m M s w e f)=0):inB k 1 10=true/\f5 k m M s w=0/\dC k e.length f.length=0/\dS k [] f=0:=by
 rw[mF] at h
 by_cases a:inB k 1 10=false
 ·rw[if_pos a] at h;exact absurd h (by decide)
 rw[if_neg a] at h
 by_cases b:lX k (.mk k m M s w e f)=true
 ·rw[if_pos b] at h;exact absurd h (by decide)
 rw[if_neg b] at h
 by_cases c:f5 k m M s w=0
 ·rw[if_neg (fun hh=>hh c)] at h
  by_cases d:dC k e.length f.length=0
  ·rw[if_neg (fun hh=>hh d)] at h
   exact⟨by simpa using a,c,d,h⟩
  ·rw[if_pos d] at h;exact absurd h d
 ·rw[if_pos c] at h;exact absurd h c
theorem BS {k m M s:Int}{w:List (List UInt8)}{e:List Typ}{f:List TFd}(h:mF (.mk k m M s w e f)=0)(hk:¬ k=3):s=0:=by
 rw[mF] at h
 by_cases a:inB k 1 10=false
 ·rw[if_pos a] at h;exact absurd h (by decide)
 rw[if_neg a] at h
 by_cases b:lX k (.mk k m M s w e f)=true
 ·rw[if_pos b] at h;exact absurd h (by decide)
 have b':lX k (.mk k m M s w e f)=false:=by simpa using b
 simp only[lX,lY,Bool.or_eq_false_iff] at b'
 obtain⟨_,b2,_⟩:=b'
 rw[decide_eq_false hk] at b2
 simpa using b2
theorem uO {m M s:Int}{w:List (List UInt8)}{e:List Typ}{f:List TFd}(h:mF (.mk 8 m M s w e f)=0):∃ x,e=[x]:=by
 have h1:=(eY h).2.2.1
 match e,h1 with
 | [],h1=>simp[dC] at h1
 | [x],_=>exact⟨x,rfl⟩
 | x::y::r,h1=>simp[dC] at h1
theorem mY {t:Typ}{nm:List UInt8}{g:TFd}(h:dd t nm=some g):(t.kind=9\/t.kind=10)/\g∈t.fields:=by
 unfold dd at h
 split at h
 ·rename_i hk;exact⟨hk,List.mem_of_find?_eq_some h⟩
 ·cases h
theorem FL {v:Val}(hk:v.kind=10)(h:cx v=0):∃ y r,v.lst=y::r:=by
 obtain⟨vk,vn,vs,vt,vl,vf⟩:=v
 simp only[Val.kind] at hk
 subst hk
 cases vl with
 | cons y r=>exact⟨y,r,rfl⟩
 | nil=>
   simp only[cx,show ¬ (10:Int)=1 by decide,show ¬ (10:Int)=2 by decide,show ¬ (10:Int)=3 by decide,show ¬ (10:Int)=4 by decide,show ¬ (10:Int)=5 by decide,show ¬ (10:Int)=6 by decide,show ¬ (10:Int)=7 by decide,show ¬ (10:Int)=8 by decide,show ¬ (10:Int)=9 by decide,if_false,if_true,Ux] at h
   split at h<;>exact absurd h (by decide)
theorem oM:∀ (n m:Nat) (t:Typ) (v:Val),tyV n t->t.ok->JZ m v->v.ok->Dd n t v
 | 0,_,_,_,h,_,_,_=>h.elim
 | _+1,0,_,_,_,_,h,_=>h.elim
 | n+1,m+1,t,v,h1,h2,h3,h4=>by
   have hv:=h4
   obtain⟨⟨hr,hu⟩,hp⟩:=h3
   obtain⟨N,hsm⟩:=j9 t h2
   have hk8:v.kind=8->∀ y∈v.lst,JZ m y:=fun hk y hy=>hp y (by rw[jl (.inl hk)];exact hy)
   have hk10:v.kind=10->∀ y∈v.lst,JZ m y:=fun hk y hy=>hp y (by rw[jl (.inr hk)];exact hy)
   have hk9:v.kind=9->∀ x∈v.fields,JZ m x.value:=fun hk x hx=>hp x.value (by rw[nj hk];exact List.mem_map_of_mem hx)
   obtain⟨k,mn,M,s,w,e,f⟩:=t
   simp only[tyV] at h1
   rw[Uk] at h2
   obtain⟨ho,ht8,ht9⟩:=h1
   obtain⟨_,_,_,_,t1,_,_,t5,_,t6⟩:=h2
   have hvl:v.lst.length<=9000000000000/\v.fields.length<=9000000000000/\(∀ x∈v.lst,x.ok)/\∀ x∈v.fields,x.value.ok:=by
    obtain⟨vk,vn,vs,vt,vl,vf⟩:=v
    rw[Um] at h4
    obtain⟨_,_,_,_,q1,q2,q3,q4⟩:=h4
    refine⟨by simp only[Val.lst];omega,by simp only[Val.fields];omega,q2,fun x hx=>?_⟩
    have:=q4 x hx
    obtain⟨nm,y⟩:=x
    rw[Ua] at this
    exact this.2
   obtain⟨hvl,hvf,hl,hf⟩:=hvl
   have hgt:∀ g∈f,g.typ.ok:=fun g hg=>by
    have:=t6 g hg
    obtain⟨a1,a2,a3,a4,a5⟩:=g
    rw[Ud] at this
    exact this.2.2.2.1
   have hkk:inB k 1 10=true:=(eY ho).1
   refine⟨⟨N,hsm⟩,by simpa[inB,Typ.kind] using hkk,by simp only[Typ.words];omega,hv,hvl,hvf,fun hk=>⟨?_,?_,?_,?_⟩⟩
   ·intro h2
    simp only[Typ.kind] at h2 hk
    have hs:=BS ho (by omega)
    obtain⟨vk,vn,vs,vt,vl,vf⟩:=v
    simp only[Val.kind] at hk
    subst hk
    simp only[ft,Bool.and_eq_true,Bool.or_eq_true,decide_eq_true_eq] at hu
    simp only[Val.scale,Typ.scale]
    omega
   ·intro h8 y hy
    simp only[Typ.kind] at h8 hk
    subst h8
    obtain⟨x,rfl⟩:=uO ho
    exact⟨x,[],rfl,oM n m x y (ht8 rfl x (Vj ..)) (t5 x (Vj ..)) (hk8 hk y hy) (hl y hy)⟩
   ·intro h10 g hg
    simp only[Typ.kind] at h10 hk
    subst h10
    obtain⟨_,hgm⟩:=mY hg
    simp only[Typ.fields] at hgm
    obtain⟨y,r,hy⟩:=FL hk hr
    have hym:y∈v.lst:=by rw[hy];exact Vj ..
    exact⟨y,r,hy,oM n m g.typ y (ht9 (.inr rfl) g hgm).1 (hgt g hgm) (hk10 hk y hym) (hl y hym)⟩
   ·intro h9 x hx g hg
    simp only[Typ.kind] at h9 hk
    subst h9
    obtain⟨_,hgm⟩:=mY hg
    simp only[Typ.fields] at hgm
    exact oM n m g.typ x.value (ht9 (.inl rfl) g hgm).1 (hgt g hgm) (hk9 hk x hx) (hf x hx)
def jt (rec:Int->Typ->Int×Int):Int->List Typ->Int×Int
 | l,[]=>(0,l)
 | l,t::r=>if (rec l t).1=0 then jt rec (rec l t).2 r else rec l t
noncomputable def gT (n:Nat)(rec:Int->Typ->Int×Int):Int->List TFd->Int×Int
 | l,[]=>(0,l)
 | l,g::r=>if (rec l g.typ).1=0 then (if mQ n g=true then (18,(rec l g.typ).2) else gT n rec (rec l g.typ).2 r) else rec l g.typ
noncomputable def gD (δ:Int):Nat->Int->Typ->Int×Int
 | 0,l,_=>if l=0 then (9,0) else (23,l - δ)
 | n+1,l,.mk k m M s w e f=>if l=0 then (9,0) else if mF (.mk k m M s w e f)=0 then (if k=9 then gT n (gD δ n) (l - 1) f else jt (gD δ n) (l - 1) (dh (.mk k m M s w e f))) else (mF (.mk k m M s w e f),l - 1)
theorem x8 {rec:Int->Typ->Int×Int}{ps:List Typ}{i:Nat}{t:Typ}(h:ps[i]? = some t)(l:Int):jt rec l (ps.drop i)=if (rec l t).1=0 then jt rec (rec l t).2 (ps.drop (i+1)) else rec l t:=by
 have hi:=(Up.1 h).1
 have he:ps[i]=t:=(Up.1 h).2
 rw[Vb hi,he,jt]
theorem yj {n:Nat}{rec:Int->Typ->Int×Int}{ps:List TFd}{i:Nat}{g:TFd}(h:ps[i]? = some g)(l:Int):gT n rec l (ps.drop i)=if (rec l g.typ).1=0 then (if mQ n g=true then (18,(rec l g.typ).2) else gT n rec (rec l g.typ).2 (ps.drop (i+1))) else rec l g.typ:=by
 have hi:=(Up.1 h).1
 have he:ps[i]=g:=(Up.1 h).2
 rw[Vb hi,he,gT]
theorem lL {rec:Int->Typ->Int×Int}:∀ (ps:List Typ) (l:Int),(jt rec l ps).1=0->∀ t∈ps,∃ l,(rec l t).1=0
 | [],_,_,_,h=>by cases h
 | x::r,l,h,t,ht=>by
   rw[jt] at h
   by_cases h0:(rec l x).1=0
   ·rw[if_pos h0] at h
    rcases UX.1 ht with rfl | ht
    ·exact⟨l,h0⟩
    ·exact lL r _ h t ht
   ·rw[if_neg h0] at h;exact absurd h h0
theorem qS {n:Nat}{rec:Int->Typ->Int×Int}:∀ (ps:List TFd) (l:Int),(gT n rec l ps).1=0->∀ g∈ps,∃ l,(rec l g.typ).1=0
 | [],_,_,_,h=>by cases h
 | x::r,l,h,t,ht=>by
   rw[gT] at h
   by_cases h0:(rec l x.typ).1=0
   ·rw[if_pos h0] at h
    by_cases hd:mQ n x=true
    ·rw[if_pos hd] at h;exact absurd h (show ¬ (18:Int)=0 by decide)
    ·rw[if_neg hd] at h
     rcases UX.1 ht with rfl | ht
     ·exact⟨l,h0⟩
     ·exact qS r _ h t ht
   ·rw[if_neg h0] at h;exact absurd h h0
theorem nE {n:Nat}{rec:Int->Typ->Int×Int}:∀ (ps:List TFd) (l:Int),(gT n rec l ps).1=0->∀ g∈ps,mQ n g=false
 | [],_,_,_,h=>by cases h
 | x::r,l,h,t,ht=>by
   rw[gT] at h
   by_cases h0:(rec l x.typ).1=0
   ·rw[if_pos h0] at h
    by_cases hd:mQ n x=true
    ·rw[if_pos hd] at h;exact absurd h (show ¬ (18:Int)=0 by decide)
    ·rw[if_neg hd] at h
     rcases UX.1 ht with rfl | ht
     ·simpa using hd
     ·exact nE r _ h t ht
   ·rw[if_neg h0] at h;exact absurd h h0
theorem mw {δ:Int}:∀ (n:Nat) (l:Int) (t:Typ),(gD δ n l t).1=0->tyV n t
 | 0,l,_,h=>by
   rw[gD] at h
   split at h<;>cases h
 | n+1,l,.mk k m M s w e f,h=>by
   rw[gD] at h
   by_cases hl:l=0
   ·rw[if_pos hl] at h;cases h
   rw[if_neg hl] at h
   by_cases ho:mF (.mk k m M s w e f)=0
   ·rw[if_pos ho] at h
    refine⟨ho,fun h8 x hx=>?_,fun h9 g hg=>?_⟩
    ·subst h8
     rw[if_neg (by decide)] at h
     obtain⟨l',hl'⟩:=lL _ _ h x hx
     exact mw n l' x hl'
    ·by_cases hk:k=9
     ·subst hk
      rw[if_pos rfl] at h
      obtain⟨l',hl'⟩:=qS _ _ h g hg
      exact⟨mw n l' g.typ hl',fun _=>nE _ _ h g hg⟩
     ·have hk10:k=10:=by omega
      subst hk10
      rw[if_neg (by decide)] at h
      obtain⟨l',hl'⟩:=lL _ _ h g.typ (List.mem_map_of_mem hg)
      exact⟨mw n l' g.typ hl',fun h=>absurd h hk⟩
   ·rw[if_neg ho] at h;exact absurd h ho
def EM (rec:Int->Typ->Int×Int):Prop:=∀ t l,0<=l->l<=4096->0<=(rec l t).2/\(rec l t).2<=4096
theorem nw {rec:Int->Typ->Int×Int}(h:EM rec):∀ (ps:List Typ) (l:Int),0<=l->l<=4096->0<=(jt rec l ps).2/\(jt rec l ps).2<=4096
 | [],l,h1,h2=>⟨h1,h2⟩
 | x::r,l,h1,h2=>by
   have h3:=h x l h1 h2
   rw[jt]
   split
   ·exact nw h r _ h3.1 h3.2
   ·exact h3
theorem nD {n:Nat}{rec:Int->Typ->Int×Int}(h:EM rec):∀ (ps:List TFd) (l:Int),0<=l->l<=4096->0<=(gT n rec l ps).2/\(gT n rec l ps).2<=4096
 | [],l,h1,h2=>⟨h1,h2⟩
 | x::r,l,h1,h2=>by
   have h3:=h x.typ l h1 h2
   rw[gT]
   split
   ·split
    ·exact h3
    ·exact nD h r _ h3.1 h3.2
   ·exact h3
theorem iV {δ:Int}(hδ:0<=δ/\δ<=1):∀ n,EM (gD δ n)
 | 0,t,l,h1,h2=>by
   rw[gD]
   split
   ·simp
   ·simp only;omega
 | n+1,.mk k m M s w e f,l,h1,h2=>by
   rw[gD]
   split
   ·simp
   split
   ·split
    ·exact nD (iV hδ n) f (l - 1) (by omega) (by omega)
    ·exact nw (iV hδ n) _ (l - 1) (by omega) (by omega)
   ·simp only;omega
theorem gW {k:Int}:∀ (f b:List TFd),dS k b f=0->∀ g∈f,∃ b,fY k b g=0
 | [],_,_,_,h=>by cases h
 | x::r,b,h,g,hg=>by
   rw[dS] at h
   by_cases h0:fY k b x=0
   ·rw[if_pos h0] at h
    rcases UX.1 hg with rfl | hg
    ·exact⟨b,h0⟩
    ·exact gW r _ h g hg
   ·rw[if_neg h0] at h;exact absurd h h0
theorem nH {k:Int}{b:List TFd}{n:Int}{nm:List UInt8}{t:Typ}{d:List Val}(h:fY k b (.mk n nm 3 t d)=0):∃ x r,d=x::r:=by
 cases d with
 | cons x r=>exact⟨x,r,rfl⟩
 | nil=>
   simp only[fY,Ux,true_and,if_true] at h
   repeat' split at h
   all_goals first | exact absurd h (by decide) | skip
def Nv (n:Nat):Prop:=∀ (t:Typ) (d l:Int),t.ok->d+n=9->0<=l->l<=4096 ->
 aI Tryz.prog aH 1 63 [.pv t.pv,.pv (.int .i64 d),.ptr 0 0] [.cells 3 true [.pv (.int .i64 l)]] (.pv (.int .i64 (gD 0 n l t).1)) [.cells 3 true [.pv (.int .i64 (gD 0 n l t).2)]]
theorem nr {g:TFd}(h:g.ok):g.typ.ok/\∀ v∈g.dflt,v.ok:=by
 obtain⟨a1,a2,a3,a4,a5⟩:=g
 rw[Ud] at h
 exact⟨h.2.2.2.1,h.2.2.2.2.2⟩
theorem I7 {k m M s:Int}{w:List (List UInt8)}{e:List Typ}{f:List TFd}(h:(Typ.mk k m M s w e f).ok):au Tryz.prog aH 142 [(Typ.mk k m M s w e f).pv] (.int .i64 (mF (.mk k m M s w e f)))/\au Tryz.prog aH 143 [(Typ.mk k m M s w e f).pv] (.list ((dh (.mk k m M s w e f)).map Typ.pv))/\(∀ x∈dh (.mk k m M s w e f),x.ok)/\(dh (.mk k m M s w e f)).length<=9000000000000:=by
 rw[Uk] at h
 obtain⟨_,_,_,_,h1,h2,h3,h4,h5,h6⟩:=h
 refine⟨O0 m M s w e f k (fun x hx=>by have:=h2 x hx;omega) (by omega) (by omega) (by omega),Gp k m M s w e f (by omega),?_⟩
 by_cases h8:k=8
 ·rw[show dh (.mk k m M s w e f)=e from if_pos h8]
  exact⟨h4,by omega⟩
 ·by_cases h9:k=9\/k=10
  ·rw[show dh (.mk k m M s w e f)=f.map TFd.typ by simp only[dh];rw[if_neg h8,if_pos h9]]
   refine⟨fun x hx=>?_,by rw[List.length_map];omega⟩
   obtain⟨g,hg,rfl⟩:=List.mem_map.1 hx
   exact (nr (h6 g hg)).1
  ·rw[show dh (.mk k m M s w e f)=[] by simp only[dh];rw[if_neg h8,if_neg h9]]
   exact⟨fun x hx=>(by cases hx),by simp⟩
theorem D7 (t:Typ)(d l:Int)(hd:d=9)(hl:0<=l):aI Tryz.prog aH 1 63 [.pv t.pv,.pv (.int .i64 d),.ptr 0 0] [.cells 3 true [.pv (.int .i64 l)]] (.pv (.int .i64 (gD 0 0 l t).1)) [.cells 3 true [.pv (.int .i64 (gD 0 0 l t).2)]]:=by
 subst hd
 rw[gD]
 obtain⟨k',m',M',s',w',e',f'⟩:=t
 simp only[Ul]
 by_cases h0:l=0
 ·subst h0
  rw[if_pos rfl]
  refine aI.intro Q63.2 (by simp[Q63]) ?_
  simp(disch:=try exact dI) only[Q63,push_cast,seval]
  exact am [] qsZ
 ·rw[if_neg h0]
  refine aI.intro Q63.2 (by simp[Q63]) ?_
  simp(disch:=try exact dI) only[Q63,h0,Int.sub_zero,push_cast,seval]
  exact am [] qsZ
theorem D4 (n:Nat)(t:Typ)(d:Int):aI Tryz.prog aH 1 63 [.pv t.pv,.pv (.int .i64 d),.ptr 0 0] [.cells 3 true [.pv (.int .i64 0)]] (.pv (.int .i64 (gD 0 (n+1) 0 t).1)) [.cells 3 true [.pv (.int .i64 (gD 0 (n+1) 0 t).2)]]:=by
 obtain⟨k',m',M',s',w',e',f'⟩:=t
 rw[gD,if_pos rfl]
 simp only[Ul]
 refine aI.intro Q63.2 (by simp[Q63]) ?_
 simp(disch:=try exact dI) only[Q63,push_cast,seval]
 exact am [] qsZ
theorem D5 (n:Nat)(ih:Nv n)(k m M s:Int)(w:List (List UInt8))(e:List Typ)(f:List TFd)(d l:Int)(ht:(Typ.mk k m M s w e f).ok)(hdn:d+(n+1:Nat)=9)(hd:1<=d)(hl:0<=l)(hl2:l<=4096)(hl0:¬ l=0)(hk:¬ k=9) :
  aI Tryz.prog aH 1 63 [.pv (Typ.mk k m M s w e f).pv,.pv (.int .i64 d),.ptr 0 0] [.cells 3 true [.pv (.int .i64 l)]] (.pv (.int .i64 (gD 0 (n+1) l (.mk k m M s w e f)).1)) [.cells 3 true [.pv (.int .i64 (gD 0 (n+1) l (.mk k m M s w e f)).2)]]:=by
 obtain⟨h143,h144,hpt,hpl⟩:=I7 ht
 have hd8:¬ 8<d:=by omega
 rw[gD,if_neg hl0,if_neg hk]
 generalize dh (.mk k m M s w e f)=ps at *
 generalize mF (.mk k m M s w e f)=z at *
 simp only[Ul] at h143 h144 ⊢
 by_cases hz:z=0
 ·subst hz
  rw[if_pos rfl]
  obtain⟨R,hR⟩:∃ R,R=jt (gD 0 n) (l - 1) ps:=⟨_,rfl⟩
  rw[<- hR]
  refine aI.intro Q63.2 (by simp[Q63]) ?_
  simp(disch:=try exact dI) only[Q63,hl0,hd8,push_cast,seval]
  refine ae.pure h143 rfl ?_
  refine zgZ ?_
  refine ae.pure h144 rfl ?_
  refine zgZ ?_
  refine aK ([]) (fun x:Nat×Int=>[(32,.pv (.int .i64 (x.1:Int)))]) (fun x=>[(0,.cells 3 true [.pv (.int .i64 x.2)])]) (fun x=>x.1<=ps.length/\R=jt (gD 0 n) x.2 (ps.drop x.1)/\0<=x.2/\x.2<=4096) (fun x=>ps.length - x.1) ((0,l - 1)) ?_;intro e0 σ0 n0 h0;simp(disch:=try exact dI) only[push_cast,seval] at h0;obtain⟨rfl,rfl,rfl⟩:=h0;refine⟨?_,?_,?_⟩
  ·exact qsZ
  ·exact⟨by simp,by simpa using hR,by simp only;omega,by simp only;omega⟩
  rintro⟨i,L⟩ ⟨hi,hr,hL,hL2⟩
  simp only at hi hr hL hL2
  by_cases hlt:i<ps.length
  ·have hltI:(i:Int)<(ps.length:Int):=by omega
   obtain⟨x,hx⟩:∃ x,ps[i]? = some x:=⟨_,Uo hlt⟩
   have hxm:=Uw hx
   have hcall:=ih x (d+1) L (hpt x hxm) (by omega) hL hL2
   have hleft:=iV (δ:=0) (by decide) n x L hL hL2
   rw[x8 hx] at hr
   obtain⟨⟨e1,e2⟩,he⟩:∃ q,q=gD 0 n L x:=⟨_,rfl⟩
   rw[<- he] at hcall hleft hr
   simp only at hcall hleft hr
   obtain⟨k',m',M',s',w',e',f'⟩:=x
   simp only[Ul] at hcall
   simp(disch:=try exact dI) only[hx,UD,Ul,aw,push_cast,seval]
   refine ae.lentK hcall [0] rfl qsZ qsZ ?_
   by_cases he0:e1=0
   ·subst he0
    rw[if_pos rfl] at hr
    simp(disch:=try exact dI) only[hk,push_cast,seval]
    exact⟨(i+1,e2),bu qsZ,⟨by simp only;omega,hr,by simp only;omega,by simp only;omega⟩,by simp only;omega⟩
   ·rw[if_neg he0] at hr
    subst hr
    simp(disch:=try exact dI) only[he0,push_cast,seval]
    exact am [] qsZ
  ·obtain rfl:i=ps.length:=by omega
   rw[Vz,jt] at hr
   subst hr
   simp(disch:=try exact dI) only[Int.lt_irrefl,push_cast,seval]
   exact am [] qsZ
 ·rw[if_neg hz]
  refine aI.intro Q63.2 (by simp[Q63]) ?_
  simp(disch:=try exact dI) only[Q63,hl0,hd8,push_cast,seval]
  refine ae.pure h143 rfl ?_
  simp(disch:=try exact dI) only[hz,push_cast,seval]
  exact am [] qsZ
