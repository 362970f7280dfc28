/- A part. -/
import Derived.Test.YtngchmkoadaecaaGreatDoorClJSb
set_option linter.unusedVariables false
set_option linter.unusedSimpArgs false
set_option maxHeartbeats 16000000
set_option maxRecDepth 100000
open Option renaming isSome_none->VH,getD_some->Vb,isSome_some->Vv,map_some->UM
open List renaming getElem?_eq_some_iff->Ur,mem_cons->UP,sizeOf_lt_of_mem->Vi,mem_cons_self->Vt
open Bool renaming false_and->Vy,true_and->Vz
namespace Go.Proofs.YtngchmkoadaecaaGreatDoor
open Go Go.Ab
attribute [local irreducible] vc
theorem Cl (n:Nat)(ih:pq n)(m M s:Int)(w:List (List UInt8))(e:List Typ)(f:List TFd)(vn vs:Int)(vt:List UInt8)(vl:List Val)(vf:List Fld)(N:Nat)(hs:bR N (.mk 10 m M s w e f))
  (h:∀ g,cE (.mk 10 m M s w e f) vt=some g->∃ y r,vl=y::r/\Ci n g.typ y):ap Tryz.prog aB 145 [(Typ.mk 10 m M s w e f).pv,(Val.mk 10 vn vs vt vl vf).pv] (.bool (eq (n+1) (.mk 10 m M s w e f) (.mk 10 vn vs vt vl vf))):=by
 have hc:=ta N _ vt hs
 rw[show eq (n+1) (.mk 10 m M s w e f) (.mk 10 vn vs vt vl vf)=QX (eq n) vl (cE (.mk 10 m M s w e f) vt) by simp[eq,IL,Typ.kind,Val.kind,Val.lst,Val.text]]
 generalize cE (.mk 10 m M s w e f) vt=o at hc h ⊢
 simp only[Um] at hc
 cases o with
 | none=>
   simp only[tfR,Option.getD_none,VH,kG,Uh,Um,ae,QX] at hc ⊢
   refine ap.intro f6.2 (by simp[f6]) ?_
   simp(maxSteps:=9^7) (disch:=try exact dI) only[f6,Um,Uo,push_cast,seval]
   refine ab.pure hc rfl ?_
   simp(maxSteps:=9^7) (disch:=try exact dI) only[push_cast,seval]
 | some g=>
   obtain⟨y,r,rfl,hy⟩:=h g rfl
   have hh:=ih _ _ hy
   obtain⟨n',nm',nd',⟨k',m',M',s',w',e',f'⟩,d'⟩:=g
   simp only[TFd.typ,QX,Ce] at hh ⊢
   generalize eq n (.mk k' m' M' s' w' e' f') y=b at hh ⊢
   obtain⟨yk,yn,ys,yt,yl,yf⟩:=y
   simp only[tfR,Vb,Vv,Uh,Um,Uo,ae] at hc hh ⊢
   refine ap.intro f6.2 (by simp[f6]) ?_
   simp(maxSteps:=9^7) (disch:=try exact dI) only[f6,Um,Uo,cz,push_cast,seval]
   refine ab.pure hc rfl ?_
   simp(maxSteps:=9^7) (disch:=try exact dI) only[cz,Uo,push_cast,seval]
   refine ab.pure hh rfl ?_
   simp(maxSteps:=9^7) (disch:=try exact dI) only[push_cast,seval]
theorem rm (n:Nat)(k m M s:Int)(w:List (List UInt8))(e:List Typ)(f:List TFd)(vn vs:Int)(vt:List UInt8)(vl:List Val)(vf:List Fld)(h1:¬ (k=2\/k=6\/k=7\/k=3))(h4:¬ k=4)(h5:¬ k=5)(h8:¬ k=8)(h10:¬ k=10)(h9:¬ k=9):ap Tryz.prog aB 145 [(Typ.mk k m M s w e f).pv,(Val.mk k vn vs vt vl vf).pv] (.bool (eq (n+1) (.mk k m M s w e f) (.mk k vn vs vt vl vf))):=by
 rw[show eq (n+1) (.mk k m M s w e f) (.mk k vn vs vt vl vf)=true by simp[eq,IL,Typ.kind,Val.kind,h1,h4,h5,h8,h9,h10]]
 have a2:¬ k=2:=by omega
 have a6:¬ k=6:=by omega
 have a7:¬ k=7:=by omega
 have a3:¬ k=3:=by omega
 refine ap.intro f6.2 (by simp[f6]) ?_
 simp(maxSteps:=9^7) (disch:=try exact dI) only[f6,Um,Uo,push_cast,seval]
theorem H1 {α:Type}{p:α->Bool}{l:List α}{i:Nat}{x:α}(h:l[i]? = some x):(l.drop i).all p=(p x&&(l.drop (i+1)).all p):=by
 have hi:=(Ur.1 h).1
 have he:l[i]=x:=(Ur.1 h).2
 rw[List.drop_eq_getElem_cons hi,he,List.all_cons]
theorem Hb (n:Nat)(ih:pq n)(m M s:Int)(w:List (List UInt8))(e:List Typ)(f:List TFd)(vn vs:Int)(vt:List UInt8)(vl:List Val)(vf:List Fld)(N:Nat)(hs:bR N (.mk 9 m M s w e f))(hv:(Val.mk 9 vn vs vt vl vf).ok)(hvf:vf.length<=9000000000000)
  (h:∀ x∈vf,∀ g,cE (.mk 9 m M s w e f) x.name=some g->Ci n g.typ x.value):ap Tryz.prog aB 145 [(Typ.mk 9 m M s w e f).pv,(Val.mk 9 vn vs vt vl vf).pv] (.bool (eq (n+1) (.mk 9 m M s w e f) (.mk 9 vn vs vt vl vf))):=by
 have hfl:f.length<=9000000000000:=by
  cases N with
  | zero=>exact hs.elim
  | succ N=>simp only[bR] at hs;have:=hs.2.2.1;omega
 have hfld:=fun nm=>ta N _ nm hs
 have hla:=wW f 164 [.eptr [(Val.mk 9 vn vs vt vl vf).pv] 0 0] (wl (.mk 9 vn vs vt vl vf)) (fun g _=>PB _ g hv rfl hvf) hfl
 rw[show eq (n+1) (.mk 9 m M s w e f) (.mk 9 vn vs vt vl vf)=((vf.all fun x=>Na (eq n) x.value (cE (.mk 9 m M s w e f) x.name))&&!(f.any (wl (.mk 9 vn vs vt vl vf)))) by simp[eq,IL,Typ.kind,Val.kind,Val.fields,Typ.fields]]
 generalize f.any (wl (.mk 9 vn vs vt vl vf))=q at hla ⊢
 obtain⟨T,hT⟩:∃ T,T=cE (.mk 9 m M s w e f):=⟨_,rfl⟩
 rw[<- hT] at h ⊢
 have hfld:∀ nm,ap Tryz.prog aB 163 [(Typ.mk 9 m M s w e f).pv,.str nm] (tfR (T nm)):=fun nm=>by rw[hT];exact hfld nm
 clear hT
 simp only[Um,Uo] at hfld hla
 obtain⟨p,hp⟩:∃ p:Fld->Bool,p=fun x=>Na (eq n) x.value (T x.name):=⟨_,rfl⟩
 rw[<- hp]
 obtain⟨R,hR⟩:∃ R,R=(vf.all p&&!q):=⟨_,rfl⟩
 rw[<- hR]
 refine ap.intro f6.2 (by simp[f6]) ?_
 simp(maxSteps:=9^7) (disch:=try exact dI) only[f6,Um,Uo,push_cast,seval]
 refine aw ([]) (fun i:Nat=>[(107,.pv (.int .i64 (i:Int)))]) (fun _=>[]) (fun i=>i<=vf.length/\R=((vf.drop i).all p&&!q)) (fun i=>vf.length - i) (0) ?_;intro e0 σ0 n0 h0;simp(maxSteps:=9^7) (disch:=try exact dI) only[push_cast,seval] at h0;obtain⟨rfl,rfl,rfl⟩:=h0;refine⟨?_,?_,?_⟩
 ·simp(maxSteps:=9^7) (disch:=try exact dI) only[push_cast,seval]
 ·exact⟨by omega,by simpa using hR⟩
 rintro i ⟨hi,hr⟩
 by_cases hlt:i<vf.length
 ·have hltI:(i:Int)<(vf.length:Int):=by omega
  obtain⟨x,hx⟩:∃ x,vf[i]? = some x:=⟨_,List.getElem?_eq_getElem hlt⟩
  rw[H1 hx] at hr
  have hph:=h x (List.mem_of_getElem? hx)
  have hc:=hfld x.name
  rw[show p x=Na (eq n) x.value (T x.name) by rw[hp]] at hr
  generalize T x.name=o at hph hc hr
  obtain⟨xn,y⟩:=x
  simp only[Fld.name,Fld.value] at hph hc hr
  cases o with
  | none=>
    simp only[Na,Vy] at hr
    subst hr
    obtain⟨yk,yn,ys,yt,yl,yf⟩:=y
    simp only[tfR,Option.getD_none,VH,kG,Uh,Um,ae] at hc
    simp(maxSteps:=9^7) (disch:=try exact dI) only[hx,UM,TY,Uo,ae,push_cast,seval]
    refine ab.pure hc rfl ?_
    simp(maxSteps:=9^7) (disch:=try exact dI) only[push_cast,seval]
  | some g=>
    have hh:=ih _ _ (hph g rfl)
    simp only[Na] at hr
    obtain⟨n',nm',nd',⟨k',m',M',s',w',e',f'⟩,d'⟩:=g
    simp only[TFd.typ] at hh hr
    generalize eq n (.mk k' m' M' s' w' e' f') y=b at hh hr
    obtain⟨yk,yn,ys,yt,yl,yf⟩:=y
    simp only[tfR,Vb,Vv,Uh,Um,Uo,ae] at hc hh
    cases b with
    | false=>
      simp only[Vy] at hr
      subst hr
      simp(maxSteps:=9^7) (disch:=try exact dI) only[hx,UM,TY,Uo,ae,push_cast,seval]
      refine ab.pure hc rfl ?_
      simp(maxSteps:=9^7) (disch:=try exact dI) only[push_cast,seval]
      refine ab.pure hh rfl ?_
      simp(maxSteps:=9^7) (disch:=try exact dI) only[push_cast,seval]
    | true=>
      rw[Vz] at hr
      simp(maxSteps:=9^7) (disch:=try exact dI) only[hx,UM,TY,Uo,ae,push_cast,seval]
      refine ab.pure hc rfl ?_
      simp(maxSteps:=9^7) (disch:=try exact dI) only[push_cast,seval]
      refine ab.pure hh rfl ?_
      simp(maxSteps:=9^7) (disch:=try exact dI) only[push_cast,seval]
      exact⟨i+1,aN qsZ,⟨by omega,hr⟩,by omega⟩
 ·obtain rfl:i=vf.length:=by omega
  rw[List.drop_length,List.all_nil,Vz] at hr
  subst hr
  simp(maxSteps:=9^7) (disch:=try exact dI) only[Int.lt_irrefl,push_cast,seval]
  refine ab.pure hla rfl ?_
  simp(maxSteps:=9^7) (disch:=try exact dI) only[push_cast,seval]
theorem IM:∀ n,pq n
 | 0=>fun _ _ h=>h.elim
 | n+1=>fun t v h=>by
   have ih:=IM n
   simp only[Ci] at h
   obtain⟨⟨N,hs⟩,_,hw,hv,hl,hf,h⟩:=h
   by_cases hk:v.kind=t.kind
   ·have h:=h hk
    obtain⟨k,m,M,s,w,e,f⟩:=t
    obtain⟨vk,vn,vs,vt,vl,vf⟩:=v
    simp only[Val.kind,Typ.kind,Typ.words,Val.lst,Val.fields,Val.text,Typ.elem] at hk h hw hl hf
    subst hk
    obtain⟨_,h8,h10,h9⟩:=h
    by_cases h1:vk=2\/vk=6\/vk=7\/vk=3
    ·exact wy n _ _ _ _ _ _ _ _ _ _ _ _ h1
    by_cases h4:vk=4
    ·subst h4;exact Hf n _ _ _ _ _ _ _ _ _ _ _ hw
    by_cases h5:vk=5
    ·subst h5;exact He n _ _ _ _ _ _ _ _ _ _ _
    by_cases h8':vk=8
    ·subst h8';exact Hc n ih _ _ _ _ _ _ _ _ _ _ _ hl (h8 rfl)
    by_cases h10':vk=10
    ·subst h10';exact Cl n ih _ _ _ _ _ _ _ _ _ _ _ N hs (h10 rfl)
    by_cases h9':vk=9
    ·subst h9';exact Hb n ih _ _ _ _ _ _ _ _ _ _ _ N hs hv hf (h9 rfl)
    exact rm n _ _ _ _ _ _ _ _ _ _ _ _ h1 h4 h5 h8' h10' h9'
   ·exact Ck n t v hk
theorem fO:∀ (n:Nat) (t:Typ),bR n t->bR (n+1) t
 | 0,_,h=>h.elim
 | n+1,.mk k m M s w e f,h=>by
   obtain⟨h1,h2,h3,h4,h5⟩:=h
   exact⟨h1,h2,h3,fun x hx=>fO n x (h4 x hx),fun g hg=>⟨(h5 g hg).1,(h5 g hg).2.1,fO n g.typ (h5 g hg).2.2⟩⟩
theorem ga {n m:Nat}(h:n<=m){t:Typ}(ht:bR n t):bR m t:=by
 induction h with
 | refl=>exact ht
 | step _ ih=>exact fO _ _ ih
theorem jh {α:Type}(g:α->Typ):∀ l:List α,(∀ x∈l,∃ n,bR n (g x))->∃ n,∀ x∈l,bR n (g x)
 | [],_=>⟨0,by simp⟩
 | x::r,h=>by
   obtain⟨n,hn⟩:=h x (by simp)
   obtain⟨m,hm⟩:=jh g r fun y hy=>h y (List.mem_cons_of_mem _ hy)
   refine⟨max n m,fun y hy=>?_⟩
   rcases UP.1 hy with rfl | hy
   ·exact ga (Nat.le_max_left _ _) hn
   ·exact ga (Nat.le_max_right _ _) (hm y hy)
theorem lX:∀ (t:Typ),t.ok->∃ n,bR n t
 | .mk k m M s w e f,h=>by
   rw[Ul] at h
   obtain⟨_,_,_,_,h1,_,h2,h3,h4,h5⟩:=h
   have e1:∀ x∈e,∃ n,bR n x:=fun x hx=>lX x (h3 x hx)
   have f1:∀ g∈f,∃ n,bR n g.typ:=fun g hg=>by
    have hg':=h5 g hg
    obtain⟨a1,a2,a3,a4,a5⟩:=g
    rw[Ug] at hg'
    exact lX a4 hg'.2.2.2.1
   obtain⟨a,ha⟩:=jh id e e1
   obtain⟨b,hb⟩:=jh TFd.typ f f1
   refine⟨max a b+1,h1,h2,h4,fun x hx=>ga (Nat.le_max_left _ _) (ha x hx),fun g hg=>?_⟩
   have hg':=h5 g hg
   have hgt:=ga (Nat.le_max_right a b) (hb g hg)
   obtain⟨a1,a2,a3,a4,a5⟩:=g
   rw[Ug] at hg'
   exact⟨hg'.2.2.2.2.1,hg'.2.2.2.2.2,hgt⟩
termination_by t=>SizeOf.sizeOf t
decreasing_by
 all_goals simp_wf
 ·have:=Vi hx;omega
 ·have:=Vi hg
  simp only[TFd.mk.sizeOf_spec] at this
  omega
def Js:Nat->Val->Prop
 | 0,_=>False
 | n+1,v=>(b9 v=0/\eL v=true)/\∀ x∈cP v,Js n x
theorem tw:∀ (xs:List (Int×Val)) (i:Nat),py i xs=0->∀ q∈xs,∃ j,bz j q=0
 | [],_,_,_,h=>by cases h
 | x::r,i,h,q,hq=>by
   rw[py] at h
   by_cases h0:bz i x=0
   ·rw[if_pos h0] at h
    rcases UP.1 hq with rfl | hq
    ·exact⟨i,h0⟩
    ·exact tw r (i+1) h q hq
   ·rw[if_neg h0] at h;exact absurd h h0
theorem uz {j:Nat}{q:Int×Val}(h:bz j q=0):b9 q.2=0/\eL q.2=true:=by
 unfold bz at h
 split at h
 ·cases h
 split at h
 ·cases h
 split at h
 ·cases h
 split at h
 ·cases h
 split at h
 ·cases h
 ·rename_i hu
  exact⟨h,by simpa using hu⟩
theorem yG:∀ (n:Nat) (lv:Int) (v:Val),kB n v->(∀ q∈eS n lv v,b9 q.2=0/\eL q.2=true)->Js n v
 | 0,_,_,hd,_=>hd.elim
 | n+1,lv,v,hd,h=>by
   simp only[eS,UP,List.mem_flatMap] at h
   refine⟨h (lv,v) (.inl rfl),fun x hx=>yG n (Go.RowKit.wrap64 (lv+1)) x (hd x hx) fun q hq=>h q (.inr ⟨x,hx,hq⟩)⟩
theorem El {n:Nat}{v:Val}(hd:kB n v)(h:py 0 (eS n 1 v)=0):Js n v:=
 yG n 1 v hd fun q hq=>by obtain⟨j,hj⟩:=tw _ _ h q hq;exact uz hj
noncomputable def accB (n:Nat)(t:Typ)(v:Val):Bool:=decide (PF v=0)&&eq n t v
theorem xG (n:Nat)(t:Typ)(v:Val)(hv:v.ok)(hP:PF v=0->Ci n t v):ap Tryz.prog aB 132 [t.pv,v.pv] (.bool (accB n t v)):=by
 have hc:=Mu v hv
 simp only[accB]
 generalize PF v=z at hc hP ⊢
 by_cases hz:z=0
 ·have hh:=IM n t v (hP hz)
  subst hz
  generalize eq n t v=b at hh ⊢
  obtain⟨k,m,M,s,w,e,f⟩:=t
  obtain⟨vk,vn,vs,vt,vl,vf⟩:=v
  simp only[Um,Uo] at hc hh
  refine ap.intro Nn.2 (by simp[Nn]) ?_
  simp(maxSteps:=9^7) (disch:=try exact dI) only[Nn,Um,Uo,push_cast,seval]
  refine ab.pure hc rfl ?_
  simp(maxSteps:=9^7) (disch:=try exact dI) only[push_cast,seval]
  refine ab.pure hh rfl ?_
  simp(maxSteps:=9^7) (disch:=try exact dI) only[push_cast,seval]
 ·rw[decide_eq_false hz,Vy]
  obtain⟨k,m,M,s,w,e,f⟩:=t
  obtain⟨vk,vn,vs,vt,vl,vf⟩:=v
  simp only[Um,Uo] at hc
  refine ap.intro Nn.2 (by simp[Nn]) ?_
  simp(maxSteps:=9^7) (disch:=try exact dI) only[Nn,Um,Uo,push_cast,seval]
  refine ab.pure hc rfl ?_
  simp(maxSteps:=9^7) (disch:=try exact dI) only[hz,push_cast,seval]
noncomputable def kA (n:Nat):TFd->Bool
 | .mk _ _ nd t d=>decide (nd=3)&&!(Ce (accB n t) d)
def tyV:Nat->Typ->Prop
 | 0,_=>False
 | n+1,.mk k m M s w e f=>kq (.mk k m M s w e f)=0/\(k=8->∀ x∈e,tyV n x)/\(k=9\/k=10->∀ g∈f,tyV n g.typ/\(k=9->kA n g=false))
theorem el {k m M s:Int}{w:List (List UInt8)}{e:List Typ}{f:List TFd}(h:kq (.mk k m M s w e f)=0):inB k 1 10=true/\fc k m M s w=0/\cU k e.length f.length=0/\dl k [] f=0:=by
 rw[kq] at h
 by_cases a:inB k 1 10=false
 ·rw[if_pos a] at h;exact absurd h (by decide)
 rw[if_neg a] at h
 by_cases b:jR k (.mk k m M s w e f)=true
 ·rw[if_pos b] at h;exact absurd h (by decide)
 rw[if_neg b] at h
 by_cases c:fc k m M s w=0
 ·rw[if_neg (fun hh=>hh c)] at h
  by_cases d:cU k e.length f.length=0
  ·rw[if_neg (fun hh=>hh d)] at h
   exact⟨by simpa using a,c,d,h⟩
  ·rw[if_pos d] at h;exact absurd h d
 ·rw[if_pos c] at h;exact absurd h c
theorem AU {k m M s:Int}{w:List (List UInt8)}{e:List Typ}{f:List TFd}(h:kq (.mk k m M s w e f)=0)(hk:¬ k=3):s=0:=by
 rw[kq] at h
 by_cases a:inB k 1 10=false
 ·rw[if_pos a] at h;exact absurd h (by decide)
 rw[if_neg a] at h
 by_cases b:jR k (.mk k m M s w e f)=true
 ·rw[if_pos b] at h;exact absurd h (by decide)
 have b':jR k (.mk k m M s w e f)=false:=by simpa using b
 simp only[jR,aM,Bool.or_eq_false_iff] at b'
 obtain⟨_,b2,_⟩:=b'
 rw[decide_eq_false hk] at b2
 simpa using b2
theorem sx {m M s:Int}{w:List (List UInt8)}{e:List Typ}{f:List TFd}(h:kq (.mk 8 m M s w e f)=0):∃ x,e=[x]:=by
 have h1:=(el h).2.2.1
 match e,h1 with
 | [],h1=>simp[cU] at h1
 | [x],_=>exact⟨x,rfl⟩
 | x::y::r,h1=>simp[cU] at h1
theorem kL {t:Typ}{nm:List UInt8}{g:TFd}(h:cE t nm=some g):(t.kind=9\/t.kind=10)/\g∈t.fields:=by
 unfold cE at h
 split at h
 ·rename_i hk;exact⟨hk,List.mem_of_find?_eq_some h⟩
 ·cases h
theorem E4 {v:Val}(hk:v.kind=10)(h:b9 v=0):∃ y r,v.lst=y::r:=by
 obtain⟨vk,vn,vs,vt,vl,vf⟩:=v
 simp only[Val.kind] at hk
 subst hk
 cases vl with
 | cons y r=>exact⟨y,r,rfl⟩
 | nil=>
   simp only[b9,show ¬ (10:Int)=1 by decide,show ¬ (10:Int)=2 by decide,show ¬ (10:Int)=3 by decide,show ¬ (10:Int)=4 by decide,show ¬ (10:Int)=5 by decide,show ¬ (10:Int)=6 by decide,show ¬ (10:Int)=7 by decide,show ¬ (10:Int)=8 by decide,show ¬ (10:Int)=9 by decide,if_false,if_true,List.length_nil] at h
   split at h<;>exact absurd h (by decide)
theorem my:∀ (n m:Nat) (t:Typ) (v:Val),tyV n t->t.ok->Js m v->v.ok->Ci n t v
 | 0,_,_,_,h,_,_,_=>h.elim
 | _+1,0,_,_,_,_,h,_=>h.elim
 | n+1,m+1,t,v,h1,h2,h3,h4=>by
   have hv:=h4
   obtain⟨⟨hr,hu⟩,hp⟩:=h3
   obtain⟨N,hsm⟩:=lX t h2
   have hk8:v.kind=8->∀ y∈v.lst,Js m y:=fun hk y hy=>hp y (by rw[g5 (.inl hk)];exact hy)
   have hk10:v.kind=10->∀ y∈v.lst,Js m y:=fun hk y hy=>hp y (by rw[g5 (.inr hk)];exact hy)
   have hk9:v.kind=9->∀ x∈v.fields,Js m x.value:=fun hk x hx=>hp x.value (by rw[lc hk];exact List.mem_map_of_mem hx)
   obtain⟨k,mn,M,s,w,e,f⟩:=t
   simp only[tyV] at h1
   rw[Ul] at h2
   obtain⟨ho,ht8,ht9⟩:=h1
   obtain⟨_,_,_,_,t1,_,_,t5,_,t6⟩:=h2
   have hvl:v.lst.length<=9000000000000/\v.fields.length<=9000000000000/\(∀ x∈v.lst,x.ok)/\∀ x∈v.fields,x.value.ok:=by
    obtain⟨vk,vn,vs,vt,vl,vf⟩:=v
    rw[Un] at h4
    obtain⟨_,_,_,_,q1,q2,q3,q4⟩:=h4
    refine⟨by simp only[Val.lst];omega,by simp only[Val.fields];omega,q2,fun x hx=>?_⟩
    have:=q4 x hx
    obtain⟨nm,y⟩:=x
    rw[TX] at this
    exact this.2
   obtain⟨hvl,hvf,hl,hf⟩:=hvl
   have hgt:∀ g∈f,g.typ.ok:=fun g hg=>by
    have:=t6 g hg
    obtain⟨a1,a2,a3,a4,a5⟩:=g
    rw[Ug] at this
    exact this.2.2.2.1
   have hkk:inB k 1 10=true:=(el ho).1
   refine⟨⟨N,hsm⟩,by simpa[inB,Typ.kind] using hkk,by simp only[Typ.words];omega,hv,hvl,hvf,fun hk=>⟨?_,?_,?_,?_⟩⟩
   ·intro h2
    simp only[Typ.kind] at h2 hk
    have hs:=AU ho (by omega)
    obtain⟨vk,vn,vs,vt,vl,vf⟩:=v
    simp only[Val.kind] at hk
    subst hk
    simp only[eL,Bool.and_eq_true,Bool.or_eq_true,decide_eq_true_eq] at hu
    simp only[Val.scale,Typ.scale]
    omega
   ·intro h8 y hy
    simp only[Typ.kind] at h8 hk
    subst h8
    obtain⟨x,rfl⟩:=sx ho
    exact⟨x,[],rfl,my n m x y (ht8 rfl x (Vt ..)) (t5 x (Vt ..)) (hk8 hk y hy) (hl y hy)⟩
   ·intro h10 g hg
    simp only[Typ.kind] at h10 hk
    subst h10
    obtain⟨_,hgm⟩:=kL hg
    simp only[Typ.fields] at hgm
    obtain⟨y,r,hy⟩:=E4 hk hr
    have hym:y∈v.lst:=by rw[hy];exact Vt ..
    exact⟨y,r,hy,my n m g.typ y (ht9 (.inr rfl) g hgm).1 (hgt g hgm) (hk10 hk y hym) (hl y hym)⟩
   ·intro h9 x hx g hg
    simp only[Typ.kind] at h9 hk
    subst h9
    obtain⟨_,hgm⟩:=kL hg
    simp only[Typ.fields] at hgm
    exact my n m g.typ x.value (ht9 (.inl rfl) g hgm).1 (hgt g hgm) (hk9 hk x hx) (hf x hx)
