/- A part of the proof. -/
import Derived.Test.YtbojpfpliibfbaaGreatDoorCaRS9
set_option maxHeartbeats 16000000
set_option maxRecDepth 100000
set_option linter.unusedVariables false
set_option linter.unusedSimpArgs false
namespace Go.Proofs.YtbojpfpliibfbaaGreatDoor
open Go Go.Ab
attribute [local irreducible] vc
theorem BC (n:Nat)(ih:pN n)(m M s:Int)(w:List (List UInt8))(e:List Typ)(f:List TFd)(vn vs:Int)(vt:List UInt8)(vl:List Val)(vf:List Fld)(N:Nat)(hs:bA N (.mk 10 m M s w e f))
  (h:∀ g,cl (.mk 10 m M s w e f) vt=some g->∃ y r,vl=y::r/\BA n g.typ y):ag Tryz.prog au 234 [(Typ.mk 10 m M s w e f).pv,(Val.mk 10 vn vs vt vl vf).pv] (.bool (d6 (n+1) (.mk 10 m M s w e f) (.mk 10 vn vs vt vl vf))):=by
 have hc:=tJ N _ vt hs
 rw[show d6 (n+1) (.mk 10 m M s w e f) (.mk 10 vn vs vt vl vf)=Ph (d6 n) vl (cl (.mk 10 m M s w e f) vt) by simp[d6,Ga,Typ.kind,Val.kind,Val.lst,Val.text]]
 generalize cl (.mk 10 m M s w e f) vt=o at hc h ⊢
 simp only[Typ.pv_mk] at hc
 cases o with
 | none=>
   simp only[tfR,Option.getD_none,Option.isSome_none,iM,TFd.pv_mk,Typ.pv_mk,am,Ph] at hc ⊢
   refine ag.intro ga.2 (by simp[ga]) ?_
   simp(disch:=try exact dI) only[ga,Typ.pv_mk,Val.pv_mk,push_cast,seval]
   refine ab.pure hc rfl ?_
   exact qsZ
 | some g=>
   obtain⟨y,r,rfl,hy⟩:=h g rfl
   have hh:=ih _ _ hy
   obtain⟨n',nm',nd',⟨k',m',M',s',w',e',f'⟩,d'⟩:=g
   simp only[TFd.typ,Ph,Bw] at hh ⊢
   generalize d6 n (.mk k' m' M' s' w' e' f') y=b at hh ⊢
   obtain⟨yk,yn,ys,yt,yl,yf⟩:=y
   simp only[tfR,Option.getD_some,Option.isSome_some,TFd.pv_mk,Typ.pv_mk,Val.pv_mk,am] at hc hh ⊢
   refine ag.intro ga.2 (by simp[ga]) ?_
   simp(disch:=try exact dI) only[ga,Typ.pv_mk,Val.pv_mk,aF,push_cast,seval]
   refine ab.pure hc rfl ?_
   simp(disch:=try exact dI) only[aF,Val.pv_mk,push_cast,seval]
   refine ab.pure hh rfl ?_
   exact qsZ
theorem rz (n:Nat)(k m M s:Int)(w:List (List UInt8))(e:List Typ)(f:List TFd)(vn vs:Int)(vt:List UInt8)(vl:List Val)(vf:List Fld)(h1:¬ (k=2\/k=6\/k=7\/k=3))(h4:¬ k=4)(h5:¬ k=5)(h8:¬ k=8)(h10:¬ k=10)(h9:¬ k=9):ag Tryz.prog au 234 [(Typ.mk k m M s w e f).pv,(Val.mk k vn vs vt vl vf).pv] (.bool (d6 (n+1) (.mk k m M s w e f) (.mk k vn vs vt vl vf))):=by
 rw[show d6 (n+1) (.mk k m M s w e f) (.mk k vn vs vt vl vf)=true by simp[d6,Ga,Typ.kind,Val.kind,h1,h4,h5,h8,h9,h10]]
 have a2:¬ k=2:=by omega
 have a6:¬ k=6:=by omega
 have a7:¬ k=7:=by omega
 have a3:¬ k=3:=by omega
 refine ag.intro ga.2 (by simp[ga]) ?_
 simp(disch:=try exact dI) only[ga,Typ.pv_mk,Val.pv_mk,push_cast,seval]
theorem GW {α:Type}{p:α->Bool}{l:List α}{i:Nat}{x:α}(h:l[i]? = some x):(l.drop i).all p=(p x&&(l.drop (i+1)).all p):=by
 have hi:=(List.getElem?_eq_some_iff.1 h).1
 have he:l[i]=x:=(List.getElem?_eq_some_iff.1 h).2
 rw[List.drop_eq_getElem_cons hi,he,List.all_cons]
theorem Gb (n:Nat)(ih:pN n)(m M s:Int)(w:List (List UInt8))(e:List Typ)(f:List TFd)(vn vs:Int)(vt:List UInt8)(vl:List Val)(vf:List Fld)(N:Nat)(hs:bA N (.mk 9 m M s w e f))(hv:(Val.mk 9 vn vs vt vl vf).ok)(hvf:vf.length<=9000000000000)
  (h:∀ x∈vf,∀ g,cl (.mk 9 m M s w e f) x.name=some g->BA n g.typ x.value):ag Tryz.prog au 234 [(Typ.mk 9 m M s w e f).pv,(Val.mk 9 vn vs vt vl vf).pv] (.bool (d6 (n+1) (.mk 9 m M s w e f) (.mk 9 vn vs vt vl vf))):=by
 have hfl:f.length<=9000000000000:=by
  cases N with
  | zero=>exact hs.elim
  | succ N=>simp only[bA] at hs;have:=hs.2.2.1;omega
 have hfld:=fun nm=>tJ N _ nm hs
 have hla:=my f 266 [.eptr [(Val.mk 9 vn vs vt vl vf).pv] 0 0] (we (.mk 9 vn vs vt vl vf)) (fun g _=>Od _ g hv rfl hvf) hfl
 rw[show d6 (n+1) (.mk 9 m M s w e f) (.mk 9 vn vs vt vl vf)=((vf.all fun x=>LR (d6 n) x.value (cl (.mk 9 m M s w e f) x.name))&&!(f.any (we (.mk 9 vn vs vt vl vf)))) by simp[d6,Ga,Typ.kind,Val.kind,Val.fields,Typ.fields]]
 generalize f.any (we (.mk 9 vn vs vt vl vf))=q at hla ⊢
 obtain⟨T,hT⟩:∃ T,T=cl (.mk 9 m M s w e f):=⟨_,rfl⟩
 rw[<- hT] at h ⊢
 have hfld:∀ nm,ag Tryz.prog au 265 [(Typ.mk 9 m M s w e f).pv,.str nm] (tfR (T nm)):=fun nm=>by rw[hT];exact hfld nm
 clear hT
 simp only[Typ.pv_mk,Val.pv_mk] at hfld hla
 obtain⟨p,hp⟩:∃ p:Fld->Bool,p=fun x=>LR (d6 n) x.value (T x.name):=⟨_,rfl⟩
 rw[<- hp]
 obtain⟨R,hR⟩:∃ R,R=(vf.all p&&!q):=⟨_,rfl⟩
 rw[<- hR]
 refine ag.intro ga.2 (by simp[ga]) ?_
 simp(disch:=try exact dI) only[ga,Typ.pv_mk,Val.pv_mk,push_cast,seval]
 refine az ([]) (fun i:Nat=>[(107,.pv (.int .i64 (i:Int)))]) (fun _=>[]) (fun i=>i<=vf.length/\R=((vf.drop i).all p&&!q)) (fun i=>vf.length - i) (0) ?_;intro e0 σ0 n0 h0;simp(disch:=try exact dI) only[push_cast,seval] at h0;obtain⟨rfl,rfl,rfl⟩:=h0;refine⟨?_,?_,?_⟩
 ·exact qsZ
 ·exact⟨by omega,by simpa using hR⟩
 rintro i ⟨hi,hr⟩
 by_cases hlt:i<vf.length
 ·have hltI:(i:Int)<(vf.length:Int):=by omega
  obtain⟨x,hx⟩:∃ x,vf[i]? = some x:=⟨_,List.getElem?_eq_getElem hlt⟩
  rw[GW hx] at hr
  have hph:=h x (List.mem_of_getElem? hx)
  have hc:=hfld x.name
  rw[show p x=LR (d6 n) x.value (T x.name) by rw[hp]] at hr
  generalize T x.name=o at hph hc hr
  obtain⟨xn,y⟩:=x
  simp only[Fld.name,Fld.value] at hph hc hr
  cases o with
  | none=>
    simp only[LR,Bool.false_and] at hr
    subst hr
    obtain⟨yk,yn,ys,yt,yl,yf⟩:=y
    simp only[tfR,Option.getD_none,Option.isSome_none,iM,TFd.pv_mk,Typ.pv_mk,am] at hc
    simp(disch:=try exact dI) only[hx,Option.map_some,Fld.pv_mk,Val.pv_mk,am,push_cast,seval]
    refine ab.pure hc rfl ?_
    exact qsZ
  | some g=>
    have hh:=ih _ _ (hph g rfl)
    simp only[LR] at hr
    obtain⟨n',nm',nd',⟨k',m',M',s',w',e',f'⟩,d'⟩:=g
    simp only[TFd.typ] at hh hr
    generalize d6 n (.mk k' m' M' s' w' e' f') y=b at hh hr
    obtain⟨yk,yn,ys,yt,yl,yf⟩:=y
    simp only[tfR,Option.getD_some,Option.isSome_some,TFd.pv_mk,Typ.pv_mk,Val.pv_mk,am] at hc hh
    cases b with
    | false=>
      simp only[Bool.false_and] at hr
      subst hr
      simp(disch:=try exact dI) only[hx,Option.map_some,Fld.pv_mk,Val.pv_mk,am,push_cast,seval]
      refine ab.pure hc rfl ?_
      refine zgZ ?_
      refine ab.pure hh rfl ?_
      exact qsZ
    | true=>
      rw[Bool.true_and] at hr
      simp(disch:=try exact dI) only[hx,Option.map_some,Fld.pv_mk,Val.pv_mk,am,push_cast,seval]
      refine ab.pure hc rfl ?_
      refine zgZ ?_
      refine ab.pure hh rfl ?_
      refine zgZ ?_
      exact⟨i+1,aZ qsZ,⟨by omega,hr⟩,by omega⟩
 ·obtain rfl:i=vf.length:=by omega
  rw[List.drop_length,List.all_nil,Bool.true_and] at hr
  subst hr
  simp(disch:=try exact dI) only[Int.lt_irrefl,push_cast,seval]
  refine ab.pure hla rfl ?_
  exact qsZ
theorem HV:∀ n,pN n
 | 0=>fun _ _ h=>h.elim
 | n+1=>fun t v h=>by
   have ih:=HV n
   simp only[BA] at h
   obtain⟨⟨N,hs⟩,_,hw,hv,hl,hf,h⟩:=h
   by_cases hk:v.kind=t.kind
   ·have h:=h hk
    obtain⟨k,m,M,s,w,e,f⟩:=t
    obtain⟨vk,vn,vs,vt,vl,vf⟩:=v
    simp only[Val.kind,Typ.kind,Typ.words,Val.lst,Val.fields,Val.text,Typ.elem] at hk h hw hl hf
    subst hk
    obtain⟨_,h8,h10,h9⟩:=h
    by_cases h1:vk=2\/vk=6\/vk=7\/vk=3
    ·exact wn n _ _ _ _ _ _ _ _ _ _ _ _ h1
    by_cases h4:vk=4
    ·subst h4;exact Ge n _ _ _ _ _ _ _ _ _ _ _ hw
    by_cases h5:vk=5
    ·subst h5;exact Gd n _ _ _ _ _ _ _ _ _ _ _
    by_cases h8':vk=8
    ·subst h8';exact Gc n ih _ _ _ _ _ _ _ _ _ _ _ hl (h8 rfl)
    by_cases h10':vk=10
    ·subst h10';exact BC n ih _ _ _ _ _ _ _ _ _ _ _ N hs (h10 rfl)
    by_cases h9':vk=9
    ·subst h9';exact Gb n ih _ _ _ _ _ _ _ _ _ _ _ N hs hv hf (h9 rfl)
    exact rz n _ _ _ _ _ _ _ _ _ _ _ _ h1 h4 h5 h8' h10' h9'
   ·exact BB n t v hk
theorem fS:∀ (n:Nat) (t:Typ),bA n t->bA (n+1) t
 | 0,_,h=>h.elim
 | n+1,.mk k m M s w e f,h=>by
   obtain⟨h1,h2,h3,h4,h5⟩:=h
   exact⟨h1,h2,h3,fun x hx=>fS n x (h4 x hx),fun g hg=>⟨(h5 g hg).1,(h5 g hg).2.1,fS n g.typ (h5 g hg).2.2⟩⟩
theorem gm {n m:Nat}(h:n<=m){t:Typ}(ht:bA n t):bA m t:=by
 induction h with
 | refl=>exact ht
 | step _ ih=>exact fS _ _ ih
theorem jP {α:Type}(g:α->Typ):∀ l:List α,(∀ x∈l,∃ n,bA n (g x))->∃ n,∀ x∈l,bA n (g x)
 | [],_=>⟨0,by simp⟩
 | x::r,h=>by
   obtain⟨n,hn⟩:=h x (by simp)
   obtain⟨m,hm⟩:=jP g r fun y hy=>h y (List.mem_cons_of_mem _ hy)
   refine⟨max n m,fun y hy=>?_⟩
   rcases List.mem_cons.1 hy with rfl | hy
   ·exact gm (Nat.le_max_left _ _) hn
   ·exact gm (Nat.le_max_right _ _) (hm y hy)
theorem mS:∀ (t:Typ),t.ok->∃ n,bA n t
 | .mk k m M s w e f,h=>by
   rw[Typ.ok_mk] at h
   obtain⟨_,_,_,_,h1,_,h2,h3,h4,h5⟩:=h
   have e1:∀ x∈e,∃ n,bA n x:=fun x hx=>mS x (h3 x hx)
   have f1:∀ g∈f,∃ n,bA n g.typ:=fun g hg=>by
    have hg':=h5 g hg
    obtain⟨a1,a2,a3,a4,a5⟩:=g
    rw[TFd.ok_mk] at hg'
    exact mS a4 hg'.2.2.2.1
   obtain⟨a,ha⟩:=jP id e e1
   obtain⟨b,hb⟩:=jP TFd.typ f f1
   refine⟨max a b+1,h1,h2,h4,fun x hx=>gm (Nat.le_max_left _ _) (ha x hx),fun g hg=>?_⟩
   have hg':=h5 g hg
   have hgt:=gm (Nat.le_max_right a b) (hb g hg)
   obtain⟨a1,a2,a3,a4,a5⟩:=g
   rw[TFd.ok_mk] at hg'
   exact⟨hg'.2.2.2.2.1,hg'.2.2.2.2.2,hgt⟩
termination_by t=>SizeOf.sizeOf t
decreasing_by
 all_goals simp_wf
 ·have:=List.sizeOf_lt_of_mem hx;omega
 ·have:=List.sizeOf_lt_of_mem hg
  simp only[TFd.mk.sizeOf_spec] at this
  omega
def Ix:Nat->Val->Prop
 | 0,_=>False
 | n+1,v=>(bG v=0/\aD v=true)/\∀ x∈cx v,Ix n x
theorem tU:∀ (xs:List (Int×Val)) (i:Nat),pu i xs=0->∀ q∈xs,∃ j,a8 j q=0
 | [],_,_,_,h=>by cases h
 | x::r,i,h,q,hq=>by
   rw[pu] at h
   by_cases h0:a8 i x=0
   ·rw[if_pos h0] at h
    rcases List.mem_cons.1 hq with rfl | hq
    ·exact⟨i,h0⟩
    ·exact tU r (i+1) h q hq
   ·rw[if_neg h0] at h;exact absurd h h0
theorem uM {j:Nat}{q:Int×Val}(h:a8 j q=0):bG q.2=0/\aD q.2=true:=by
 unfold a8 at h
 split at h
 ·cases h
 split at h
 ·cases h
 split at h
 ·cases h
 split at h
 ·cases h
 split at h
 ·cases h
 ·rename_i hu
  exact⟨h,by simpa using hu⟩
theorem yc:∀ (n:Nat) (lv:Int) (v:Val),kU n v->(∀ q∈eR n lv v,bG q.2=0/\aD q.2=true)->Ix n v
 | 0,_,_,hd,_=>hd.elim
 | n+1,lv,v,hd,h=>by
   simp only[eR,List.mem_cons,List.mem_flatMap] at h
   refine⟨h (lv,v) (.inl rfl),fun x hx=>yc n (Go.RowKit.wrap64 (lv+1)) x (hd x hx) fun q hq=>h q (.inr ⟨x,hx,hq⟩)⟩
theorem DP {n:Nat}{v:Val}(hd:kU n v)(h:pu 0 (eR n 1 v)=0):Ix n v:=
 yc n 1 v hd fun q hq=>by obtain⟨j,hj⟩:=tU _ _ h q hq;exact uM hj
noncomputable def accB (n:Nat)(t:Typ)(v:Val):Bool:=decide (H9 v=0)&&d6 n t v
theorem xA (n:Nat)(t:Typ)(v:Val)(hv:v.ok)(hP:H9 v=0->BA n t v):ag Tryz.prog au 180 [t.pv,v.pv] (.bool (accB n t v)):=by
 have hc:=Lc v hv
 simp only[accB]
 generalize H9 v=z at hc hP ⊢
 by_cases hz:z=0
 ·have hh:=HV n t v (hP hz)
  subst hz
  generalize d6 n t v=b at hh ⊢
  obtain⟨k,m,M,s,w,e,f⟩:=t
  obtain⟨vk,vn,vs,vt,vl,vf⟩:=v
  simp only[Typ.pv_mk,Val.pv_mk] at hc hh
  refine ag.intro Mf.2 (by simp[Mf]) ?_
  simp(disch:=try exact dI) only[Mf,Typ.pv_mk,Val.pv_mk,push_cast,seval]
  refine ab.pure hc rfl ?_
  refine zgZ ?_
  refine ab.pure hh rfl ?_
  exact qsZ
 ·rw[decide_eq_false hz,Bool.false_and]
  obtain⟨k,m,M,s,w,e,f⟩:=t
  obtain⟨vk,vn,vs,vt,vl,vf⟩:=v
  simp only[Typ.pv_mk,Val.pv_mk] at hc
  refine ag.intro Mf.2 (by simp[Mf]) ?_
  simp(disch:=try exact dI) only[Mf,Typ.pv_mk,Val.pv_mk,push_cast,seval]
  refine ab.pure hc rfl ?_
  simp(disch:=try exact dI) only[hz,push_cast,seval]
noncomputable def ly (n:Nat):TFd->Bool
 | .mk _ _ nd t d=>decide (nd=3)&&!(Bw (accB n t) d)
def tyV:Nat->Typ->Prop
 | 0,_=>False
 | n+1,.mk k m M s w e f=>dK (.mk k m M s w e f)=0/\(k=8->∀ x∈e,tyV n x)/\(k=9\/k=10->∀ g∈f,tyV n g.typ/\(k=9->ly n g=false))
theorem bm {k m M s:Int}{w:List (List UInt8)}{e:List Typ}{f:List TFd}(h:dK (.mk k m M s w e f)=0):inB k 1 10=true/\dh k m M s w=0/\cG k e.length f.length=0/\b9 k [] f=0:=by
 rw[dK] at h
 by_cases a:inB k 1 10=false
 ·rw[if_pos a] at h;exact absurd h (by decide)
 rw[if_neg a] at h
 by_cases b:fE k (.mk k m M s w e f)=true
 ·rw[if_pos b] at h;exact absurd h (by decide)
 rw[if_neg b] at h
 by_cases c:dh k m M s w=0
 ·rw[if_neg (fun hh=>hh c)] at h
  by_cases d:cG k e.length f.length=0
  ·rw[if_neg (fun hh=>hh d)] at h
   exact⟨by simpa using a,c,d,h⟩
  ·rw[if_pos d] at h;exact absurd h d
 ·rw[if_pos c] at h;exact absurd h c
theorem Ap {k m M s:Int}{w:List (List UInt8)}{e:List Typ}{f:List TFd}(h:dK (.mk k m M s w e f)=0)(hk:¬ k=3):s=0:=by
 rw[dK] at h
 by_cases a:inB k 1 10=false
 ·rw[if_pos a] at h;exact absurd h (by decide)
 rw[if_neg a] at h
 by_cases b:fE k (.mk k m M s w e f)=true
 ·rw[if_pos b] at h;exact absurd h (by decide)
 have b':fE k (.mk k m M s w e f)=false:=by simpa using b
 simp only[fE,aL,Bool.or_eq_false_iff] at b'
 obtain⟨_,b2,_⟩:=b'
 rw[decide_eq_false hk] at b2
 simpa using b2
theorem sR {m M s:Int}{w:List (List UInt8)}{e:List Typ}{f:List TFd}(h:dK (.mk 8 m M s w e f)=0):∃ x,e=[x]:=by
 have h1:=(bm h).2.2.1
 match e,h1 with
 | [],h1=>simp[cG] at h1
 | [x],_=>exact⟨x,rfl⟩
 | x::y::r,h1=>simp[cG] at h1
theorem lJ {t:Typ}{nm:List UInt8}{g:TFd}(h:cl t nm=some g):(t.kind=9\/t.kind=10)/\g∈t.fields:=by
 unfold cl at h
 split at h
 ·rename_i hk;exact⟨hk,List.mem_of_find?_eq_some h⟩
 ·cases h
theorem Ex {v:Val}(hk:v.kind=10)(h:bG v=0):∃ y r,v.lst=y::r:=by
 obtain⟨vk,vn,vs,vt,vl,vf⟩:=v
 simp only[Val.kind] at hk
 subst hk
 cases vl with
 | cons y r=>exact⟨y,r,rfl⟩
 | nil=>
   simp only[bG,show ¬ (10:Int)=1 by decide,show ¬ (10:Int)=2 by decide,show ¬ (10:Int)=3 by decide,show ¬ (10:Int)=4 by decide,show ¬ (10:Int)=5 by decide,show ¬ (10:Int)=6 by decide,show ¬ (10:Int)=7 by decide,show ¬ (10:Int)=8 by decide,show ¬ (10:Int)=9 by decide,if_false,if_true,List.length_nil] at h
   split at h<;>exact absurd h (by decide)
theorem np:∀ (n m:Nat) (t:Typ) (v:Val),tyV n t->t.ok->Ix m v->v.ok->BA n t v
 | 0,_,_,_,h,_,_,_=>h.elim
 | _+1,0,_,_,_,_,h,_=>h.elim
 | n+1,m+1,t,v,h1,h2,h3,h4=>by
   have hv:=h4
   obtain⟨⟨hr,hu⟩,hp⟩:=h3
   obtain⟨N,hsm⟩:=mS t h2
   have hk8:v.kind=8->∀ y∈v.lst,Ix m y:=fun hk y hy=>hp y (by rw[il (.inl hk)];exact hy)
   have hk10:v.kind=10->∀ y∈v.lst,Ix m y:=fun hk y hy=>hp y (by rw[il (.inr hk)];exact hy)
   have hk9:v.kind=9->∀ x∈v.fields,Ix m x.value:=fun hk x hx=>hp x.value (by rw[lR hk];exact List.mem_map_of_mem hx)
   obtain⟨k,mn,M,s,w,e,f⟩:=t
   simp only[tyV] at h1
   rw[Typ.ok_mk] at h2
   obtain⟨ho,ht8,ht9⟩:=h1
   obtain⟨_,_,_,_,t1,_,_,t5,_,t6⟩:=h2
   have hvl:v.lst.length<=9000000000000/\v.fields.length<=9000000000000/\(∀ x∈v.lst,x.ok)/\∀ x∈v.fields,x.value.ok:=by
    obtain⟨vk,vn,vs,vt,vl,vf⟩:=v
    rw[Val.ok_mk] at h4
    obtain⟨_,_,_,_,q1,q2,q3,q4⟩:=h4
    refine⟨by simp only[Val.lst];omega,by simp only[Val.fields];omega,q2,fun x hx=>?_⟩
    have:=q4 x hx
    obtain⟨nm,y⟩:=x
    rw[Fld.ok_mk] at this
    exact this.2
   obtain⟨hvl,hvf,hl,hf⟩:=hvl
   have hgt:∀ g∈f,g.typ.ok:=fun g hg=>by
    have:=t6 g hg
    obtain⟨a1,a2,a3,a4,a5⟩:=g
    rw[TFd.ok_mk] at this
    exact this.2.2.2.1
   have hkk:inB k 1 10=true:=(bm ho).1
   refine⟨⟨N,hsm⟩,by simpa[inB,Typ.kind] using hkk,by simp only[Typ.words];omega,hv,hvl,hvf,fun hk=>⟨?_,?_,?_,?_⟩⟩
   ·intro h2
    simp only[Typ.kind] at h2 hk
    have hs:=Ap ho (by omega)
    obtain⟨vk,vn,vs,vt,vl,vf⟩:=v
    simp only[Val.kind] at hk
    subst hk
    simp only[aD,Bool.and_eq_true,Bool.or_eq_true,decide_eq_true_eq] at hu
    simp only[Val.scale,Typ.scale]
    omega
   ·intro h8 y hy
    simp only[Typ.kind] at h8 hk
    subst h8
    obtain⟨x,rfl⟩:=sR ho
    exact⟨x,[],rfl,np n m x y (ht8 rfl x (List.mem_cons_self ..)) (t5 x (List.mem_cons_self ..)) (hk8 hk y hy) (hl y hy)⟩
   ·intro h10 g hg
    simp only[Typ.kind] at h10 hk
    subst h10
    obtain⟨_,hgm⟩:=lJ hg
    simp only[Typ.fields] at hgm
    obtain⟨y,r,hy⟩:=Ex hk hr
    have hym:y∈v.lst:=by rw[hy];exact List.mem_cons_self ..
    exact⟨y,r,hy,np n m g.typ y (ht9 (.inr rfl) g hgm).1 (hgt g hgm) (hk10 hk y hym) (hl y hym)⟩
   ·intro h9 x hx g hg
    simp only[Typ.kind] at h9 hk
    subst h9
    obtain⟨_,hgm⟩:=lJ hg
    simp only[Typ.fields] at hgm
    exact np n m g.typ x.value (ht9 (.inl rfl) g hgm).1 (hgt g hgm) (hk9 hk x hx) (hf x hx)
def iz (rec:Int->Typ->Int×Int):Int->List Typ->Int×Int
 | l,[]=>(0,l)
 | l,t::r=>if (rec l t).1=0 then iz rec (rec l t).2 r else rec l t
noncomputable def fY (n:Nat)(rec:Int->Typ->Int×Int):Int->List TFd->Int×Int
 | l,[]=>(0,l)
 | l,g::r=>if (rec l g.typ).1=0 then (if ly n g=true then (18,(rec l g.typ).2) else fY n rec (rec l g.typ).2 r) else rec l g.typ
noncomputable def fF (δ:Int):Nat->Int->Typ->Int×Int
 | 0,l,_=>if l=0 then (9,0) else (23,l - δ)
 | n+1,l,.mk k m M s w e f=>if l=0 then (9,0) else if dK (.mk k m M s w e f)=0 then (if k=9 then fY n (fF δ n) (l - 1) f else iz (fF δ n) (l - 1) (cm (.mk k m M s w e f))) else (dK (.mk k m M s w e f),l - 1)
theorem wg {rec:Int->Typ->Int×Int}{ps:List Typ}{i:Nat}{t:Typ}(h:ps[i]? = some t)(l:Int):iz rec l (ps.drop i)=if (rec l t).1=0 then iz rec (rec l t).2 (ps.drop (i+1)) else rec l t:=by
 have hi:=(List.getElem?_eq_some_iff.1 h).1
 have he:ps[i]=t:=(List.getElem?_eq_some_iff.1 h).2
 rw[List.drop_eq_getElem_cons hi,he,iz]
theorem wo {n:Nat}{rec:Int->Typ->Int×Int}{ps:List TFd}{i:Nat}{g:TFd}(h:ps[i]? = some g)(l:Int):fY n rec l (ps.drop i)=if (rec l g.typ).1=0 then (if ly n g=true then (18,(rec l g.typ).2) else fY n rec (rec l g.typ).2 (ps.drop (i+1))) else rec l g.typ:=by
 have hi:=(List.getElem?_eq_some_iff.1 h).1
 have he:ps[i]=g:=(List.getElem?_eq_some_iff.1 h).2
 rw[List.drop_eq_getElem_cons hi,he,fY]
theorem kv {rec:Int->Typ->Int×Int}:∀ (ps:List Typ) (l:Int),(iz rec l ps).1=0->∀ t∈ps,∃ l,(rec l t).1=0
 | [],_,_,_,h=>by cases h
 | x::r,l,h,t,ht=>by
   rw[iz] at h
   by_cases h0:(rec l x).1=0
   ·rw[if_pos h0] at h
    rcases List.mem_cons.1 ht with rfl | ht
    ·exact⟨l,h0⟩
    ·exact kv r _ h t ht
   ·rw[if_neg h0] at h;exact absurd h h0
theorem pd {n:Nat}{rec:Int->Typ->Int×Int}:∀ (ps:List TFd) (l:Int),(fY n rec l ps).1=0->∀ g∈ps,∃ l,(rec l g.typ).1=0
 | [],_,_,_,h=>by cases h
 | x::r,l,h,t,ht=>by
   rw[fY] at h
   by_cases h0:(rec l x.typ).1=0
   ·rw[if_pos h0] at h
    by_cases hd:ly n x=true
    ·rw[if_pos hd] at h;exact absurd h (show ¬ (18:Int)=0 by decide)
    ·rw[if_neg hd] at h
     rcases List.mem_cons.1 ht with rfl | ht
     ·exact⟨l,h0⟩
     ·exact pd r _ h t ht
   ·rw[if_neg h0] at h;exact absurd h h0
theorem mg {n:Nat}{rec:Int->Typ->Int×Int}:∀ (ps:List TFd) (l:Int),(fY n rec l ps).1=0->∀ g∈ps,ly n g=false
 | [],_,_,_,h=>by cases h
 | x::r,l,h,t,ht=>by
   rw[fY] at h
   by_cases h0:(rec l x.typ).1=0
   ·rw[if_pos h0] at h
    by_cases hd:ly n x=true
    ·rw[if_pos hd] at h;exact absurd h (show ¬ (18:Int)=0 by decide)
    ·rw[if_neg hd] at h
     rcases List.mem_cons.1 ht with rfl | ht
     ·simpa using hd
     ·exact mg r _ h t ht
   ·rw[if_neg h0] at h;exact absurd h h0
theorem iJ {δ:Int}:∀ (n:Nat) (l:Int) (t:Typ),(fF δ n l t).1=0->tyV n t
 | 0,l,_,h=>by
   rw[fF] at h
   split at h<;>cases h
 | n+1,l,.mk k m M s w e f,h=>by
   rw[fF] at h
   by_cases hl:l=0
   ·rw[if_pos hl] at h;cases h
   rw[if_neg hl] at h
   by_cases ho:dK (.mk k m M s w e f)=0
   ·rw[if_pos ho] at h
    refine⟨ho,fun h8 x hx=>?_,fun h9 g hg=>?_⟩
    ·subst h8
     rw[if_neg (by decide)] at h
     obtain⟨l',hl'⟩:=kv _ _ h x hx
     exact iJ n l' x hl'
    ·by_cases hk:k=9
     ·subst hk
      rw[if_pos rfl] at h
      obtain⟨l',hl'⟩:=pd _ _ h g hg
      exact⟨iJ n l' g.typ hl',fun _=>mg _ _ h g hg⟩
     ·have hk10:k=10:=by omega
      subst hk10
      rw[if_neg (by decide)] at h
      obtain⟨l',hl'⟩:=kv _ _ h g.typ (List.mem_map_of_mem hg)
      exact⟨iJ n l' g.typ hl',fun h=>absurd h hk⟩
   ·rw[if_neg ho] at h;exact absurd h ho
def Dw (rec:Int->Typ->Int×Int):Prop:=∀ t l,0<=l->l<=4096->0<=(rec l t).2/\(rec l t).2<=4096
theorem ma {rec:Int->Typ->Int×Int}(h:Dw rec):∀ (ps:List Typ) (l:Int),0<=l->l<=4096->0<=(iz rec l ps).2/\(iz rec l ps).2<=4096
 | [],l,h1,h2=>⟨h1,h2⟩
 | x::r,l,h1,h2=>by
   have h3:=h x l h1 h2
   rw[iz]
   split
   ·exact ma h r _ h3.1 h3.2
   ·exact h3
theorem mf {n:Nat}{rec:Int->Typ->Int×Int}(h:Dw rec):∀ (ps:List TFd) (l:Int),0<=l->l<=4096->0<=(fY n rec l ps).2/\(fY n rec l ps).2<=4096
 | [],l,h1,h2=>⟨h1,h2⟩
 | x::r,l,h1,h2=>by
   have h3:=h x.typ l h1 h2
   rw[fY]
   split
   ·split
    ·exact h3
    ·exact mf h r _ h3.1 h3.2
   ·exact h3
theorem gR {δ:Int}(hδ:0<=δ/\δ<=1):∀ n,Dw (fF δ n)
 | 0,t,l,h1,h2=>by
   rw[fF]
   split
   ·simp
   ·simp only;omega
 | n+1,.mk k m M s w e f,l,h1,h2=>by
   rw[fF]
   split
   ·simp
   split
   ·split
    ·exact mf (gR hδ n) f (l - 1) (by omega) (by omega)
    ·exact ma (gR hδ n) _ (l - 1) (by omega) (by omega)
   ·simp only;omega
theorem cY {k:Int}:∀ (f b:List TFd),b9 k b f=0->∀ g∈f,∃ b,cB k b g=0
 | [],_,_,_,h=>by cases h
 | x::r,b,h,g,hg=>by
   rw[b9] at h
   by_cases h0:cB k b x=0
   ·rw[if_pos h0] at h
    rcases List.mem_cons.1 hg with rfl | hg
    ·exact⟨b,h0⟩
    ·exact cY r _ h g hg
   ·rw[if_neg h0] at h;exact absurd h h0
theorem ml {k:Int}{b:List TFd}{n:Int}{nm:List UInt8}{t:Typ}{d:List Val}(h:cB k b (.mk n nm 3 t d)=0):∃ x r,d=x::r:=by
 cases d with
 | cons x r=>exact⟨x,r,rfl⟩
 | nil=>
   simp only[cB,List.length_nil,true_and,if_true] at h
   repeat' split at h
   all_goals first | exact absurd h (by decide) | skip
end Go.Proofs.YtbojpfpliibfbaaGreatDoor
