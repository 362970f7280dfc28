/- A part of the proof for CodecUsualCardSaid. -/
import Derived.Test.YtfepkhlgopjaoaaGreatDoorUsKSb
import Derived.Test.YtfepkhlgopjaoaaGreatDoorUsKW9
set_option linter.unusedVariables false
set_option linter.unusedSimpArgs false
set_option maxRecDepth 100000
-- many steps
namespace Go.Proofs.YtfepkhlgopjaoaaGreatDoor
open Go Go.Ab
attribute [local irreducible] vc
theorem xj (n:Nat)(ih:l9 n)(m M s:Int)(w:List (List UInt8))(e:List Typ)(f:List TFd)(vn vs:Int)(vt:List UInt8)(vl:List Val)(vf:List Fld)(N:Nat)(hs:bd N (.mk 10 m M s w e f))
  (h:∀ g,bw (.mk 10 m M s w e f) vt=some g→∃ y r,vl=y::r∧xg n g.typ y):ap Tryz.prog az 79 [(Typ.mk 10 m M s w e f).pv,(Val.mk 10 vn vs vt vl vf).pv] (.bool (cP (n+1) (.mk 10 m M s w e f) (.mk 10 vn vs vt vl vf))):=by
 have hc:=pg N _ vt hs
 rw[show cP (n+1) (.mk 10 m M s w e f) (.mk 10 vn vs vt vl vf)=LP (cP n) vl (bw (.mk 10 m M s w e f) vt) by simp[cP,D6,Typ.kind,Val.kind,Val.lst,Val.text]]
 generalize bw (.mk 10 m M s w e f) vt=o at hc h ⊢
 simp only[Typ.pv_mk] at hc
 cases o with
 | none=>
   simp only[tfR,Option.getD_none,Option.isSome_none,iC,TFd.pv_mk,Typ.pv_mk,ag,LP] at hc ⊢
   refine ap.intro d9 (by simp[F79]) ?_
   simp(maxSteps:=9^7) (disch:=try exact dI) only[F79,Typ.pv_mk,Val.pv_mk,push_cast,seval]
   refine ae.pure hc rfl ?_
   simp(maxSteps:=9^7) (disch:=try exact dI) only[push_cast,seval]
 | some g=>
   obtain⟨y,r,rfl,hy⟩:=h g rfl
   have hh:=ih _ _ hy
   obtain⟨n',nm',nd',⟨k',m',M',s',w',e',f'⟩,d'⟩:=g
   simp only[TFd.typ,LP,xb] at hh ⊢
   generalize cP n (.mk k' m' M' s' w' e' f') y=b at hh ⊢
   obtain⟨yk,yn,ys,yt,yl,yf⟩:=y
   simp only[tfR,Option.getD_some,Option.isSome_some,TFd.pv_mk,Typ.pv_mk,Val.pv_mk,ag] at hc hh ⊢
   refine ap.intro d9 (by simp[F79]) ?_
   simp(maxSteps:=9^7) (disch:=try exact dI) only[F79,Typ.pv_mk,Val.pv_mk,br,push_cast,seval]
   refine ae.pure hc rfl ?_
   simp(maxSteps:=9^7) (disch:=try exact dI) only[br,Val.pv_mk,push_cast,seval]
   refine ae.pure hh rfl ?_
   simp(maxSteps:=9^7) (disch:=try exact dI) only[push_cast,seval]
theorem nM (n:Nat)(k m M s:Int)(w:List (List UInt8))(e:List Typ)(f:List TFd)(vn vs:Int)(vt:List UInt8)(vl:List Val)(vf:List Fld)(h1:¬ (k=2∨k=6∨k=7∨k=3))(h4:¬ k=4)(h5:¬ k=5)(h8:¬ k=8)(h10:¬ k=10)(h9:¬ k=9):ap Tryz.prog az 79 [(Typ.mk k m M s w e f).pv,(Val.mk k vn vs vt vl vf).pv] (.bool (cP (n+1) (.mk k m M s w e f) (.mk k vn vs vt vl vf))):=by
 rw[show cP (n+1) (.mk k m M s w e f) (.mk k vn vs vt vl vf)=true by simp[cP,D6,Typ.kind,Val.kind,h1,h4,h5,h8,h9,h10]]
 have a2:¬ k=2:=by omega
 have a6:¬ k=6:=by omega
 have a7:¬ k=7:=by omega
 have a3:¬ k=3:=by omega
 refine ap.intro d9 (by simp[F79]) ?_
 simp(maxSteps:=9^7) (disch:=try exact dI) only[F79,Typ.pv_mk,Val.pv_mk,push_cast,seval]
theorem Dn {α:Type}{p:α→Bool}{l:List α}{i:Nat}{x:α}(h:l[i]? = some x):(l.drop i).all p=(p x&&(l.drop (i+1)).all p):=by
 have hi:=(List.getElem?_eq_some_iff.1 h).1
 have he:l[i]=x:=(List.getElem?_eq_some_iff.1 h).2
 rw[List.drop_eq_getElem_cons hi,he,List.all_cons]
set_option maxHeartbeats 4000000 in
theorem Cx (n:Nat)(ih:l9 n)(m M s:Int)(w:List (List UInt8))(e:List Typ)(f:List TFd)(vn vs:Int)(vt:List UInt8)(vl:List Val)(vf:List Fld)(N:Nat)(hs:bd N (.mk 9 m M s w e f))(hv:(Val.mk 9 vn vs vt vl vf).ok)(hvf:vf.length≤9000000000000)
  (h:∀ x∈vf,∀ g,bw (.mk 9 m M s w e f) x.name=some g→xg n g.typ x.value):ap Tryz.prog az 79 [(Typ.mk 9 m M s w e f).pv,(Val.mk 9 vn vs vt vl vf).pv] (.bool (cP (n+1) (.mk 9 m M s w e f) (.mk 9 vn vs vt vl vf))):=by
 have hfl:f.length≤9000000000000:=by
  cases N with
  | zero=>exact hs.elim
  | succ N=>simp only[bd] at hs;have:=hs.2.2.1;omega
 have hfld:=fun nm=>pg N _ nm hs
 have hla:=jb f 147 [.eptr [(Val.mk 9 vn vs vt vl vf).pv] 0 0] (rJ (.mk 9 vn vs vt vl vf)) (fun g _=>Kk _ g hv rfl hvf) hfl
 rw[show cP (n+1) (.mk 9 m M s w e f) (.mk 9 vn vs vt vl vf)=((vf.all fun x=>Ir (cP n) x.value (bw (.mk 9 m M s w e f) x.name))&&!(f.any (rJ (.mk 9 vn vs vt vl vf)))) by simp[cP,D6,Typ.kind,Val.kind,Val.fields,Typ.fields]]
 generalize f.any (rJ (.mk 9 vn vs vt vl vf))=q at hla ⊢
 obtain⟨T,hT⟩:∃ T,T=bw (.mk 9 m M s w e f):=⟨_,rfl⟩
 rw[← hT] at h ⊢
 have hfld:∀ nm,ap Tryz.prog az 146 [(Typ.mk 9 m M s w e f).pv,.str nm] (tfR (T nm)):=fun nm=>by rw[hT];exact hfld nm
 clear hT
 simp only[Typ.pv_mk,Val.pv_mk] at hfld hla
 obtain⟨p,hp⟩:∃ p:Fld→Bool,p=fun x=>Ir (cP n) x.value (T x.name):=⟨_,rfl⟩
 rw[← hp]
 obtain⟨R,hR⟩:∃ R,R=(vf.all p&&!q):=⟨_,rfl⟩
 rw[← hR]
 refine ap.intro d9 (by simp[F79]) ?_
 simp(maxSteps:=9^7) (disch:=try exact dI) only[F79,Typ.pv_mk,Val.pv_mk,push_cast,seval]
 refine aB ([]) (fun i:Nat=>[(107,.pv (.int .i64 (i:Int)))]) (fun _=>[]) (fun i=>i≤vf.length∧R=((vf.drop i).all p&&!q)) (fun i=>vf.length - i) (0) ?_;intro e0 σ0 n0 h0;simp(maxSteps:=9^7) (disch:=try exact dI) only[push_cast,seval] at h0;obtain⟨rfl,rfl,rfl⟩:=h0;refine⟨?_,?_,?_⟩
 ·simp(maxSteps:=9^7) (disch:=try exact dI) only[push_cast,seval]
 ·exact⟨by omega,by simpa using hR⟩
 rintro i ⟨hi,hr⟩
 by_cases hlt:i<vf.length
 ·have hltI:(i:Int)<(vf.length:Int):=by omega
  obtain⟨x,hx⟩:∃ x,vf[i]? = some x:=⟨_,List.getElem?_eq_getElem hlt⟩
  rw[Dn hx] at hr
  have hph:=h x (List.mem_of_getElem? hx)
  have hc:=hfld x.name
  rw[show p x=Ir (cP n) x.value (T x.name) by rw[hp]] at hr
  generalize T x.name=o at hph hc hr
  obtain⟨xn,y⟩:=x
  simp only[Fld.name,Fld.value] at hph hc hr
  cases o with
  | none=>
    simp only[Ir,Bool.false_and] at hr
    subst hr
    obtain⟨yk,yn,ys,yt,yl,yf⟩:=y
    simp only[tfR,Option.getD_none,Option.isSome_none,iC,TFd.pv_mk,Typ.pv_mk,ag] at hc
    simp(maxSteps:=9^7) (disch:=try exact dI) only[hx,Option.map_some,Fld.pv_mk,Val.pv_mk,ag,push_cast,seval]
    refine ae.pure hc rfl ?_
    simp(maxSteps:=9^7) (disch:=try exact dI) only[push_cast,seval]
  | some g=>
    have hh:=ih _ _ (hph g rfl)
    simp only[Ir] at hr
    obtain⟨n',nm',nd',⟨k',m',M',s',w',e',f'⟩,d'⟩:=g
    simp only[TFd.typ] at hh hr
    generalize cP n (.mk k' m' M' s' w' e' f') y=b at hh hr
    obtain⟨yk,yn,ys,yt,yl,yf⟩:=y
    simp only[tfR,Option.getD_some,Option.isSome_some,TFd.pv_mk,Typ.pv_mk,Val.pv_mk,ag] at hc hh
    cases b with
    | false=>
      simp only[Bool.false_and] at hr
      subst hr
      simp(maxSteps:=9^7) (disch:=try exact dI) only[hx,Option.map_some,Fld.pv_mk,Val.pv_mk,ag,push_cast,seval]
      refine ae.pure hc rfl ?_
      simp(maxSteps:=9^7) (disch:=try exact dI) only[push_cast,seval]
      refine ae.pure hh rfl ?_
      simp(maxSteps:=9^7) (disch:=try exact dI) only[push_cast,seval]
    | true=>
      rw[Bool.true_and] at hr
      simp(maxSteps:=9^7) (disch:=try exact dI) only[hx,Option.map_some,Fld.pv_mk,Val.pv_mk,ag,push_cast,seval]
      refine ae.pure hc rfl ?_
      simp(maxSteps:=9^7) (disch:=try exact dI) only[push_cast,seval]
      refine ae.pure hh rfl ?_
      simp(maxSteps:=9^7) (disch:=try exact dI) only[push_cast,seval]
      exact⟨i+1,bH qsZ,⟨by omega,hr⟩,by omega⟩
 ·obtain rfl:i=vf.length:=by omega
  rw[List.drop_length,List.all_nil,Bool.true_and] at hr
  subst hr
  simp(maxSteps:=9^7) (disch:=try exact dI) only[Int.lt_irrefl,push_cast,seval]
  refine ae.pure hla rfl ?_
  simp(maxSteps:=9^7) (disch:=try exact dI) only[push_cast,seval]
theorem D7:∀ n,l9 n
 | 0=>fun _ _ h=>h.elim
 | n+1=>fun t v h=>by
   have ih:=D7 n
   simp only[xg] at h
   obtain⟨⟨N,hs⟩,_,hw,hv,hl,hf,h⟩:=h
   by_cases hk:v.kind=t.kind
   ·have h:=h hk
    obtain⟨k,m,M,s,w,e,f⟩:=t
    obtain⟨vk,vn,vs,vt,vl,vf⟩:=v
    simp only[Val.kind,Typ.kind,Typ.words,Val.lst,Val.fields,Val.text,Typ.elem] at hk h hw hl hf
    subst hk
    obtain⟨_,h8,h10,h9⟩:=h
    by_cases h1:vk=2∨vk=6∨vk=7∨vk=3
    ·exact rP n _ _ _ _ _ _ _ _ _ _ _ _ h1
    by_cases h4:vk=4
    ·subst h4;exact CA n _ _ _ _ _ _ _ _ _ _ _ hw
    by_cases h5:vk=5
    ·subst h5;exact Cz n _ _ _ _ _ _ _ _ _ _ _
    by_cases h8':vk=8
    ·subst h8';exact Cy n ih _ _ _ _ _ _ _ _ _ _ _ hl (h8 rfl)
    by_cases h10':vk=10
    ·subst h10';exact xj n ih _ _ _ _ _ _ _ _ _ _ _ N hs (h10 rfl)
    by_cases h9':vk=9
    ·subst h9';exact Cx n ih _ _ _ _ _ _ _ _ _ _ _ N hs hv hf (h9 rfl)
    exact nM n _ _ _ _ _ _ _ _ _ _ _ _ h1 h4 h5 h8' h10' h9'
   ·exact xh n t v hk
end Go.Proofs.YtfepkhlgopjaoaaGreatDoor
-- many steps
namespace Go.Proofs.YtfepkhlgopjaoaaGreatDoor
open Go Go.Ab
attribute [local irreducible] vc
def EM:Nat→Val→Prop
 | 0,_=>False
 | n+1,v=>(bi v=0∧di v=true)∧∀ x∈bx v,EM n x
theorem pq:∀ (xs:List (Int×Val)) (i:Nat),lP i xs=0→∀ q∈xs,∃ j,aT j q=0
 | [],_,_,_,h=>by cases h
 | x::r,i,h,q,hq=>by
   rw[lP] at h
   by_cases h0:aT i x=0
   ·rw[if_pos h0] at h
    rcases List.mem_cons.1 hq with rfl | hq
    ·exact⟨i,h0⟩
    ·exact pq r (i+1) h q hq
   ·rw[if_neg h0] at h;exact absurd h h0
theorem qn {j:Nat}{q:Int×Val}(h:aT j q=0):bi q.2=0∧di q.2=true:=by
 unfold aT at h
 split at h
 ·cases h
 split at h
 ·cases h
 split at h
 ·cases h
 split at h
 ·cases h
 split at h
 ·cases h
 ·rename_i hu
  exact⟨h,by simpa using hu⟩
theorem tK:∀ (n:Nat) (lv:Int) (v:Val),g8 n v→(∀ q∈dj n lv v,bi q.2=0∧di q.2=true)→EM n v
 | 0,_,_,hd,_=>hd.elim
 | n+1,lv,v,hd,h=>by
   simp only[dj,List.mem_cons,List.mem_flatMap] at h
   refine⟨h (lv,v) (.inl rfl),fun x hx=>tK n (Go.RowKit.wrap64 (lv+1)) x (hd x hx) fun q hq=>h q (.inr ⟨x,hx,hq⟩)⟩
theorem z8 {n:Nat}{v:Val}(hd:g8 n v)(h:lP 0 (dj n 1 v)=0):EM n v:=
 tK n 1 v hd fun q hq=>by obtain⟨j,hj⟩:=pq _ _ h q hq;exact qn hj
noncomputable def accB (n:Nat)(t:Typ)(v:Val):Bool:=decide (Ko v=0)&&cP n t v
theorem sR (n:Nat)(t:Typ)(v:Val)(hv:v.ok)(hP:Ko v=0→xg n t v):ap Tryz.prog az 42 [t.pv,v.pv] (.bool (accB n t v)):=by
 have hc:=Hb v hv
 simp only[accB]
 generalize Ko v=z at hc hP ⊢
 by_cases hz:z=0
 ·have hh:=D7 n t v (hP hz)
  subst hz
  generalize cP n t v=b at hh ⊢
  obtain⟨k,m,M,s,w,e,f⟩:=t
  obtain⟨vk,vn,vs,vt,vl,vf⟩:=v
  simp only[Typ.pv_mk,Val.pv_mk] at hc hh
  refine ap.intro Ex (by simp[F42]) ?_
  simp(maxSteps:=9^7) (disch:=try exact dI) only[F42,Typ.pv_mk,Val.pv_mk,push_cast,seval]
  refine ae.pure hc rfl ?_
  simp(maxSteps:=9^7) (disch:=try exact dI) only[push_cast,seval]
  refine ae.pure hh rfl ?_
  simp(maxSteps:=9^7) (disch:=try exact dI) only[push_cast,seval]
 ·rw[decide_eq_false hz,Bool.false_and]
  obtain⟨k,m,M,s,w,e,f⟩:=t
  obtain⟨vk,vn,vs,vt,vl,vf⟩:=v
  simp only[Typ.pv_mk,Val.pv_mk] at hc
  refine ap.intro Ex (by simp[F42]) ?_
  simp(maxSteps:=9^7) (disch:=try exact dI) only[F42,Typ.pv_mk,Val.pv_mk,push_cast,seval]
  refine ae.pure hc rfl ?_
  simp(maxSteps:=9^7) (disch:=try exact dI) only[hz,push_cast,seval]
noncomputable def iz (n:Nat):TFd→Bool
 | .mk _ _ nd t d=>decide (nd=3)&&!(xb (accB n t) d)
def tyV:Nat→Typ→Prop
 | 0,_=>False
 | n+1,.mk k m M s w e f=>eZ (.mk k m M s w e f)=0∧(k=8→∀ x∈e,tyV n x)∧(k=9∨k=10→∀ g∈f,tyV n g.typ∧(k=9→iz n g=false))
theorem bG {k m M s:Int}{w:List (List UInt8)}{e:List Typ}{f:List TFd}(h:eZ (.mk k m M s w e f)=0):inB k 1 10=true∧cZ k m M s w=0∧bF k e.length f.length=0∧bT k [] f=0:=by
 rw[eZ] at h
 by_cases a:inB k 1 10=false
 ·rw[if_pos a] at h;exact absurd h (by decide)
 rw[if_neg a] at h
 by_cases b:eP k (.mk k m M s w e f)=true
 ·rw[if_pos b] at h;exact absurd h (by decide)
 rw[if_neg b] at h
 by_cases c:cZ k m M s w=0
 ·rw[if_neg (fun hh=>hh c)] at h
  by_cases d:bF k e.length f.length=0
  ·rw[if_neg (fun hh=>hh d)] at h
   exact⟨by simpa using a,c,d,h⟩
  ·rw[if_pos d] at h;exact absurd h d
 ·rw[if_pos c] at h;exact absurd h c
theorem vM {k m M s:Int}{w:List (List UInt8)}{e:List Typ}{f:List TFd}(h:eZ (.mk k m M s w e f)=0)(hk:¬ k=3):s=0:=by
 rw[eZ] at h
 by_cases a:inB k 1 10=false
 ·rw[if_pos a] at h;exact absurd h (by decide)
 rw[if_neg a] at h
 by_cases b:eP k (.mk k m M s w e f)=true
 ·rw[if_pos b] at h;exact absurd h (by decide)
 have b':eP k (.mk k m M s w e f)=false:=by simpa using b
 simp only[eP,aD,Bool.or_eq_false_iff] at b'
 obtain⟨_,b2,_⟩:=b'
 rw[decide_eq_false hk] at b2
 simpa using b2
theorem oM {m M s:Int}{w:List (List UInt8)}{e:List Typ}{f:List TFd}(h:eZ (.mk 8 m M s w e f)=0):∃ x,e=[x]:=by
 have h1:=(bG h).2.2.1
 match e,h1 with
 | [],h1=>simp[bF] at h1
 | [x],_=>exact⟨x,rfl⟩
 | x::y::r,h1=>simp[bF] at h1
theorem iG {t:Typ}{nm:List UInt8}{g:TFd}(h:bw t nm=some g):(t.kind=9∨t.kind=10)∧g∈t.fields:=by
 unfold bw at h
 split at h
 ·rename_i hk;exact⟨hk,List.mem_of_find?_eq_some h⟩
 ·cases h
theorem AM {v:Val}(hk:v.kind=10)(h:bi v=0):∃ y r,v.lst=y::r:=by
 obtain⟨vk,vn,vs,vt,vl,vf⟩:=v
 simp only[Val.kind] at hk
 subst hk
 cases vl with
 | cons y r=>exact⟨y,r,rfl⟩
 | nil=>
   simp only[bi,show ¬ (10:Int)=1 by decide,show ¬ (10:Int)=2 by decide,show ¬ (10:Int)=3 by decide,show ¬ (10:Int)=4 by decide,show ¬ (10:Int)=5 by decide,show ¬ (10:Int)=6 by decide,show ¬ (10:Int)=7 by decide,show ¬ (10:Int)=8 by decide,show ¬ (10:Int)=9 by decide,if_false,if_true,List.length_nil] at h
   split at h<;>exact absurd h (by decide)
theorem jJ:∀ (n m:Nat) (t:Typ) (v:Val),tyV n t→t.ok→EM m v→v.ok→xg n t v
 | 0,_,_,_,h,_,_,_=>h.elim
 | _+1,0,_,_,_,_,h,_=>h.elim
 | n+1,m+1,t,v,h1,h2,h3,h4=>by
   have hv:=h4
   obtain⟨⟨hr,hu⟩,hp⟩:=h3
   obtain⟨N,hsm⟩:=jr t h2
   have hk8:v.kind=8→∀ y∈v.lst,EM m y:=fun hk y hy=>hp y (by rw[fc (.inl hk)];exact hy)
   have hk10:v.kind=10→∀ y∈v.lst,EM m y:=fun hk y hy=>hp y (by rw[fc (.inr hk)];exact hy)
   have hk9:v.kind=9→∀ x∈v.fields,EM m x.value:=fun hk x hx=>hp x.value (by rw[iL hk];exact List.mem_map_of_mem hx)
   obtain⟨k,mn,M,s,w,e,f⟩:=t
   simp only[tyV] at h1
   rw[Typ.ok_mk] at h2
   obtain⟨ho,ht8,ht9⟩:=h1
   obtain⟨_,_,_,_,t1,_,_,t5,_,t6⟩:=h2
   have hvl:v.lst.length≤9000000000000∧v.fields.length≤9000000000000∧(∀ x∈v.lst,x.ok)∧∀ x∈v.fields,x.value.ok:=by
    obtain⟨vk,vn,vs,vt,vl,vf⟩:=v
    rw[Val.ok_mk] at h4
    obtain⟨_,_,_,_,q1,q2,q3,q4⟩:=h4
    refine⟨by simp only[Val.lst];omega,by simp only[Val.fields];omega,q2,fun x hx=>?_⟩
    have:=q4 x hx
    obtain⟨nm,y⟩:=x
    rw[Fld.ok_mk] at this
    exact this.2
   obtain⟨hvl,hvf,hl,hf⟩:=hvl
   have hgt:∀ g∈f,g.typ.ok:=fun g hg=>by
    have:=t6 g hg
    obtain⟨a1,a2,a3,a4,a5⟩:=g
    rw[TFd.ok_mk] at this
    exact this.2.2.2.1
   have hkk:inB k 1 10=true:=(bG ho).1
   refine⟨⟨N,hsm⟩,by simpa[inB,Typ.kind] using hkk,by simp only[Typ.words];omega,hv,hvl,hvf,fun hk=>⟨?_,?_,?_,?_⟩⟩
   ·intro h2
    simp only[Typ.kind] at h2 hk
    have hs:=vM ho (by omega)
    obtain⟨vk,vn,vs,vt,vl,vf⟩:=v
    simp only[Val.kind] at hk
    subst hk
    simp only[di,Bool.and_eq_true,Bool.or_eq_true,decide_eq_true_eq] at hu
    simp only[Val.scale,Typ.scale]
    omega
   ·intro h8 y hy
    simp only[Typ.kind] at h8 hk
    subst h8
    obtain⟨x,rfl⟩:=oM ho
    exact⟨x,[],rfl,jJ n m x y (ht8 rfl x (List.mem_cons_self ..)) (t5 x (List.mem_cons_self ..)) (hk8 hk y hy) (hl y hy)⟩
   ·intro h10 g hg
    simp only[Typ.kind] at h10 hk
    subst h10
    obtain⟨_,hgm⟩:=iG hg
    simp only[Typ.fields] at hgm
    obtain⟨y,r,hy⟩:=AM hk hr
    have hym:y∈v.lst:=by rw[hy];exact List.mem_cons_self ..
    exact⟨y,r,hy,jJ n m g.typ y (ht9 (.inr rfl) g hgm).1 (hgt g hgm) (hk10 hk y hym) (hl y hym)⟩
   ·intro h9 x hx g hg
    simp only[Typ.kind] at h9 hk
    subst h9
    obtain⟨_,hgm⟩:=iG hg
    simp only[Typ.fields] at hgm
    exact jJ n m g.typ x.value (ht9 (.inl rfl) g hgm).1 (hgt g hgm) (hk9 hk x hx) (hf x hx)
end Go.Proofs.YtfepkhlgopjaoaaGreatDoor
