/- A part of the proof for DelimitedRepresentableCardSaid. -/
import Derived.Test.YtbaaokocnegdoaaGreatDoorRepVSa
set_option maxRecDepth 100000
set_option linter.unusedVariables false
set_option linter.unusedSimpArgs false
-- many steps
namespace Go.Proofs.YtbaaokocnegdoaaGreatDoor
open Go Go.Ab
attribute [local irreducible] vc
theorem yx (n:Nat)(ih:m6 n)(m M s:Int)(w:List (List UInt8))(e:List Typ)(f:List TFd)(vn vs:Int)(vt:List UInt8)(vl:List Val)(vf:List Fld)(N:Nat)(hs:cj N (.mk 10 m M s w e f))
  (h:∀ g,bk (.mk 10 m M s w e f) vt=some g→∃ y r,vl=y::r∧mx n g.typ y):ak Tryz.prog aD 193 [(Typ.mk 10 m M s w e f).pv,(Val.mk 10 vn vs vt vl vf).pv] (.bool (bj (n+1) (.mk 10 m M s w e f) (.mk 10 vn vs vt vl vf))):=by
 have hc:=qw N _ vt hs
 rw[show bj (n+1) (.mk 10 m M s w e f) (.mk 10 vn vs vt vl vf)=FN (bj n) vl (bk (.mk 10 m M s w e f) vt) by simp[bj,m8,Typ.kind,Val.kind,Val.lst,Val.text]]
 generalize bk (.mk 10 m M s w e f) vt=o at hc h ⊢
 simp only[Typ.pv_mk] at hc
 cases o with
 | none=>
   simp only[tfR,Option.getD_none,Option.isSome_none,jE,TFd.pv_mk,Typ.pv_mk,ae,FN] at hc ⊢
   refine ak.intro dt (by simp[jv]) ?_
   simp(maxSteps:=9^7) (disch:=first|exact dI|fail) only[jv,Typ.pv_mk,Val.pv_mk,push_cast,seval]
   refine ab.pure hc rfl ?_
   simp(maxSteps:=9^7) (disch:=first|exact dI|fail) only[push_cast,seval]
 | some g=>
   obtain⟨y,r,rfl,hy⟩:=h g rfl
   have hh:=ih _ _ hy
   obtain⟨n',nm',nd',⟨k',m',M',s',w',e',f'⟩,d'⟩:=g
   simp only[TFd.typ,FN,sZ] at hh ⊢
   generalize bj n (.mk k' m' M' s' w' e' f') y=b at hh ⊢
   obtain⟨yk,yn,ys,yt,yl,yf⟩:=y
   simp only[tfR,Option.getD_some,Option.isSome_some,TFd.pv_mk,Typ.pv_mk,Val.pv_mk,ae] at hc hh ⊢
   refine ak.intro dt (by simp[jv]) ?_
   simp(maxSteps:=9^7) (disch:=first|exact dI|fail) only[jv,Typ.pv_mk,Val.pv_mk,aO,push_cast,seval]
   refine ab.pure hc rfl ?_
   simp(maxSteps:=9^7) (disch:=first|exact dI|fail) only[aO,Val.pv_mk,push_cast,seval]
   refine ab.pure hh rfl ?_
   simp(maxSteps:=9^7) (disch:=first|exact dI|fail) only[push_cast,seval]
theorem oV (n:Nat)(k m M s:Int)(w:List (List UInt8))(e:List Typ)(f:List TFd)(vn vs:Int)(vt:List UInt8)(vl:List Val)(vf:List Fld)(h1:¬ (k=2∨k=6∨k=7∨k=3))(h4:¬ k=4)(h5:¬ k=5)(h8:¬ k=8)(h10:¬ k=10)(h9:¬ k=9):ak Tryz.prog aD 193 [(Typ.mk k m M s w e f).pv,(Val.mk k vn vs vt vl vf).pv] (.bool (bj (n+1) (.mk k m M s w e f) (.mk k vn vs vt vl vf))):=by
 rw[show bj (n+1) (.mk k m M s w e f) (.mk k vn vs vt vl vf)=true by simp[bj,m8,Typ.kind,Val.kind,h1,h4,h5,h8,h9,h10]]
 have a2:¬ k=2:=by omega
 have a6:¬ k=6:=by omega
 have a7:¬ k=7:=by omega
 have a3:¬ k=3:=by omega
 refine ak.intro dt (by simp[jv]) ?_
 simp(maxSteps:=9^7) (disch:=first|exact dI|fail) only[jv,Typ.pv_mk,Val.pv_mk,push_cast,seval]
theorem qO {α:Type}{p:α→Bool}{l:List α}{i:Nat}{x:α}(h:l[i]? = some x):(l.drop i).all p=(p x&&(l.drop (i+1)).all p):=by
 have hi:=(List.getElem?_eq_some_iff.1 h).1
 have he:l[i]=x:=(List.getElem?_eq_some_iff.1 h).2
 rw[List.drop_eq_getElem_cons hi,he,List.all_cons]
set_option maxHeartbeats 4000000 in
theorem DF (n:Nat)(ih:m6 n)(m M s:Int)(w:List (List UInt8))(e:List Typ)(f:List TFd)(vn vs:Int)(vt:List UInt8)(vl:List Val)(vf:List Fld)(N:Nat)(hs:cj N (.mk 9 m M s w e f))(hv:(Val.mk 9 vn vs vt vl vf).ok)(hvf:vf.length≤1000000)
  (h:∀ x∈vf,∀ g,bk (.mk 9 m M s w e f) x.name=some g→mx n g.typ x.value):ak Tryz.prog aD 193 [(Typ.mk 9 m M s w e f).pv,(Val.mk 9 vn vs vt vl vf).pv] (.bool (bj (n+1) (.mk 9 m M s w e f) (.mk 9 vn vs vt vl vf))):=by
 have hfl:f.length≤1000000000:=by
  cases N with
  | zero=>exact hs.elim
  | succ N=>simp only[cj] at hs;exact hs.2.2.1
 have hfld:=fun nm=>qw N _ nm hs
 have hla:=j4 f 248 [.eptr [(Val.mk 9 vn vs vt vl vf).pv] 0 0] (gM (.mk 9 vn vs vt vl vf)) (fun g _=>K6 _ g hv rfl hvf) hfl
 rw[show bj (n+1) (.mk 9 m M s w e f) (.mk 9 vn vs vt vl vf)=((vf.all fun x=>rG (bj n) x.value (bk (.mk 9 m M s w e f) x.name))&&!(f.any (gM (.mk 9 vn vs vt vl vf)))) by simp[bj,m8,Typ.kind,Val.kind,Val.fields,Typ.fields]]
 generalize f.any (gM (.mk 9 vn vs vt vl vf))=q at hla ⊢
 obtain⟨T,hT⟩:∃ T,T=bk (.mk 9 m M s w e f):=⟨_,rfl⟩
 rw[← hT] at h ⊢
 have hfld:∀ nm,ak Tryz.prog aD 247 [(Typ.mk 9 m M s w e f).pv,.str nm] (tfR (T nm)):=fun nm=>by rw[hT];exact hfld nm
 clear hT
 simp only[Typ.pv_mk,Val.pv_mk] at hfld hla
 obtain⟨p,hp⟩:∃ p:Fld→Bool,p=fun x=>rG (bj n) x.value (T x.name):=⟨_,rfl⟩
 rw[← hp]
 obtain⟨R,hR⟩:∃ R,R=(vf.all p&&!q):=⟨_,rfl⟩
 rw[← hR]
 refine ak.intro dt (by simp[jv]) ?_
 simp(maxSteps:=9^7) (disch:=first|exact dI|fail) only[jv,Typ.pv_mk,Val.pv_mk,push_cast,seval]
 refine aB ([]) (fun i:Nat=>[(107,.pv (.int .i64 (i:Int)))]) (fun _=>[]) (fun i=>i≤vf.length∧R=((vf.drop i).all p&&!q)) (fun i=>vf.length - i) (0) ?_;intro e0 σ0 n0 h0;simp(maxSteps:=9^7) (disch:=first|exact dI|fail) only[push_cast,seval] at h0;obtain⟨rfl,rfl,rfl⟩:=h0;refine⟨?_,?_,?_⟩
 ·simp(maxSteps:=9^7) (disch:=first|exact dI|fail) only[push_cast,seval]
 ·exact⟨by omega,by simpa using hR⟩
 rintro i ⟨hi,hr⟩
 by_cases hlt:i<vf.length
 ·have hltI:(i:Int)<(vf.length:Int):=by omega
  obtain⟨x,hx⟩:∃ x,vf[i]? = some x:=⟨_,List.getElem?_eq_getElem hlt⟩
  rw[qO hx] at hr
  have hph:=h x (List.mem_of_getElem? hx)
  have hc:=hfld x.name
  rw[show p x=rG (bj n) x.value (T x.name) by rw[hp]] at hr
  generalize T x.name=o at hph hc hr
  obtain⟨xn,y⟩:=x
  simp only[Fld.name,Fld.value] at hph hc hr
  cases o with
  | none=>
    simp only[rG,Bool.false_and] at hr
    subst hr
    obtain⟨yk,yn,ys,yt,yl,yf⟩:=y
    simp only[tfR,Option.getD_none,Option.isSome_none,jE,TFd.pv_mk,Typ.pv_mk,ae] at hc
    simp(maxSteps:=9^7) (disch:=first|exact dI|fail) only[hx,Option.map_some,Fld.pv_mk,Val.pv_mk,ae,push_cast,seval]
    refine ab.pure hc rfl ?_
    simp(maxSteps:=9^7) (disch:=first|exact dI|fail) only[push_cast,seval]
  | some g=>
    have hh:=ih _ _ (hph g rfl)
    simp only[rG] at hr
    obtain⟨n',nm',nd',⟨k',m',M',s',w',e',f'⟩,d'⟩:=g
    simp only[TFd.typ] at hh hr
    generalize bj n (.mk k' m' M' s' w' e' f') y=b at hh hr
    obtain⟨yk,yn,ys,yt,yl,yf⟩:=y
    simp only[tfR,Option.getD_some,Option.isSome_some,TFd.pv_mk,Typ.pv_mk,Val.pv_mk,ae] at hc hh
    cases b with
    | false=>
      simp only[Bool.false_and] at hr
      subst hr
      simp(maxSteps:=9^7) (disch:=first|exact dI|fail) only[hx,Option.map_some,Fld.pv_mk,Val.pv_mk,ae,push_cast,seval]
      refine ab.pure hc rfl ?_
      simp(maxSteps:=9^7) (disch:=first|exact dI|fail) only[push_cast,seval]
      refine ab.pure hh rfl ?_
      simp(maxSteps:=9^7) (disch:=first|exact dI|fail) only[push_cast,seval]
    | true=>
      rw[Bool.true_and] at hr
      simp(maxSteps:=9^7) (disch:=first|exact dI|fail) only[hx,Option.map_some,Fld.pv_mk,Val.pv_mk,ae,push_cast,seval]
      refine ab.pure hc rfl ?_
      simp(maxSteps:=9^7) (disch:=first|exact dI|fail) only[push_cast,seval]
      refine ab.pure hh rfl ?_
      simp(maxSteps:=9^7) (disch:=first|exact dI|fail) only[push_cast,seval]
      exact⟨i+1,bg (by simp(maxSteps:=9^7) (disch:=first|exact dI|fail) only[push_cast,seval]),⟨by omega,hr⟩,by omega⟩
 ·obtain rfl:i=vf.length:=by omega
  rw[List.drop_length,List.all_nil,Bool.true_and] at hr
  subst hr
  simp(maxSteps:=9^7) (disch:=first|exact dI|fail) only[Int.lt_irrefl,push_cast,seval]
  refine ab.pure hla rfl ?_
  simp(maxSteps:=9^7) (disch:=first|exact dI|fail) only[push_cast,seval]
theorem E8:∀ n,m6 n
 | 0=>fun _ _ h=>h.elim
 | n+1=>fun t v h=>by
   have ih:=E8 n
   simp only[mx] at h
   obtain⟨⟨N,hs⟩,_,hw,hv,hl,hf,h⟩:=h
   by_cases hk:v.kind=t.kind
   ·have h:=h hk
    obtain⟨k,m,M,s,w,e,f⟩:=t
    obtain⟨vk,vn,vs,vt,vl,vf⟩:=v
    simp only[Val.kind,Typ.kind,Typ.words,Val.lst,Val.fields,Val.text,Typ.elem] at hk h hw hl hf
    subst hk
    obtain⟨_,h8,h10,h9⟩:=h
    by_cases h1:vk=2∨vk=6∨vk=7∨vk=3
    ·exact s9 n _ _ _ _ _ _ _ _ _ _ _ _ h1
    by_cases h4:vk=4
    ·subst h4;exact DI n _ _ _ _ _ _ _ _ _ _ _ hw
    by_cases h5:vk=5
    ·subst h5;exact DH n _ _ _ _ _ _ _ _ _ _ _
    by_cases h8':vk=8
    ·subst h8';exact DG n ih _ _ _ _ _ _ _ _ _ _ _ hl (h8 rfl)
    by_cases h10':vk=10
    ·subst h10';exact yx n ih _ _ _ _ _ _ _ _ _ _ _ N hs (h10 rfl)
    by_cases h9':vk=9
    ·subst h9';exact DF n ih _ _ _ _ _ _ _ _ _ _ _ N hs hv hf (h9 rfl)
    exact oV n _ _ _ _ _ _ _ _ _ _ _ _ h1 h4 h5 h8' h10' h9'
   ·exact yw n t v hk
end Go.Proofs.YtbaaokocnegdoaaGreatDoor
set_option maxRecDepth 100000
set_option linter.unusedVariables false
set_option linter.unusedSimpArgs false
-- many steps
namespace Go.Proofs.YtbaaokocnegdoaaGreatDoor
open Go Go.Ab
attribute [local irreducible] vc
def FO:Nat→Val→Prop
 | 0,_=>False
 | n+1,v=>(bt v=0∧ag v=true)∧∀ x∈aT v,FO n x
theorem qC:∀ (xs:List (Int×Val)) (i:Nat),gQ i xs=0→∀ q∈xs,∃ j,a8 j q=0
 | [],_,_,_,h=>by cases h
 | x::r,i,h,q,hq=>by
   rw[gQ] at h
   by_cases h0:a8 i x=0
   ·rw[if_pos h0] at h
    rcases List.mem_cons.1 hq with rfl | hq
    ·exact⟨i,h0⟩
    ·exact qC r (i+1) h q hq
   ·rw[if_neg h0] at h;exact absurd h h0
theorem rz {j:Nat}{q:Int×Val}(h:a8 j q=0):bt q.2=0∧ag q.2=true:=by
 unfold a8 at h
 split at h
 ·cases h
 split at h
 ·cases h
 split at h
 ·cases h
 split at h
 ·cases h
 split at h
 ·cases h
 ·rename_i hu
  exact⟨h,by simpa using hu⟩
theorem uP:∀ (n:Nat) (lv:Int) (v:Val),ce n v→(∀ q∈bX n lv v,bt q.2=0∧ag q.2=true)→FO n v
 | 0,_,_,hd,_=>hd.elim
 | n+1,lv,v,hd,h=>by
   simp only[bX,List.mem_cons,List.mem_flatMap] at h
   refine⟨h (lv,v) (.inl rfl),fun x hx=>uP n (lv+1) x (hd x hx) fun q hq=>h q (.inr ⟨x,hx,hq⟩)⟩
theorem pB {n:Nat}{v:Val}(hd:ce n v)(h:gQ 0 (bX n 1 v)=0):FO n v:=
 uP n 1 v hd fun q hq=>by obtain⟨j,hj⟩:=qC _ _ h q hq;exact rz hj
def accB (n:Nat)(t:Typ)(v:Val):Bool:=decide (gQ 0 (bX 9 1 v)=0)&&bj n t v
theorem uc (n:Nat)(t:Typ)(v:Val)(hd:ce 9 v)(hv:v.ok)(hP:gQ 0 (bX 9 1 v)=0→mx n t v):ak Tryz.prog aD 145 [t.pv,v.pv] (.bool (accB n t v)):=by
 have hc:=qE 9 v hd hv (by omega)
 simp only[accB]
 generalize gQ 0 (bX 9 1 v)=z at hc hP ⊢
 by_cases hz:z=0
 ·have hh:=E8 n t v (hP hz)
  subst hz
  generalize bj n t v=b at hh ⊢
  obtain⟨k,m,M,s,w,e,f⟩:=t
  obtain⟨vk,vn,vs,vt,vl,vf⟩:=v
  simp only[Typ.pv_mk,Val.pv_mk] at hc hh
  refine ak.intro Av (by simp[Mh]) ?_
  simp(maxSteps:=9^7) (disch:=first|exact dI|fail) only[Mh,Typ.pv_mk,Val.pv_mk,push_cast,seval]
  refine ab.pure hc rfl ?_
  simp(maxSteps:=9^7) (disch:=first|exact dI|fail) only[push_cast,seval]
  refine ab.pure hh rfl ?_
  simp(maxSteps:=9^7) (disch:=first|exact dI|fail) only[push_cast,seval]
 ·rw[decide_eq_false hz,Bool.false_and]
  obtain⟨k,m,M,s,w,e,f⟩:=t
  obtain⟨vk,vn,vs,vt,vl,vf⟩:=v
  simp only[Typ.pv_mk,Val.pv_mk] at hc
  refine ak.intro Av (by simp[Mh]) ?_
  simp(maxSteps:=9^7) (disch:=first|exact dI|fail) only[Mh,Typ.pv_mk,Val.pv_mk,push_cast,seval]
  refine ab.pure hc rfl ?_
  simp(maxSteps:=9^7) (disch:=first|exact dI|fail) only[hz,push_cast,seval]
def ip:Nat→Val→Prop
 | 0,_=>False
 | n+1,v=>v.ok∧v.lst.length≤1000000000∧v.fields.length≤1000000∧(∀ x∈v.lst,ip n x)∧∀ x∈v.fields,ip n x.value
def bm:Nat→Typ→Prop
 | 0,_=>False
 | n+1,.mk _ _ _ _ w e f=>w.length≤1000000∧(∀ x∈w,x.length≤1000000)∧e.length≤1000000∧f.length≤1000000∧(∀ x∈e,bm n x)∧∀ g∈f,g.dflt.length≤1000000∧(∀ v∈g.dflt,ip 9 v∧ce 9 v∧(bX 9 1 v).length≤1000000000000)∧bm n g.typ
def tyV:Nat→Typ→Prop
 | 0,_=>False
 | n+1,.mk k m M s w e f=>bA (.mk k m M s w e f)=0∧(k=8→∀ x∈e,tyV n x)∧(k=9∨k=10→∀ g∈f,tyV n g.typ)
theorem fT:∀ (n:Nat) (t:Typ),bm n t→cj n t
 | 0,_,h=>h.elim
 | n+1,.mk k m M s w e f,h=>by
   simp only[bm] at h
   simp only[cj]
   obtain⟨h1,h2,h3,h4,h5,h6⟩:=h
   exact⟨by omega,by omega,by omega,fun x hx=>fT n x (h5 x hx),fun g hg=>⟨by have:=(h6 g hg).1;omega,fun v hv=>((h6 g hg).2.1 v hv).1.1,fT n g.typ (h6 g hg).2.2⟩⟩
theorem bS {k m M s:Int}{w:List (List UInt8)}{e:List Typ}{f:List TFd}(h:bA (.mk k m M s w e f)=0):inB k 1 10=true∧az k m M s w=0∧aC k e.length f.length=0∧au k [] f=0:=by
 rw[bA] at h
 by_cases a:inB k 1 10=false
 ·rw[if_pos a] at h;exact absurd h (by decide)
 rw[if_neg a] at h
 by_cases b:aV k (.mk k m M s w e f)=true
 ·rw[if_pos b] at h;exact absurd h (by decide)
 rw[if_neg b] at h
 by_cases c:az k m M s w=0
 ·rw[if_neg (fun hh=>hh c)] at h
  by_cases d:aC k e.length f.length=0
  ·rw[if_neg (fun hh=>hh d)] at h
   exact⟨by simpa using a,c,d,h⟩
  ·rw[if_pos d] at h;exact absurd h d
 ·rw[if_pos c] at h;exact absurd h c
theorem w8 {k m M s:Int}{w:List (List UInt8)}{e:List Typ}{f:List TFd}(h:bA (.mk k m M s w e f)=0)(hk:¬ k=3):s=0:=by
 rw[bA] at h
 by_cases a:inB k 1 10=false
 ·rw[if_pos a] at h;exact absurd h (by decide)
 rw[if_neg a] at h
 by_cases b:aV k (.mk k m M s w e f)=true
 ·rw[if_pos b] at h;exact absurd h (by decide)
 have b':aV k (.mk k m M s w e f)=false:=by simpa using b
 simp only[aV,am,Bool.or_eq_false_iff] at b'
 obtain⟨_,b2,_⟩:=b'
 rw[decide_eq_false hk] at b2
 simpa using b2
theorem g6 {m M s:Int}{w:List (List UInt8)}{e:List Typ}{f:List TFd}(h:bA (.mk 8 m M s w e f)=0):∃ x,e=[x]:=by
 have h1:=(bS h).2.2.1
 match e,h1 with
 | [],h1=>simp[aC] at h1
 | [x],_=>exact⟨x,rfl⟩
 | x::y::r,h1=>simp[aC] at h1
theorem jI {t:Typ}{nm:List UInt8}{g:TFd}(h:bk t nm=some g):(t.kind=9∨t.kind=10)∧g∈t.fields:=by
 unfold bk at h
 split at h
 ·rename_i hk;exact⟨hk,List.mem_of_find?_eq_some h⟩
 ·cases h
theorem BC {v:Val}(hk:v.kind=10)(h:bt v=0):∃ y r,v.lst=y::r:=by
 obtain⟨vk,vn,vs,vt,vl,vf⟩:=v
 simp only[Val.kind] at hk
 subst hk
 cases vl with
 | cons y r=>exact⟨y,r,rfl⟩
 | nil=>
   simp only[bt,show ¬ (10:Int)=1 by decide,show ¬ (10:Int)=2 by decide,show ¬ (10:Int)=3 by decide,show ¬ (10:Int)=4 by decide,show ¬ (10:Int)=5 by decide,show ¬ (10:Int)=6 by decide,show ¬ (10:Int)=7 by decide,show ¬ (10:Int)=8 by decide,show ¬ (10:Int)=9 by decide,if_false,if_true,List.length_nil] at h
   split at h<;>exact absurd h (by decide)
theorem i6:∀ (n m:Nat) (t:Typ) (v:Val),tyV n t→bm n t→FO m v→ip m v→mx n t v
 | 0,_,_,_,h,_,_,_=>h.elim
 | _+1,0,_,_,_,_,h,_=>h.elim
 | n+1,m+1,t,v,h1,h2,h3,h4=>by
   obtain⟨hv,hvl,hvf,hl,hf⟩:=h4
   obtain⟨⟨hr,hu⟩,hp⟩:=h3
   have hsm:=fT _ _ h2
   have hk8:v.kind=8→∀ y∈v.lst,FO m y:=fun hk y hy=>hp y (by rw[bM (.inl hk)];exact hy)
   have hk10:v.kind=10→∀ y∈v.lst,FO m y:=fun hk y hy=>hp y (by rw[bM (.inr hk)];exact hy)
   have hk9:v.kind=9→∀ x∈v.fields,FO m x.value:=fun hk x hx=>hp x.value (by rw[cC hk];exact List.mem_map_of_mem hx)
   obtain⟨k,mn,M,s,w,e,f⟩:=t
   simp only[tyV] at h1
   simp only[bm] at h2
   obtain⟨ho,ht8,ht9⟩:=h1
   obtain⟨t1,t2,t3,t4,t5,t6⟩:=h2
   have hkk:inB k 1 10=true:=(bS ho).1
   refine⟨⟨n+1,hsm⟩,by simpa[inB,Typ.kind] using hkk,t1,hv,hvl,hvf,fun hk=>⟨?_,?_,?_,?_⟩⟩
   ·intro h2
    simp only[Typ.kind] at h2 hk
    have hs:=w8 ho (by omega)
    obtain⟨vk,vn,vs,vt,vl,vf⟩:=v
    simp only[Val.kind] at hk
    subst hk
    simp only[ag,Bool.and_eq_true,Bool.or_eq_true,decide_eq_true_eq] at hu
    simp only[Val.scale,Typ.scale]
    omega
   ·intro h8 y hy
    simp only[Typ.kind] at h8 hk
    subst h8
    obtain⟨x,rfl⟩:=g6 ho
    exact⟨x,[],rfl,i6 n m x y (ht8 rfl x (List.mem_cons_self ..)) (t5 x (List.mem_cons_self ..)) (hk8 hk y hy) (hl y hy)⟩
   ·intro h10 g hg
    simp only[Typ.kind] at h10 hk
    subst h10
    obtain⟨_,hgm⟩:=jI hg
    simp only[Typ.fields] at hgm
    obtain⟨y,r,hy⟩:=BC hk hr
    have hym:y∈v.lst:=by rw[hy];exact List.mem_cons_self ..
    exact⟨y,r,hy,i6 n m g.typ y (ht9 (.inr rfl) g hgm) (t6 g hgm).2.2 (hk10 hk y hym) (hl y hym)⟩
   ·intro h9 x hx g hg
    simp only[Typ.kind] at h9 hk
    subst h9
    obtain⟨_,hgm⟩:=jI hg
    simp only[Typ.fields] at hgm
    exact i6 n m g.typ x.value (ht9 (.inl rfl) g hgm) (t6 g hgm).2.2 (hk9 hk x hx) (hf x hx)
end Go.Proofs.YtbaaokocnegdoaaGreatDoor
