/- A part of the proof. -/
import Derived.Test.YtbaaokocnegdoaaGreatDoorAgVS8
set_option linter.unusedVariables false
set_option linter.unusedSimpArgs false
set_option maxHeartbeats 16000000
set_option maxRecDepth 100000
namespace Go.Proofs.YtbaaokocnegdoaaGreatDoor
open Go Go.Ab
attribute [local irreducible] vc
theorem DR (n:Nat)(ih:rp n)(m M s:Int)(w:List (List UInt8))(e:List Typ)(f:List TFd)(vn vs:Int)(vt:List UInt8)(vl:List Val)(vf:List Fld)(N:Nat)(hs:cQ N (.mk 10 m M s w e f))
  (h:∀ g,cq (.mk 10 m M s w e f) vt=some g->∃ y r,vl=y::r/\DP n g.typ y):ae Tryz.prog au 193 [(Typ.mk 10 m M s w e f).pv,(Val.mk 10 vn vs vt vl vf).pv] (.bool (dV (n+1) (.mk 10 m M s w e f) (.mk 10 vn vs vt vl vf))):=by
 have hc:=vK N _ vt hs
 rw[show dV (n+1) (.mk 10 m M s w e f) (.mk 10 vn vs vt vl vf)=Rr (dV n) vl (cq (.mk 10 m M s w e f) vt) by simp[dV,Is,Typ.kind,Val.kind,Val.lst,Val.text]]
 generalize cq (.mk 10 m M s w e f) vt=o at hc h ⊢
 simp only[Typ.pv_mk] at hc
 cases o with
 | none=>
   simp only[tfR,Option.getD_none,Option.isSome_none,fO,TFd.pv_mk,Typ.pv_mk,ak,Rr] at hc ⊢
   refine ae.intro go.2 (by simp[go]) ?_
   simp(disch:=try exact dI) only[go,Typ.pv_mk,Val.pv_mk,push_cast,seval]
   refine ab.pure hc rfl ?_
   exact qsZ
 | some g=>
   obtain⟨y,r,rfl,hy⟩:=h g rfl
   have hh:=ih _ _ hy
   obtain⟨n',nm',nd',⟨k',m',M',s',w',e',f'⟩,d'⟩:=g
   simp only[TFd.typ,Rr,tw] at hh ⊢
   generalize dV n (.mk k' m' M' s' w' e' f') y=b at hh ⊢
   obtain⟨yk,yn,ys,yt,yl,yf⟩:=y
   simp only[tfR,Option.getD_some,Option.isSome_some,TFd.pv_mk,Typ.pv_mk,Val.pv_mk,ak] at hc hh ⊢
   refine ae.intro go.2 (by simp[go]) ?_
   simp(disch:=try exact dI) only[go,Typ.pv_mk,Val.pv_mk,aE,push_cast,seval]
   refine ab.pure hc rfl ?_
   simp(disch:=try exact dI) only[aE,Val.pv_mk,push_cast,seval]
   refine ab.pure hh rfl ?_
   exact qsZ
theorem tz (n:Nat)(k m M s:Int)(w:List (List UInt8))(e:List Typ)(f:List TFd)(vn vs:Int)(vt:List UInt8)(vl:List Val)(vf:List Fld)(h1:¬ (k=2\/k=6\/k=7\/k=3))(h4:¬ k=4)(h5:¬ k=5)(h8:¬ k=8)(h10:¬ k=10)(h9:¬ k=9):ae Tryz.prog au 193 [(Typ.mk k m M s w e f).pv,(Val.mk k vn vs vt vl vf).pv] (.bool (dV (n+1) (.mk k m M s w e f) (.mk k vn vs vt vl vf))):=by
 rw[show dV (n+1) (.mk k m M s w e f) (.mk k vn vs vt vl vf)=true by simp[dV,Is,Typ.kind,Val.kind,h1,h4,h5,h8,h9,h10]]
 have a2:¬ k=2:=by omega
 have a6:¬ k=6:=by omega
 have a7:¬ k=7:=by omega
 have a3:¬ k=3:=by omega
 refine ae.intro go.2 (by simp[go]) ?_
 simp(disch:=try exact dI) only[go,Typ.pv_mk,Val.pv_mk,push_cast,seval]
theorem Jn {α:Type}{p:α->Bool}{l:List α}{i:Nat}{x:α}(h:l[i]? = some x):(l.drop i).all p=(p x&&(l.drop (i+1)).all p):=by
 have hi:=(List.getElem?_eq_some_iff.1 h).1
 have he:l[i]=x:=(List.getElem?_eq_some_iff.1 h).2
 rw[List.drop_eq_getElem_cons hi,he,List.all_cons]
theorem It (n:Nat)(ih:rp n)(m M s:Int)(w:List (List UInt8))(e:List Typ)(f:List TFd)(vn vs:Int)(vt:List UInt8)(vl:List Val)(vf:List Fld)(N:Nat)(hs:cQ N (.mk 9 m M s w e f))(hv:(Val.mk 9 vn vs vt vl vf).ok)(hvf:vf.length<=1000000)
  (h:∀ x∈vf,∀ g,cq (.mk 9 m M s w e f) x.name=some g->DP n g.typ x.value):ae Tryz.prog au 193 [(Typ.mk 9 m M s w e f).pv,(Val.mk 9 vn vs vt vl vf).pv] (.bool (dV (n+1) (.mk 9 m M s w e f) (.mk 9 vn vs vt vl vf))):=by
 have hfl:f.length<=1000000000:=by
  cases N with
  | zero=>exact hs.elim
  | succ N=>simp only[cQ] at hs;exact hs.2.2.1
 have hfld:=fun nm=>vK N _ nm hs
 have hla:=np f 248 [.eptr [(Val.mk 9 vn vs vt vl vf).pv] 0 0] (yy (.mk 9 vn vs vt vl vf)) (fun g _=>Qp _ g hv rfl hvf) hfl
 rw[show dV (n+1) (.mk 9 m M s w e f) (.mk 9 vn vs vt vl vf)=((vf.all fun x=>N9 (dV n) x.value (cq (.mk 9 m M s w e f) x.name))&&!(f.any (yy (.mk 9 vn vs vt vl vf)))) by simp[dV,Is,Typ.kind,Val.kind,Val.fields,Typ.fields]]
 generalize f.any (yy (.mk 9 vn vs vt vl vf))=q at hla ⊢
 obtain⟨T,hT⟩:∃ T,T=cq (.mk 9 m M s w e f):=⟨_,rfl⟩
 rw[<- hT] at h ⊢
 have hfld:∀ nm,ae Tryz.prog au 247 [(Typ.mk 9 m M s w e f).pv,.str nm] (tfR (T nm)):=fun nm=>by rw[hT];exact hfld nm
 clear hT
 simp only[Typ.pv_mk,Val.pv_mk] at hfld hla
 obtain⟨p,hp⟩:∃ p:Fld->Bool,p=fun x=>N9 (dV n) x.value (T x.name):=⟨_,rfl⟩
 rw[<- hp]
 obtain⟨R,hR⟩:∃ R,R=(vf.all p&&!q):=⟨_,rfl⟩
 rw[<- hR]
 refine ae.intro go.2 (by simp[go]) ?_
 simp(disch:=try exact dI) only[go,Typ.pv_mk,Val.pv_mk,push_cast,seval]
 refine aC ([]) (fun i:Nat=>[(107,.pv (.int .i64 (i:Int)))]) (fun _=>[]) (fun i=>i<=vf.length/\R=((vf.drop i).all p&&!q)) (fun i=>vf.length - i) (0) ?_;intro e0 σ0 n0 h0;simp(disch:=try exact dI) only[push_cast,seval] at h0;obtain⟨rfl,rfl,rfl⟩:=h0;refine⟨?_,?_,?_⟩
 ·exact qsZ
 ·exact⟨by omega,by simpa using hR⟩
 rintro i ⟨hi,hr⟩
 by_cases hlt:i<vf.length
 ·have hltI:(i:Int)<(vf.length:Int):=by omega
  obtain⟨x,hx⟩:∃ x,vf[i]? = some x:=⟨_,List.getElem?_eq_getElem hlt⟩
  rw[Jn hx] at hr
  have hph:=h x (List.mem_of_getElem? hx)
  have hc:=hfld x.name
  rw[show p x=N9 (dV n) x.value (T x.name) by rw[hp]] at hr
  generalize T x.name=o at hph hc hr
  obtain⟨xn,y⟩:=x
  simp only[Fld.name,Fld.value] at hph hc hr
  cases o with
  | none=>
    simp only[N9,Bool.false_and] at hr
    subst hr
    obtain⟨yk,yn,ys,yt,yl,yf⟩:=y
    simp only[tfR,Option.getD_none,Option.isSome_none,fO,TFd.pv_mk,Typ.pv_mk,ak] at hc
    simp(disch:=try exact dI) only[hx,Option.map_some,Fld.pv_mk,Val.pv_mk,ak,push_cast,seval]
    refine ab.pure hc rfl ?_
    exact qsZ
  | some g=>
    have hh:=ih _ _ (hph g rfl)
    simp only[N9] at hr
    obtain⟨n',nm',nd',⟨k',m',M',s',w',e',f'⟩,d'⟩:=g
    simp only[TFd.typ] at hh hr
    generalize dV n (.mk k' m' M' s' w' e' f') y=b at hh hr
    obtain⟨yk,yn,ys,yt,yl,yf⟩:=y
    simp only[tfR,Option.getD_some,Option.isSome_some,TFd.pv_mk,Typ.pv_mk,Val.pv_mk,ak] at hc hh
    cases b with
    | false=>
      simp only[Bool.false_and] at hr
      subst hr
      simp(disch:=try exact dI) only[hx,Option.map_some,Fld.pv_mk,Val.pv_mk,ak,push_cast,seval]
      refine ab.pure hc rfl ?_
      refine zgZ ?_
      refine ab.pure hh rfl ?_
      exact qsZ
    | true=>
      rw[Bool.true_and] at hr
      simp(disch:=try exact dI) only[hx,Option.map_some,Fld.pv_mk,Val.pv_mk,ak,push_cast,seval]
      refine ab.pure hc rfl ?_
      refine zgZ ?_
      refine ab.pure hh rfl ?_
      refine zgZ ?_
      exact⟨i+1,aR qsZ,⟨by omega,hr⟩,by omega⟩
 ·obtain rfl:i=vf.length:=by omega
  rw[List.drop_length,List.all_nil,Bool.true_and] at hr
  subst hr
  simp(disch:=try exact dI) only[Int.lt_irrefl,push_cast,seval]
  refine ab.pure hla rfl ?_
  exact qsZ
theorem Kh:∀ n,rp n
 | 0=>fun _ _ h=>h.elim
 | n+1=>fun t v h=>by
   have ih:=Kh n
   simp only[DP] at h
   obtain⟨⟨N,hs⟩,_,hw,hv,hl,hf,h⟩:=h
   by_cases hk:v.kind=t.kind
   ·have h:=h hk
    obtain⟨k,m,M,s,w,e,f⟩:=t
    obtain⟨vk,vn,vs,vt,vl,vf⟩:=v
    simp only[Val.kind,Typ.kind,Typ.words,Val.lst,Val.fields,Val.text,Typ.elem] at hk h hw hl hf
    subst hk
    obtain⟨_,h8,h10,h9⟩:=h
    by_cases h1:vk=2\/vk=6\/vk=7\/vk=3
    ·exact yJ n _ _ _ _ _ _ _ _ _ _ _ _ h1
    by_cases h4:vk=4
    ·subst h4;exact Iw n _ _ _ _ _ _ _ _ _ _ _ hw
    by_cases h5:vk=5
    ·subst h5;exact Iv n _ _ _ _ _ _ _ _ _ _ _
    by_cases h8':vk=8
    ·subst h8';exact Iu n ih _ _ _ _ _ _ _ _ _ _ _ hl (h8 rfl)
    by_cases h10':vk=10
    ·subst h10';exact DR n ih _ _ _ _ _ _ _ _ _ _ _ N hs (h10 rfl)
    by_cases h9':vk=9
    ·subst h9';exact It n ih _ _ _ _ _ _ _ _ _ _ _ N hs hv hf (h9 rfl)
    exact tz n _ _ _ _ _ _ _ _ _ _ _ _ h1 h4 h5 h8' h10' h9'
   ·exact DQ n t v hk
def KZ:Nat->Val->Prop
 | 0,_=>False
 | n+1,v=>(bE v=0/\ce v=true)/\∀ x∈bq v,KZ n x
theorem vU:∀ (xs:List (Int×Val)) (i:Nat),ov i xs=0->∀ q∈xs,∃ j,bg j q=0
 | [],_,_,_,h=>by cases h
 | x::r,i,h,q,hq=>by
   rw[ov] at h
   by_cases h0:bg i x=0
   ·rw[if_pos h0] at h
    rcases List.mem_cons.1 hq with rfl | hq
    ·exact⟨i,h0⟩
    ·exact vU r (i+1) h q hq
   ·rw[if_neg h0] at h;exact absurd h h0
theorem wR {j:Nat}{q:Int×Val}(h:bg j q=0):bE q.2=0/\ce q.2=true:=by
 unfold bg at h
 split at h
 ·cases h
 split at h
 ·cases h
 split at h
 ·cases h
 split at h
 ·cases h
 split at h
 ·cases h
 ·rename_i hu
  exact⟨h,by simpa using hu⟩
theorem A4:∀ (n:Nat) (lv:Int) (v:Val),fM n v->(∀ q∈dm n lv v,bE q.2=0/\ce q.2=true)->KZ n v
 | 0,_,_,hd,_=>hd.elim
 | n+1,lv,v,hd,h=>by
   simp only[dm,List.mem_cons,List.mem_flatMap] at h
   refine⟨h (lv,v) (.inl rfl),fun x hx=>A4 n (lv+1) x (hd x hx) fun q hq=>h q (.inr ⟨x,hx,hq⟩)⟩
theorem FT {n:Nat}{v:Val}(hd:fM n v)(h:ov 0 (dm n 1 v)=0):KZ n v:=
 A4 n 1 v hd fun q hq=>by obtain⟨j,hj⟩:=vU _ _ h q hq;exact wR hj
def accB (n:Nat)(t:Typ)(v:Val):Bool:=decide (ov 0 (dm 9 1 v)=0)&&dV n t v
theorem At (n:Nat)(t:Typ)(v:Val)(hd:fM 9 v)(hv:v.ok)(hP:ov 0 (dm 9 1 v)=0->DP n t v):ae Tryz.prog au 145 [t.pv,v.pv] (.bool (accB n t v)):=by
 have hc:=vV 9 v hd hv (by omega)
 simp only[accB]
 generalize ov 0 (dm 9 1 v)=z at hc hP ⊢
 by_cases hz:z=0
 ·have hh:=Kh n t v (hP hz)
  subst hz
  generalize dV n t v=b at hh ⊢
  obtain⟨k,m,M,s,w,e,f⟩:=t
  obtain⟨vk,vn,vs,vt,vl,vf⟩:=v
  simp only[Typ.pv_mk,Val.pv_mk] at hc hh
  refine ae.intro Ot.2 (by simp[Ot]) ?_
  simp(disch:=try exact dI) only[Ot,Typ.pv_mk,Val.pv_mk,push_cast,seval]
  refine ab.pure hc rfl ?_
  refine zgZ ?_
  refine ab.pure hh rfl ?_
  exact qsZ
 ·rw[decide_eq_false hz,Bool.false_and]
  obtain⟨k,m,M,s,w,e,f⟩:=t
  obtain⟨vk,vn,vs,vt,vl,vf⟩:=v
  simp only[Typ.pv_mk,Val.pv_mk] at hc
  refine ae.intro Ot.2 (by simp[Ot]) ?_
  simp(disch:=try exact dI) only[Ot,Typ.pv_mk,Val.pv_mk,push_cast,seval]
  refine ab.pure hc rfl ?_
  simp(disch:=try exact dI) only[hz,push_cast,seval]
def kb:Nat->Val->Prop
 | 0,_=>False
 | n+1,v=>v.ok/\v.lst.length<=1000000000/\v.fields.length<=1000000/\(∀ x∈v.lst,kb n x)/\∀ x∈v.fields,kb n x.value
def cp:Nat->Typ->Prop
 | 0,_=>False
 | n+1,.mk _ _ _ _ w e f=>w.length<=1000000/\(∀ x∈w,x.length<=1000000)/\e.length<=1000000/\f.length<=1000000/\(∀ x∈e,cp n x)/\∀ g∈f,g.dflt.length<=1000000/\(∀ v∈g.dflt,kb 9 v/\fM 9 v/\(dm 9 1 v).length<=1000000000000)/\cp n g.typ
def tyV:Nat->Typ->Prop
 | 0,_=>False
 | n+1,.mk k m M s w e f=>jk (.mk k m M s w e f)=0/\(k=8->∀ x∈e,tyV n x)/\(k=9\/k=10->∀ g∈f,tyV n g.typ)
theorem iw:∀ (n:Nat) (t:Typ),cp n t->cQ n t
 | 0,_,h=>h.elim
 | n+1,.mk k m M s w e f,h=>by
   simp only[cp] at h
   simp only[cQ]
   obtain⟨h1,h2,h3,h4,h5,h6⟩:=h
   exact⟨by omega,by omega,by omega,fun x hx=>iw n x (h5 x hx),fun g hg=>⟨by have:=(h6 g hg).1;omega,fun v hv=>((h6 g hg).2.1 v hv).1.1,iw n g.typ (h6 g hg).2.2⟩⟩
theorem cn {k m M s:Int}{w:List (List UInt8)}{e:List Typ}{f:List TFd}(h:jk (.mk k m M s w e f)=0):inB k 1 10=true/\eW k m M s w=0/\cC k e.length f.length=0/\ck k [] f=0:=by
 rw[jk] at h
 by_cases a:inB k 1 10=false
 ·rw[if_pos a] at h;exact absurd h (by decide)
 rw[if_neg a] at h
 by_cases b:lu k (.mk k m M s w e f)=true
 ·rw[if_pos b] at h;exact absurd h (by decide)
 rw[if_neg b] at h
 by_cases c:eW k m M s w=0
 ·rw[if_neg (fun hh=>hh c)] at h
  by_cases d:cC k e.length f.length=0
  ·rw[if_neg (fun hh=>hh d)] at h
   exact⟨by simpa using a,c,d,h⟩
  ·rw[if_pos d] at h;exact absurd h d
 ·rw[if_pos c] at h;exact absurd h c
theorem CG {k m M s:Int}{w:List (List UInt8)}{e:List Typ}{f:List TFd}(h:jk (.mk k m M s w e f)=0)(hk:¬ k=3):s=0:=by
 rw[jk] at h
 by_cases a:inB k 1 10=false
 ·rw[if_pos a] at h;exact absurd h (by decide)
 rw[if_neg a] at h
 by_cases b:lu k (.mk k m M s w e f)=true
 ·rw[if_pos b] at h;exact absurd h (by decide)
 have b':lu k (.mk k m M s w e f)=false:=by simpa using b
 simp only[lu,lx,Bool.or_eq_false_iff] at b'
 obtain⟨_,b2,_⟩:=b'
 rw[decide_eq_false hk] at b2
 simpa using b2
theorem uO {m M s:Int}{w:List (List UInt8)}{e:List Typ}{f:List TFd}(h:jk (.mk 8 m M s w e f)=0):∃ x,e=[x]:=by
 have h1:=(cn h).2.2.1
 match e,h1 with
 | [],h1=>simp[cC] at h1
 | [x],_=>exact⟨x,rfl⟩
 | x::y::r,h1=>simp[cC] at h1
theorem mB {t:Typ}{nm:List UInt8}{g:TFd}(h:cq t nm=some g):(t.kind=9\/t.kind=10)/\g∈t.fields:=by
 unfold cq at h
 split at h
 ·rename_i hk;exact⟨hk,List.mem_of_find?_eq_some h⟩
 ·cases h
theorem GD {v:Val}(hk:v.kind=10)(h:bE v=0):∃ y r,v.lst=y::r:=by
 obtain⟨vk,vn,vs,vt,vl,vf⟩:=v
 simp only[Val.kind] at hk
 subst hk
 cases vl with
 | cons y r=>exact⟨y,r,rfl⟩
 | nil=>
   simp only[bE,show ¬ (10:Int)=1 by decide,show ¬ (10:Int)=2 by decide,show ¬ (10:Int)=3 by decide,show ¬ (10:Int)=4 by decide,show ¬ (10:Int)=5 by decide,show ¬ (10:Int)=6 by decide,show ¬ (10:Int)=7 by decide,show ¬ (10:Int)=8 by decide,show ¬ (10:Int)=9 by decide,if_false,if_true,List.length_nil] at h
   split at h<;>exact absurd h (by decide)
theorem oc:∀ (n m:Nat) (t:Typ) (v:Val),tyV n t->cp n t->KZ m v->kb m v->DP n t v
 | 0,_,_,_,h,_,_,_=>h.elim
 | _+1,0,_,_,_,_,h,_=>h.elim
 | n+1,m+1,t,v,h1,h2,h3,h4=>by
   obtain⟨hv,hvl,hvf,hl,hf⟩:=h4
   obtain⟨⟨hr,hu⟩,hp⟩:=h3
   have hsm:=iw _ _ h2
   have hk8:v.kind=8->∀ y∈v.lst,KZ m y:=fun hk y hy=>hp y (by rw[iG (.inl hk)];exact hy)
   have hk10:v.kind=10->∀ y∈v.lst,KZ m y:=fun hk y hy=>hp y (by rw[iG (.inr hk)];exact hy)
   have hk9:v.kind=9->∀ x∈v.fields,KZ m x.value:=fun hk x hx=>hp x.value (by rw[mL hk];exact List.mem_map_of_mem hx)
   obtain⟨k,mn,M,s,w,e,f⟩:=t
   simp only[tyV] at h1
   simp only[cp] at h2
   obtain⟨ho,ht8,ht9⟩:=h1
   obtain⟨t1,t2,t3,t4,t5,t6⟩:=h2
   have hkk:inB k 1 10=true:=(cn ho).1
   refine⟨⟨n+1,hsm⟩,by simpa[inB,Typ.kind] using hkk,t1,hv,hvl,hvf,fun hk=>⟨?_,?_,?_,?_⟩⟩
   ·intro h2
    simp only[Typ.kind] at h2 hk
    have hs:=CG ho (by omega)
    obtain⟨vk,vn,vs,vt,vl,vf⟩:=v
    simp only[Val.kind] at hk
    subst hk
    simp only[ce,Bool.and_eq_true,Bool.or_eq_true,decide_eq_true_eq] at hu
    simp only[Val.scale,Typ.scale]
    omega
   ·intro h8 y hy
    simp only[Typ.kind] at h8 hk
    subst h8
    obtain⟨x,rfl⟩:=uO ho
    exact⟨x,[],rfl,oc n m x y (ht8 rfl x (List.mem_cons_self ..)) (t5 x (List.mem_cons_self ..)) (hk8 hk y hy) (hl y hy)⟩
   ·intro h10 g hg
    simp only[Typ.kind] at h10 hk
    subst h10
    obtain⟨_,hgm⟩:=mB hg
    simp only[Typ.fields] at hgm
    obtain⟨y,r,hy⟩:=GD hk hr
    have hym:y∈v.lst:=by rw[hy];exact List.mem_cons_self ..
    exact⟨y,r,hy,oc n m g.typ y (ht9 (.inr rfl) g hgm) (t6 g hgm).2.2 (hk10 hk y hym) (hl y hym)⟩
   ·intro h9 x hx g hg
    simp only[Typ.kind] at h9 hk
    subst h9
    obtain⟨_,hgm⟩:=mB hg
    simp only[Typ.fields] at hgm
    exact oc n m g.typ x.value (ht9 (.inl rfl) g hgm) (t6 g hgm).2.2 (hk9 hk x hx) (hf x hx)
def gP (rec:Int->Typ->Int×Int):Int->List Typ->Int×Int
 | l,[]=>(0,l)
 | l,t::r=>if (rec l t).1=0 then gP rec (rec l t).2 r else rec l t
def tL (n:Nat):TFd->Bool
 | .mk _ _ nd t d=>decide (nd=3)&&!(tw (accB n t) d)
def fL (n:Nat)(rec:Int->Typ->Int×Int):Int->List TFd->Int×Int
 | l,[]=>(0,l)
 | l,g::r=>if (rec l g.typ).1=0 then (if tL n g=true then (18,(rec l g.typ).2) else fL n rec (rec l g.typ).2 r) else rec l g.typ
def i6:Nat->Int->Typ->Int×Int
 | 0,l,_=>(0,l)
 | n+1,l,.mk k m M s w e f=>if jk (.mk k m M s w e f)=0 then (if k=9 then fL n (i6 n) (l - 1) f else gP (i6 n) (l - 1) (bu (.mk k m M s w e f))) else (jk (.mk k m M s w e f),l - 1)
theorem yz {rec:Int->Typ->Int×Int}{ps:List Typ}{i:Nat}{t:Typ}(h:ps[i]? = some t)(l:Int):gP rec l (ps.drop i)=if (rec l t).1=0 then gP rec (rec l t).2 (ps.drop (i+1)) else rec l t:=by
 have hi:=(List.getElem?_eq_some_iff.1 h).1
 have he:ps[i]=t:=(List.getElem?_eq_some_iff.1 h).2
 rw[List.drop_eq_getElem_cons hi,he,gP]
theorem yN {n:Nat}{rec:Int->Typ->Int×Int}{ps:List TFd}{i:Nat}{g:TFd}(h:ps[i]? = some g)(l:Int):fL n rec l (ps.drop i)=if (rec l g.typ).1=0 then (if tL n g=true then (18,(rec l g.typ).2) else fL n rec (rec l g.typ).2 (ps.drop (i+1))) else rec l g.typ:=by
 have hi:=(List.getElem?_eq_some_iff.1 h).1
 have he:ps[i]=g:=(List.getElem?_eq_some_iff.1 h).2
 rw[List.drop_eq_getElem_cons hi,he,fL]
theorem lg {rec:Int->Typ->Int×Int}:∀ (ps:List Typ) (l:Int),(gP rec l ps).1=0->∀ t∈ps,∃ l,(rec l t).1=0
 | [],_,_,_,h=>by cases h
 | x::r,l,h,t,ht=>by
   rw[gP] at h
   by_cases h0:(rec l x).1=0
   ·rw[if_pos h0] at h
    rcases List.mem_cons.1 ht with rfl | ht
    ·exact⟨l,h0⟩
    ·exact lg r _ h t ht
   ·rw[if_neg h0] at h;exact absurd h h0
theorem qy {n:Nat}{rec:Int->Typ->Int×Int}:∀ (ps:List TFd) (l:Int),(fL n rec l ps).1=0->∀ g∈ps,∃ l,(rec l g.typ).1=0
 | [],_,_,_,h=>by cases h
 | x::r,l,h,t,ht=>by
   rw[fL] at h
   by_cases h0:(rec l x.typ).1=0
   ·rw[if_pos h0] at h
    by_cases hd:tL n x=true
    ·rw[if_pos hd] at h;exact absurd h (show ¬ (18:Int)=0 by decide)
    ·rw[if_neg hd] at h
     rcases List.mem_cons.1 ht with rfl | ht
     ·exact⟨l,h0⟩
     ·exact qy r _ h t ht
   ·rw[if_neg h0] at h;exact absurd h h0
def aX:Nat->Typ->Prop
 | 0,_=>False
 | n+1,.mk _ _ _ _ _ e f=>e.length<=6/\f.length<=6/\(∀ x∈e,aX n x)/\∀ g∈f,aX n g.typ
theorem iZ:∀ (n:Nat) (l:Int) (t:Typ),aX n t->(i6 n l t).1=0->tyV n t
 | 0,_,_,hn,_=>hn.elim
 | n+1,l,.mk k m M s w e f,hn,h=>by
   simp only[aX] at hn
   rw[i6] at h
   by_cases ho:jk (.mk k m M s w e f)=0
   ·rw[if_pos ho] at h
    refine⟨ho,fun h8 x hx=>?_,fun h9 g hg=>?_⟩
    ·subst h8
     rw[if_neg (by decide)] at h
     obtain⟨l',hl'⟩:=lg _ _ h x hx
     exact iZ n l' x (hn.2.2.1 x hx) hl'
    ·by_cases hk:k=9
     ·subst hk
      rw[if_pos rfl] at h
      obtain⟨l',hl'⟩:=qy _ _ h g hg
      exact iZ n l' g.typ (hn.2.2.2 g hg) hl'
     ·have hk10:k=10:=by omega
      subst hk10
      rw[if_neg (by decide)] at h
      obtain⟨l',hl'⟩:=lg _ _ h g.typ (List.mem_map_of_mem hg)
      exact iZ n l' g.typ (hn.2.2.2 g hg) hl'
   ·rw[if_neg ho] at h;exact absurd h ho
def rz:Nat->Int
 | 0=>0
 | n+1=>1+6*rz n
theorem j1:∀ n,0<=rz n
 | 0=>by simp[rz]
 | n+1=>by have:=j1 n;simp only[rz];omega
def nL {α:Type}(c:Int)(l:List α):Int:=(l.length:Int)*c
theorem pl {α:Type}{c:Int}(hc:0<=c){ps:List α}{i:Nat}{t:α}(h:ps[i]? = some t):nL c (ps.drop i)=nL c (ps.drop (i+1))+c/\0<=nL c (ps.drop (i+1)):=by
 have hi:=(List.getElem?_eq_some_iff.1 h).1
 rw[List.drop_eq_getElem_cons hi]
 refine⟨?_,Int.mul_nonneg (by omega) hc⟩
 simp only[nL,List.length_cons]
 rw[show ((((ps.drop (i+1)).length+1:Nat)):Int)=((ps.drop (i+1)).length:Int)+1 by push_cast;rfl,Int.add_mul,Int.one_mul]
theorem pm {α:Type}{c:Int}(hc:0<=c)(x:α)(r:List α):nL c (x::r)=nL c r+c/\0<=nL c r:=by
 refine⟨?_,Int.mul_nonneg (by omega) hc⟩
 simp only[nL,List.length_cons]
 rw[show (((r.length+1:Nat)):Int)=(r.length:Int)+1 by push_cast;rfl,Int.add_mul,Int.one_mul]
def Fy (c:Int)(rec:Int->Typ->Int×Int)(t:Typ):Prop:=∀ l,c<=l->l - c<=(rec l t).2/\(rec l t).2<=l
theorem mX {c:Int}(hc:0<=c){rec:Int->Typ->Int×Int}:∀ (ps:List Typ) (l:Int),(∀ t∈ps,Fy c rec t)->nL c ps<=l->l - nL c ps<=(gP rec l ps).2/\(gP rec l ps).2<=l
 | [],l,_,_=>by simp[gP,nL]
 | x::r,l,h,hl=>by
   have h1:=pm hc x r
   have h2:=h x (List.mem_cons_self ..) l (by omega)
   rw[gP]
   split
   ·have h3:=mX hc r (rec l x).2 (fun t ht=>h t (List.mem_cons_of_mem _ ht)) (by omega)
    omega
   ·omega
theorem m7 {n:Nat}{c:Int}(hc:0<=c){rec:Int->Typ->Int×Int}:∀ (ps:List TFd) (l:Int),(∀ t∈ps,Fy c rec t.typ)->nL c ps<=l->l - nL c ps<=(fL n rec l ps).2/\(fL n rec l ps).2<=l
 | [],l,_,_=>by simp[fL,nL]
 | x::r,l,h,hl=>by
   have h1:=pm hc x r
   have h2:=h x (List.mem_cons_self ..) l (by omega)
   rw[fL]
   split
   ·split
    ·simp only;omega
    ·have h3:=m7 (n:=n) hc r (rec l x.typ).2 (fun t ht=>h t (List.mem_cons_of_mem _ ht)) (by omega)
     omega
   ·omega
theorem nK {α:Type}{c:Int}(hc:0<=c){l:List α}(h:l.length<=6):nL c l<=6*c:=Int.mul_le_mul_of_nonneg_right (by omega) hc
theorem gJ {n:Nat}{k m M s:Int}{w:List (List UInt8)}{e:List Typ}{f:List TFd}(h:aX (n+1) (.mk k m M s w e f)):(bu (.mk k m M s w e f)).length<=6/\∀ x∈bu (.mk k m M s w e f),aX n x:=by
 simp only[aX] at h
 by_cases h8:k=8
 ·rw[show bu (.mk k m M s w e f)=e from if_pos h8]
  exact⟨h.1,h.2.2.1⟩
 ·by_cases h9:k=9\/k=10
  ·rw[show bu (.mk k m M s w e f)=f.map TFd.typ by simp only[bu];rw[if_neg h8,if_pos h9]]
   refine⟨by rw[List.length_map];exact h.2.1,fun x hx=>?_⟩
   obtain⟨g,hg,rfl⟩:=List.mem_map.1 hx
   exact h.2.2.2 g hg
  ·rw[show bu (.mk k m M s w e f)=[] by simp only[bu];rw[if_neg h8,if_neg h9]]
   exact⟨by simp,fun x hx=>by cases hx⟩
theorem g8:∀ (n:Nat) (t:Typ),aX n t->Fy (rz n) (i6 n) t
 | 0,_,h=>h.elim
 | n+1,.mk k m M s w e f,h=>fun l hl=>by
   have hc:=j1 n
   obtain⟨hp1,hp2⟩:=gJ h
   simp only[aX] at h
   rw[rz] at hl ⊢
   rw[i6]
   split
   ·split
    ·have h1:=nK hc h.2.1
     have:=m7 (n:=n) hc f (l - 1) (fun g hg=>g8 n g.typ (h.2.2.2 g hg)) (by omega)
     omega
    ·have h1:=nK hc hp1
     have:=mX hc _ (l - 1) (fun x hx=>g8 n x (hp2 x hx)) (by omega)
     omega
   ·simp only;omega
theorem eB {k:Int}:∀ (f b:List TFd),ck k b f=0->∀ g∈f,∃ b,cZ k b g=0
 | [],_,_,_,h=>by cases h
 | x::r,b,h,g,hg=>by
   rw[ck] at h
   by_cases h0:cZ k b x=0
   ·rw[if_pos h0] at h
    rcases List.mem_cons.1 hg with rfl | hg
    ·exact⟨b,h0⟩
    ·exact eB r _ h g hg
   ·rw[if_neg h0] at h;exact absurd h h0
theorem m9 {k:Int}{b:List TFd}{n:Int}{nm:List UInt8}{t:Typ}{d:List Val}(h:cZ k b (.mk n nm 3 t d)=0):∃ x r,d=x::r:=by
 cases d with
 | cons x r=>exact⟨x,r,rfl⟩
 | nil=>
   simp only[cZ,List.length_nil,true_and,if_true] at h
   repeat' split at h
   all_goals first | exact absurd h (by decide) | skip
end Go.Proofs.YtbaaokocnegdoaaGreatDoor
