/- A part of the proof. -/
import Derived.Test.YtbaaokocnegdoaaGreatDoorDeVS9
set_option linter.unusedVariables false
set_option linter.unusedSimpArgs false
set_option maxHeartbeats 16000000
set_option maxRecDepth 100000
namespace Go.Proofs.YtbaaokocnegdoaaGreatDoor
open Go Go.Ab
attribute [local irreducible] vc
def Lk:Nat->Val->Prop
 | 0,_=>False
 | n+1,v=>(be v=0/\bl v=true)/\∀ x∈aV v,Lk n x
theorem vL:∀ (xs:List (Int×Val)) (i:Nat),iE i xs=0->∀ q∈xs,∃ j,aY j q=0
 | [],_,_,_,h=>by cases h
 | x::r,i,h,q,hq=>by
   rw[iE] at h
   by_cases h0:aY i x=0
   ·rw[if_pos h0] at h
    rcases List.mem_cons.1 hq with rfl | hq
    ·exact⟨i,h0⟩
    ·exact vL r (i+1) h q hq
   ·rw[if_neg h0] at h;exact absurd h h0
theorem wN {j:Nat}{q:Int×Val}(h:aY j q=0):be q.2=0/\bl q.2=true:=by
 unfold aY at h
 split at h
 ·cases h
 split at h
 ·cases h
 split at h
 ·cases h
 split at h
 ·cases h
 split at h
 ·cases h
 ·rename_i hu
  exact⟨h,by simpa using hu⟩
theorem AQ:∀ (n:Nat) (lv:Int) (v:Val),cy n v->(∀ q∈cf n lv v,be q.2=0/\bl q.2=true)->Lk n v
 | 0,_,_,hd,_=>hd.elim
 | n+1,lv,v,hd,h=>by
   simp only[cf,List.mem_cons,List.mem_flatMap] at h
   refine⟨h (lv,v) (.inl rfl),fun x hx=>AQ n (lv+1) x (hd x hx) fun q hq=>h q (.inr ⟨x,hx,hq⟩)⟩
theorem t8 {n:Nat}{v:Val}(hd:cy n v)(h:iE 0 (cf n 1 v)=0):Lk n v:=
 AQ n 1 v hd fun q hq=>by obtain⟨j,hj⟩:=vL _ _ h q hq;exact wN hj
def accB (n:Nat)(t:Typ)(v:Val):Bool:=decide (iE 0 (cf 9 1 v)=0)&&bm n t v
theorem Ag (n:Nat)(t:Typ)(v:Val)(hd:cy 9 v)(hv:v.ok)(hP:iE 0 (cf 9 1 v)=0->qE n t v):ak Tryz.prog aq 145 [t.pv,v.pv] (.bool (accB n t v)):=by
 have hc:=vO 9 v hd hv (by omega)
 simp only[accB]
 generalize iE 0 (cf 9 1 v)=z at hc hP ⊢
 by_cases hz:z=0
 ·have hh:=KB n t v (hP hz)
  subst hz
  generalize bm n t v=b at hh ⊢
  obtain⟨k,m,M,s,w,e,f⟩:=t
  obtain⟨vk,vn,vs,vt,vl,vf⟩:=v
  simp only[Typ.pv_mk,Val.pv_mk] at hc hh
  refine ak.intro Pa.2 (by simp[Pa]) ?_
  simp(disch:=try exact dI) only[Pa,Typ.pv_mk,Val.pv_mk,push_cast,seval]
  refine ab.pure hc rfl ?_
  refine zgZ ?_
  refine ab.pure hh rfl ?_
  exact qsZ
 ·rw[decide_eq_false hz,Bool.false_and]
  obtain⟨k,m,M,s,w,e,f⟩:=t
  obtain⟨vk,vn,vs,vt,vl,vf⟩:=v
  simp only[Typ.pv_mk,Val.pv_mk] at hc
  refine ak.intro Pa.2 (by simp[Pa]) ?_
  simp(disch:=try exact dI) only[Pa,Typ.pv_mk,Val.pv_mk,push_cast,seval]
  refine ab.pure hc rfl ?_
  simp(disch:=try exact dI) only[hz,push_cast,seval]
def ki:Nat->Val->Prop
 | 0,_=>False
 | n+1,v=>v.ok/\v.lst.length<=1000000000/\v.fields.length<=1000000/\(∀ x∈v.lst,ki n x)/\∀ x∈v.fields,ki n x.value
def br:Nat->Typ->Prop
 | 0,_=>False
 | n+1,.mk _ _ _ _ w e f=>w.length<=1000000/\(∀ x∈w,x.length<=1000000)/\e.length<=1000000/\f.length<=1000000/\(∀ x∈e,br n x)/\∀ g∈f,g.dflt.length<=1000000/\(∀ v∈g.dflt,ki 9 v/\cy 9 v/\(cf 9 1 v).length<=1000000000000)/\br n g.typ
def tyV:Nat->Typ->Prop
 | 0,_=>False
 | n+1,.mk k m M s w e f=>fj (.mk k m M s w e f)=0/\(k=8->∀ x∈e,tyV n x)/\(k=9\/k=10->∀ g∈f,tyV n g.typ)
theorem iH:∀ (n:Nat) (t:Typ),br n t->cB n t
 | 0,_,h=>h.elim
 | n+1,.mk k m M s w e f,h=>by
   simp only[br] at h
   simp only[cB]
   obtain⟨h1,h2,h3,h4,h5,h6⟩:=h
   exact⟨by omega,by omega,by omega,fun x hx=>iH n x (h5 x hx),fun g hg=>⟨by have:=(h6 g hg).1;omega,fun v hv=>((h6 g hg).2.1 v hv).1.1,iH n g.typ (h6 g hg).2.2⟩⟩
theorem bJ {k m M s:Int}{w:List (List UInt8)}{e:List Typ}{f:List TFd}(h:fj (.mk k m M s w e f)=0):inB k 1 10=true/\cH k m M s w=0/\bu k e.length f.length=0/\bg k [] f=0:=by
 rw[fj] at h
 by_cases a:inB k 1 10=false
 ·rw[if_pos a] at h;exact absurd h (by decide)
 rw[if_neg a] at h
 by_cases b:eW k (.mk k m M s w e f)=true
 ·rw[if_pos b] at h;exact absurd h (by decide)
 rw[if_neg b] at h
 by_cases c:cH k m M s w=0
 ·rw[if_neg (fun hh=>hh c)] at h
  by_cases d:bu k e.length f.length=0
  ·rw[if_neg (fun hh=>hh d)] at h
   exact⟨by simpa using a,c,d,h⟩
  ·rw[if_pos d] at h;exact absurd h d
 ·rw[if_pos c] at h;exact absurd h c
theorem CD {k m M s:Int}{w:List (List UInt8)}{e:List Typ}{f:List TFd}(h:fj (.mk k m M s w e f)=0)(hk:¬ k=3):s=0:=by
 rw[fj] at h
 by_cases a:inB k 1 10=false
 ·rw[if_pos a] at h;exact absurd h (by decide)
 rw[if_neg a] at h
 by_cases b:eW k (.mk k m M s w e f)=true
 ·rw[if_pos b] at h;exact absurd h (by decide)
 have b':eW k (.mk k m M s w e f)=false:=by simpa using b
 simp only[eW,i6,Bool.or_eq_false_iff] at b'
 obtain⟨_,b2,_⟩:=b'
 rw[decide_eq_false hk] at b2
 simpa using b2
theorem jT {m M s:Int}{w:List (List UInt8)}{e:List Typ}{f:List TFd}(h:fj (.mk 8 m M s w e f)=0):∃ x,e=[x]:=by
 have h1:=(bJ h).2.2.1
 match e,h1 with
 | [],h1=>simp[bu] at h1
 | [x],_=>exact⟨x,rfl⟩
 | x::y::r,h1=>simp[bu] at h1
theorem mH {t:Typ}{nm:List UInt8}{g:TFd}(h:bt t nm=some g):(t.kind=9\/t.kind=10)/\g∈t.fields:=by
 unfold bt at h
 split at h
 ·rename_i hk;exact⟨hk,List.mem_of_find?_eq_some h⟩
 ·cases h
theorem GW {v:Val}(hk:v.kind=10)(h:be v=0):∃ y r,v.lst=y::r:=by
 obtain⟨vk,vn,vs,vt,vl,vf⟩:=v
 simp only[Val.kind] at hk
 subst hk
 cases vl with
 | cons y r=>exact⟨y,r,rfl⟩
 | nil=>
   simp only[be,show ¬ (10:Int)=1 by decide,show ¬ (10:Int)=2 by decide,show ¬ (10:Int)=3 by decide,show ¬ (10:Int)=4 by decide,show ¬ (10:Int)=5 by decide,show ¬ (10:Int)=6 by decide,show ¬ (10:Int)=7 by decide,show ¬ (10:Int)=8 by decide,show ¬ (10:Int)=9 by decide,if_false,if_true,List.length_nil] at h
   split at h<;>exact absurd h (by decide)
theorem lr:∀ (n m:Nat) (t:Typ) (v:Val),tyV n t->br n t->Lk m v->ki m v->qE n t v
 | 0,_,_,_,h,_,_,_=>h.elim
 | _+1,0,_,_,_,_,h,_=>h.elim
 | n+1,m+1,t,v,h1,h2,h3,h4=>by
   obtain⟨hv,hvl,hvf,hl,hf⟩:=h4
   obtain⟨⟨hr,hu⟩,hp⟩:=h3
   have hsm:=iH _ _ h2
   have hk8:v.kind=8->∀ y∈v.lst,Lk m y:=fun hk y hy=>hp y (by rw[bY (.inl hk)];exact hy)
   have hk10:v.kind=10->∀ y∈v.lst,Lk m y:=fun hk y hy=>hp y (by rw[bY (.inr hk)];exact hy)
   have hk9:v.kind=9->∀ x∈v.fields,Lk m x.value:=fun hk x hx=>hp x.value (by rw[dg hk];exact List.mem_map_of_mem hx)
   obtain⟨k,mn,M,s,w,e,f⟩:=t
   simp only[tyV] at h1
   simp only[br] at h2
   obtain⟨ho,ht8,ht9⟩:=h1
   obtain⟨t1,t2,t3,t4,t5,t6⟩:=h2
   have hkk:inB k 1 10=true:=(bJ ho).1
   refine⟨⟨n+1,hsm⟩,by simpa[inB,Typ.kind] using hkk,t1,hv,hvl,hvf,fun hk=>⟨?_,?_,?_,?_⟩⟩
   ·intro h2
    simp only[Typ.kind] at h2 hk
    have hs:=CD ho (by omega)
    obtain⟨vk,vn,vs,vt,vl,vf⟩:=v
    simp only[Val.kind] at hk
    subst hk
    simp only[bl,Bool.and_eq_true,Bool.or_eq_true,decide_eq_true_eq] at hu
    simp only[Val.scale,Typ.scale]
    omega
   ·intro h8 y hy
    simp only[Typ.kind] at h8 hk
    subst h8
    obtain⟨x,rfl⟩:=jT ho
    exact⟨x,[],rfl,lr n m x y (ht8 rfl x (List.mem_cons_self ..)) (t5 x (List.mem_cons_self ..)) (hk8 hk y hy) (hl y hy)⟩
   ·intro h10 g hg
    simp only[Typ.kind] at h10 hk
    subst h10
    obtain⟨_,hgm⟩:=mH hg
    simp only[Typ.fields] at hgm
    obtain⟨y,r,hy⟩:=GW hk hr
    have hym:y∈v.lst:=by rw[hy];exact List.mem_cons_self ..
    exact⟨y,r,hy,lr n m g.typ y (ht9 (.inr rfl) g hgm) (t6 g hgm).2.2 (hk10 hk y hym) (hl y hym)⟩
   ·intro h9 x hx g hg
    simp only[Typ.kind] at h9 hk
    subst h9
    obtain⟨_,hgm⟩:=mH hg
    simp only[Typ.fields] at hgm
    exact lr n m g.typ x.value (ht9 (.inl rfl) g hgm) (t6 g hgm).2.2 (hk9 hk x hx) (hf x hx)
def eD (rec:Int->Typ->Int×Int):Int->List Typ->Int×Int
 | l,[]=>(0,l)
 | l,t::r=>if (rec l t).1=0 then eD rec (rec l t).2 r else rec l t
def mw (n:Nat):TFd->Bool
 | .mk _ _ nd t d=>decide (nd=3)&&!(oj (accB n t) d)
def dA (n:Nat)(rec:Int->Typ->Int×Int):Int->List TFd->Int×Int
 | l,[]=>(0,l)
 | l,g::r=>if (rec l g.typ).1=0 then (if mw n g=true then (18,(rec l g.typ).2) else dA n rec (rec l g.typ).2 r) else rec l g.typ
def dB:Nat->Int->Typ->Int×Int
 | 0,l,_=>(0,l)
 | n+1,l,.mk k m M s w e f=>if fj (.mk k m M s w e f)=0 then (if k=9 then dA n (dB n) (l - 1) f else eD (dB n) (l - 1) (bi (.mk k m M s w e f))) else (fj (.mk k m M s w e f),l - 1)
theorem yp {rec:Int->Typ->Int×Int}{ps:List Typ}{i:Nat}{t:Typ}(h:ps[i]? = some t)(l:Int):eD rec l (ps.drop i)=if (rec l t).1=0 then eD rec (rec l t).2 (ps.drop (i+1)) else rec l t:=by
 have hi:=(List.getElem?_eq_some_iff.1 h).1
 have he:ps[i]=t:=(List.getElem?_eq_some_iff.1 h).2
 rw[List.drop_eq_getElem_cons hi,he,eD]
theorem nh {n:Nat}{rec:Int->Typ->Int×Int}{ps:List TFd}{i:Nat}{g:TFd}(h:ps[i]? = some g)(l:Int):dA n rec l (ps.drop i)=if (rec l g.typ).1=0 then (if mw n g=true then (18,(rec l g.typ).2) else dA n rec (rec l g.typ).2 (ps.drop (i+1))) else rec l g.typ:=by
 have hi:=(List.getElem?_eq_some_iff.1 h).1
 have he:ps[i]=g:=(List.getElem?_eq_some_iff.1 h).2
 rw[List.drop_eq_getElem_cons hi,he,dA]
theorem lk {rec:Int->Typ->Int×Int}:∀ (ps:List Typ) (l:Int),(eD rec l ps).1=0->∀ t∈ps,∃ l,(rec l t).1=0
 | [],_,_,_,h=>by cases h
 | x::r,l,h,t,ht=>by
   rw[eD] at h
   by_cases h0:(rec l x).1=0
   ·rw[if_pos h0] at h
    rcases List.mem_cons.1 ht with rfl | ht
    ·exact⟨l,h0⟩
    ·exact lk r _ h t ht
   ·rw[if_neg h0] at h;exact absurd h h0
theorem qJ {n:Nat}{rec:Int->Typ->Int×Int}:∀ (ps:List TFd) (l:Int),(dA n rec l ps).1=0->∀ g∈ps,∃ l,(rec l g.typ).1=0
 | [],_,_,_,h=>by cases h
 | x::r,l,h,t,ht=>by
   rw[dA] at h
   by_cases h0:(rec l x.typ).1=0
   ·rw[if_pos h0] at h
    by_cases hd:mw n x=true
    ·rw[if_pos hd] at h;exact absurd h (show ¬ (18:Int)=0 by decide)
    ·rw[if_neg hd] at h
     rcases List.mem_cons.1 ht with rfl | ht
     ·exact⟨l,h0⟩
     ·exact qJ r _ h t ht
   ·rw[if_neg h0] at h;exact absurd h h0
def aL:Nat->Typ->Prop
 | 0,_=>False
 | n+1,.mk _ _ _ _ _ e f=>e.length<=6/\f.length<=6/\(∀ x∈e,aL n x)/\∀ g∈f,aL n g.typ
theorem fA:∀ (n:Nat) (l:Int) (t:Typ),aL n t->(dB n l t).1=0->tyV n t
 | 0,_,_,hn,_=>hn.elim
 | n+1,l,.mk k m M s w e f,hn,h=>by
   simp only[aL] at hn
   rw[dB] at h
   by_cases ho:fj (.mk k m M s w e f)=0
   ·rw[if_pos ho] at h
    refine⟨ho,fun h8 x hx=>?_,fun h9 g hg=>?_⟩
    ·subst h8
     rw[if_neg (by decide)] at h
     obtain⟨l',hl'⟩:=lk _ _ h x hx
     exact fA n l' x (hn.2.2.1 x hx) hl'
    ·by_cases hk:k=9
     ·subst hk
      rw[if_pos rfl] at h
      obtain⟨l',hl'⟩:=qJ _ _ h g hg
      exact fA n l' g.typ (hn.2.2.2 g hg) hl'
     ·have hk10:k=10:=by omega
      subst hk10
      rw[if_neg (by decide)] at h
      obtain⟨l',hl'⟩:=lk _ _ h g.typ (List.mem_map_of_mem hg)
      exact fA n l' g.typ (hn.2.2.2 g hg) hl'
   ·rw[if_neg ho] at h;exact absurd h ho
def j2:Nat->Int
 | 0=>0
 | n+1=>1+6*j2 n
theorem fZ:∀ n,0<=j2 n
 | 0=>by simp[j2]
 | n+1=>by have:=fZ n;simp only[j2];omega
def me {α:Type}(c:Int)(l:List α):Int:=(l.length:Int)*c
theorem kC {α:Type}{c:Int}(hc:0<=c){ps:List α}{i:Nat}{t:α}(h:ps[i]? = some t):me c (ps.drop i)=me c (ps.drop (i+1))+c/\0<=me c (ps.drop (i+1)):=by
 have hi:=(List.getElem?_eq_some_iff.1 h).1
 rw[List.drop_eq_getElem_cons hi]
 refine⟨?_,Int.mul_nonneg (by omega) hc⟩
 simp only[me,List.length_cons]
 rw[show ((((ps.drop (i+1)).length+1:Nat)):Int)=((ps.drop (i+1)).length:Int)+1 by push_cast;rfl,Int.add_mul,Int.one_mul]
theorem pn {α:Type}{c:Int}(hc:0<=c)(x:α)(r:List α):me c (x::r)=me c r+c/\0<=me c r:=by
 refine⟨?_,Int.mul_nonneg (by omega) hc⟩
 simp only[me,List.length_cons]
 rw[show (((r.length+1:Nat)):Int)=(r.length:Int)+1 by push_cast;rfl,Int.add_mul,Int.one_mul]
def FI (c:Int)(rec:Int->Typ->Int×Int)(t:Typ):Prop:=∀ l,c<=l->l - c<=(rec l t).2/\(rec l t).2<=l
theorem m4 {c:Int}(hc:0<=c){rec:Int->Typ->Int×Int}:∀ (ps:List Typ) (l:Int),(∀ t∈ps,FI c rec t)->me c ps<=l->l - me c ps<=(eD rec l ps).2/\(eD rec l ps).2<=l
 | [],l,_,_=>by simp[eD,me]
 | x::r,l,h,hl=>by
   have h1:=pn hc x r
   have h2:=h x (List.mem_cons_self ..) l (by omega)
   rw[eD]
   split
   ·have h3:=m4 hc r (rec l x).2 (fun t ht=>h t (List.mem_cons_of_mem _ ht)) (by omega)
    omega
   ·omega
theorem ni {n:Nat}{c:Int}(hc:0<=c){rec:Int->Typ->Int×Int}:∀ (ps:List TFd) (l:Int),(∀ t∈ps,FI c rec t.typ)->me c ps<=l->l - me c ps<=(dA n rec l ps).2/\(dA n rec l ps).2<=l
 | [],l,_,_=>by simp[dA,me]
 | x::r,l,h,hl=>by
   have h1:=pn hc x r
   have h2:=h x (List.mem_cons_self ..) l (by omega)
   rw[dA]
   split
   ·split
    ·simp only;omega
    ·have h3:=ni (n:=n) hc r (rec l x.typ).2 (fun t ht=>h t (List.mem_cons_of_mem _ ht)) (by omega)
     omega
   ·omega
theorem kD {α:Type}{c:Int}(hc:0<=c){l:List α}(h:l.length<=6):me c l<=6*c:=Int.mul_le_mul_of_nonneg_right (by omega) hc
theorem gZ {n:Nat}{k m M s:Int}{w:List (List UInt8)}{e:List Typ}{f:List TFd}(h:aL (n+1) (.mk k m M s w e f)):(bi (.mk k m M s w e f)).length<=6/\∀ x∈bi (.mk k m M s w e f),aL n x:=by
 simp only[aL] at h
 by_cases h8:k=8
 ·rw[show bi (.mk k m M s w e f)=e from if_pos h8]
  exact⟨h.1,h.2.2.1⟩
 ·by_cases h9:k=9\/k=10
  ·rw[show bi (.mk k m M s w e f)=f.map TFd.typ by simp only[bi];rw[if_neg h8,if_pos h9]]
   refine⟨by rw[List.length_map];exact h.2.1,fun x hx=>?_⟩
   obtain⟨g,hg,rfl⟩:=List.mem_map.1 hx
   exact h.2.2.2 g hg
  ·rw[show bi (.mk k m M s w e f)=[] by simp only[bi];rw[if_neg h8,if_neg h9]]
   exact⟨by simp,fun x hx=>by cases hx⟩
theorem fB:∀ (n:Nat) (t:Typ),aL n t->FI (j2 n) (dB n) t
 | 0,_,h=>h.elim
 | n+1,.mk k m M s w e f,h=>fun l hl=>by
   have hc:=fZ n
   obtain⟨hp1,hp2⟩:=gZ h
   simp only[aL] at h
   rw[j2] at hl ⊢
   rw[dB]
   split
   ·split
    ·have h1:=kD hc h.2.1
     have:=ni (n:=n) hc f (l - 1) (fun g hg=>fB n g.typ (h.2.2.2 g hg)) (by omega)
     omega
    ·have h1:=kD hc hp1
     have:=m4 hc _ (l - 1) (fun x hx=>fB n x (hp2 x hx)) (by omega)
     omega
   ·simp only;omega
theorem bH {k:Int}:∀ (f b:List TFd),bg k b f=0->∀ g∈f,∃ b,cL k b g=0
 | [],_,_,_,h=>by cases h
 | x::r,b,h,g,hg=>by
   rw[bg] at h
   by_cases h0:cL k b x=0
   ·rw[if_pos h0] at h
    rcases List.mem_cons.1 hg with rfl | hg
    ·exact⟨b,h0⟩
    ·exact bH r _ h g hg
   ·rw[if_neg h0] at h;exact absurd h h0
theorem fX {k:Int}{b:List TFd}{n:Int}{nm:List UInt8}{t:Typ}{d:List Val}(h:cL k b (.mk n nm 3 t d)=0):∃ x r,d=x::r:=by
 cases d with
 | cons x r=>exact⟨x,r,rfl⟩
 | nil=>
   simp only[cL,List.length_nil,true_and,if_true] at h
   repeat' split at h
   all_goals first | exact absurd h (by decide) | skip
def OE (n:Nat):Prop:=∀ (t:Typ) (d l:Int),br n t->aL n t->0<=d->d+n<=9->j2 n<=l->l<=4096 ->
 bF Tryz.prog aq 1 94 [.pv t.pv,.pv (.int .i64 d),.ptr 0 0] [.cells 3 true [.pv (.int .i64 l)]] (.pv (.int .i64 (dB n l t).1)) [.cells 3 true [.pv (.int .i64 (dB n l t).2)]]
theorem nE {n:Nat}{k m M s:Int}{w:List (List UInt8)}{e:List Typ}{f:List TFd}(h:br (n+1) (.mk k m M s w e f)):ak Tryz.prog aq 143 [(Typ.mk k m M s w e f).pv] (.int .i64 (fj (.mk k m M s w e f)))/\ak Tryz.prog aq 144 [(Typ.mk k m M s w e f).pv] (.list ((bi (.mk k m M s w e f)).map Typ.pv))/\∀ x∈bi (.mk k m M s w e f),br n x:=by
 simp only[br] at h
 obtain⟨h1,h2,h3,h4,h5,h6⟩:=h
 refine⟨P5 m M s w e f k (fun x hx=>by have:=h2 x hx;omega) (by omega) (by omega) (by omega),HO k m M s w e f (by omega),?_⟩
 by_cases h8:k=8
 ·rw[show bi (.mk k m M s w e f)=e from if_pos h8]
  exact h5
 ·by_cases h9:k=9\/k=10
  ·rw[show bi (.mk k m M s w e f)=f.map TFd.typ by simp only[bi];rw[if_neg h8,if_pos h9]]
   intro x hx
   obtain⟨g,hg,rfl⟩:=List.mem_map.1 hx
   exact (h6 g hg).2.2
  ·rw[show bi (.mk k m M s w e f)=[] by simp only[bi];rw[if_neg h8,if_neg h9]]
   intro x hx;cases hx
theorem ES (n:Nat)(ih:OE n)(k m M s:Int)(w:List (List UInt8))(e:List Typ)(f:List TFd)(d l:Int)(ht:br (n+1) (.mk k m M s w e f))(hn:aL (n+1) (.mk k m M s w e f))(hd:0<=d)(hdn:d+(n+1:Nat)<=9)(hl:j2 (n+1)<=l)(hl2:l<=4096)(hk:¬ k=9) :
  bF Tryz.prog aq 1 94 [.pv (Typ.mk k m M s w e f).pv,.pv (.int .i64 d),.ptr 0 0] [.cells 3 true [.pv (.int .i64 l)]] (.pv (.int .i64 (dB (n+1) l (.mk k m M s w e f)).1)) [.cells 3 true [.pv (.int .i64 (dB (n+1) l (.mk k m M s w e f)).2)]]:=by
 obtain⟨h143,h144,hpt⟩:=nE ht
 obtain⟨hp6,hpn⟩:=gZ hn
 have hc0:=fZ n
 have hrem:=kD hc0 hp6
 rw[j2] at hl
 have hl0:¬ l=0:=by omega
 have hd8:¬ 8<d:=by omega
 rw[dB,if_neg hk]
 generalize bi (.mk k m M s w e f)=ps at *
 generalize fj (.mk k m M s w e f)=z at *
 simp only[Typ.pv_mk] at h143 h144 ⊢
 by_cases hz:z=0
 ·subst hz
  rw[if_pos rfl]
  obtain⟨R,hR⟩:∃ R,R=eD (dB n) (l - 1) ps:=⟨_,rfl⟩
  rw[<- hR]
  refine bF.intro jL.2 (by simp[jL]) ?_
  simp(disch:=try exact dI) only[jL,hl0,hd8,push_cast,seval]
  refine ab.pure h143 rfl ?_
  refine zgZ ?_
  refine ab.pure h144 rfl ?_
  refine zgZ ?_
  refine ap ([]) (fun x:Nat×Int=>[(32,.pv (.int .i64 (x.1:Int)))]) (fun x=>[(0,.cells 3 true [.pv (.int .i64 x.2)])]) (fun x=>x.1<=ps.length/\R=eD (dB n) x.2 (ps.drop x.1)/\me (j2 n) (ps.drop x.1)<=x.2/\x.2<=4096) (fun x=>ps.length - x.1) ((0,l - 1)) ?_;intro e0 σ0 n0 h0;simp(disch:=try exact dI) only[push_cast,seval] at h0;obtain⟨rfl,rfl,rfl⟩:=h0;refine⟨?_,?_,?_⟩
  ·exact qsZ
  ·exact⟨by simp,by simpa using hR,by simpa using (show me (j2 n) ps<=l - 1 by omega),by simp only;omega⟩
  rintro⟨i,L⟩ ⟨hi,hr,hL,hL2⟩
  simp only at hi hr hL hL2
  by_cases hlt:i<ps.length
  ·have hltI:(i:Int)<(ps.length:Int):=by omega
   obtain⟨x,hx⟩:∃ x,ps[i]? = some x:=⟨_,List.getElem?_eq_getElem hlt⟩
   have hxm:=List.mem_of_getElem? hx
   obtain⟨hr1,hr2⟩:=kC hc0 hx
   have hcall:=ih x (d+1) L (hpt x hxm) (hpn x hxm) (by omega) (by omega) (by omega) hL2
   have hleft:=fB n x (hpn x hxm) L (by omega)
   rw[yp hx] at hr
   obtain⟨⟨e1,e2⟩,he⟩:∃ q,q=dB n L x:=⟨_,rfl⟩
   rw[<- he] at hcall hleft hr
   simp only at hcall hleft hr
   obtain⟨k',m',M',s',w',e',f'⟩:=x
   simp only[Typ.pv_mk] at hcall
   simp(disch:=try exact dI) only[hx,Option.map_some,Typ.pv_mk,ag,push_cast,seval]
   refine ab.lentK hcall [0] rfl qsZ qsZ ?_
   by_cases he0:e1=0
   ·subst he0
    rw[if_pos rfl] at hr
    simp(disch:=try exact dI) only[hk,push_cast,seval]
    exact⟨(i+1,e2),aK qsZ,⟨by simp only;omega,hr,by simp only;omega,by simp only;omega⟩,by simp only;omega⟩
   ·rw[if_neg he0] at hr
    subst hr
    simp(disch:=try exact dI) only[he0,push_cast,seval]
    exact aE [] qsZ
  ·obtain rfl:i=ps.length:=by omega
   rw[List.drop_length,eD] at hr
   subst hr
   simp(disch:=try exact dI) only[Int.lt_irrefl,push_cast,seval]
   exact aE [] qsZ
 ·rw[if_neg hz]
  refine bF.intro jL.2 (by simp[jL]) ?_
  simp(disch:=try exact dI) only[jL,hl0,hd8,push_cast,seval]
  refine ab.pure h143 rfl ?_
  simp(disch:=try exact dI) only[hz,push_cast,seval]
  exact aE [] qsZ
theorem ET (n:Nat)(ih:OE n)(m M s:Int)(w:List (List UInt8))(e:List Typ)(f:List TFd)(d l:Int)(ht:br (n+1) (.mk 9 m M s w e f))(hn:aL (n+1) (.mk 9 m M s w e f))(hd:0<=d)(hdn:d+(n+1:Nat)<=9)(hl:j2 (n+1)<=l)(hl2:l<=4096) :
  bF Tryz.prog aq 1 94 [.pv (Typ.mk 9 m M s w e f).pv,.pv (.int .i64 d),.ptr 0 0] [.cells 3 true [.pv (.int .i64 l)]] (.pv (.int .i64 (dB (n+1) l (.mk 9 m M s w e f)).1)) [.cells 3 true [.pv (.int .i64 (dB (n+1) l (.mk 9 m M s w e f)).2)]]:=by
 obtain⟨h143,h144,hpt⟩:=nE ht
 have hown:=bJ (k:=9) (m:=m) (M:=M) (s:=s) (w:=w) (e:=e) (f:=f)
 rw[show bi (.mk 9 m M s w e f)=f.map TFd.typ from rfl] at h144 hpt
 simp only[br] at ht
 simp only[aL] at hn
 have hc0:=fZ n
 have hrem:=kD hc0 hn.2.1
 rw[j2] at hl
 have hl0:¬ l=0:=by omega
 have hd8:¬ 8<d:=by omega
 rw[dB,if_pos rfl]
 generalize fj (.mk 9 m M s w e f)=z at *
 simp only[Typ.pv_mk] at h143 h144 ⊢
 by_cases hz:z=0
 ·have hfl:=(hown hz).2.2.2
  clear hown
  subst hz
  rw[if_pos rfl]
  obtain⟨R,hR⟩:∃ R,R=dA n (dB n) (l - 1) f:=⟨_,rfl⟩
  rw[<- hR]
  refine bF.intro jL.2 (by simp[jL]) ?_
  simp(disch:=try exact dI) only[jL,hl0,hd8,push_cast,seval]
  refine ab.pure h143 rfl ?_
  refine zgZ ?_
  refine ab.pure h144 rfl ?_
  refine zgZ ?_
  refine ap ([]) (fun x:Nat×Int=>[(32,.pv (.int .i64 (x.1:Int)))]) (fun x=>[(0,.cells 3 true [.pv (.int .i64 x.2)])]) (fun x=>x.1<=f.length/\R=dA n (dB n) x.2 (f.drop x.1)/\me (j2 n) (f.drop x.1)<=x.2/\x.2<=4096) (fun x=>f.length - x.1) ((0,l - 1)) ?_;intro e0 σ0 n0 h0;simp(disch:=try exact dI) only[push_cast,seval] at h0;obtain⟨rfl,rfl,rfl⟩:=h0;refine⟨?_,?_,?_⟩
  ·exact qsZ
  ·exact⟨by simp,by simpa using hR,by simpa using (show me (j2 n) f<=l - 1 by omega),by simp only;omega⟩
  rintro⟨i,L⟩ ⟨hi,hr,hL,hL2⟩
  simp only at hi hr hL hL2
  by_cases hlt:i<f.length
  ·have hltI:(i:Int)<(f.length:Int):=by omega
   obtain⟨g,hg⟩:∃ g,f[i]? = some g:=⟨_,List.getElem?_eq_getElem hlt⟩
   have hgm:=List.mem_of_getElem? hg
   obtain⟨hr1,hr2⟩:=kC hc0 hg
   have hgt:=hpt g.typ (List.mem_map_of_mem hgm)
   have hgn:=hn.2.2.2 g hgm
   have hcall:=ih g.typ (d+1) L hgt hgn (by omega) (by omega) (by omega) hL2
   have hleft:=fB n g.typ hgn L (by omega)
   have hty:=fA n L g.typ hgn
   have hfe:=bH f [] hfl g hgm
   have hgd:=(ht.2.2.2.2.2 g hgm).2.1
   rw[nh hg] at hr
   obtain⟨⟨e1,e2⟩,he⟩:∃ q,q=dB n L g.typ:=⟨_,rfl⟩
   rw[<- he] at hcall hleft hr hty
   clear he
   obtain⟨n',nm',nd',t',d'⟩:=g
   simp only[TFd.typ,TFd.dflt] at hcall hleft hr hty hgt hgn hgd
   by_cases he0:e1=0
   ·subst he0
    rw[if_pos rfl] at hr
    by_cases h3:nd'=3
    ·subst h3
     obtain⟨b,hb⟩:=hfe
     obtain⟨x,r,rfl⟩:=fX hb
     obtain⟨hx1,hx2,hx3⟩:=hgd x (List.mem_cons_self ..)
     have hacc:=Ag n t' x hx2 hx1.1 (fun hc=>lr n 9 t' x (hty rfl) hgt (t8 hx2 hc) hx1)
     simp only[mw,oj,decide_true,Bool.true_and] at hr
     generalize accB n t' x=q at hacc hr
     obtain⟨k',m',M',s',w',e',f'⟩:=t'
     obtain⟨vk,vn,vs,vt,vl,vf⟩:=x
     simp only[Typ.pv_mk,Val.pv_mk] at hcall hacc
     simp(disch:=try exact dI) only[hg,Option.map_some,TFd.typ,Typ.pv_mk,ag,push_cast,seval]
     refine ab.lentK hcall [0] rfl qsZ qsZ ?_
     simp(disch:=try exact dI) only[hg,Option.map_some,TFd.pv_mk,Typ.pv_mk,Val.pv_mk,ag,az,push_cast,seval]
     refine ab.pure hacc rfl ?_
     cases q with
     | true=>
       rw[if_neg (by decide)] at hr
       refine zgZ ?_
       exact⟨(i+1,e2),aK qsZ,⟨by simp only;omega,hr,by simp only;omega,by simp only;omega⟩,by simp only;omega⟩
     | false=>
       rw[if_pos (by decide)] at hr
       subst hr
       refine zgZ ?_
       exact aE [] qsZ
    ·rw[if_neg (by simp[mw,h3])] at hr
     obtain⟨k',m',M',s',w',e',f'⟩:=t'
     simp only[Typ.pv_mk] at hcall
     simp(disch:=try exact dI) only[hg,Option.map_some,TFd.typ,Typ.pv_mk,ag,push_cast,seval]
     refine ab.lentK hcall [0] rfl qsZ qsZ ?_
     simp(disch:=try exact dI) only[hg,Option.map_some,TFd.pv_mk,Typ.pv_mk,ag,h3,push_cast,seval]
     exact⟨(i+1,e2),aK qsZ,⟨by simp only;omega,hr,by simp only;omega,by simp only;omega⟩,by simp only;omega⟩
   ·rw[if_neg he0] at hr
    subst hr
    obtain⟨k',m',M',s',w',e',f'⟩:=t'
    simp only[Typ.pv_mk] at hcall
    simp(disch:=try exact dI) only[hg,Option.map_some,TFd.typ,Typ.pv_mk,ag,push_cast,seval]
    refine ab.lentK hcall [0] rfl qsZ qsZ ?_
    simp(disch:=try exact dI) only[he0,push_cast,seval]
    exact aE [] qsZ
  ·obtain rfl:i=f.length:=by omega
   rw[List.drop_length,dA] at hr
   subst hr
   simp(disch:=try exact dI) only[Int.lt_irrefl,push_cast,seval]
   exact aE [] qsZ
 ·rw[if_neg hz]
  refine bF.intro jL.2 (by simp[jL]) ?_
  simp(disch:=try exact dI) only[jL,hl0,hd8,push_cast,seval]
  refine ab.pure h143 rfl ?_
  simp(disch:=try exact dI) only[hz,push_cast,seval]
  exact aE [] qsZ
theorem EU:∀ n,OE n
 | 0=>fun _ _ _ h=>h.elim
 | n+1=>fun t d l ht hn hd hdn hl hl2=>by
   have ih:=EU n
   obtain⟨k,m,M,s,w,e,f⟩:=t
   by_cases hk:k=9
   ·subst hk;exact ET n ih m M s w e f d l ht hn hd hdn hl hl2
   ·exact ES n ih k m M s w e f d l ht hn hd hdn hl hl2 hk
end Go.Proofs.YtbaaokocnegdoaaGreatDoor
