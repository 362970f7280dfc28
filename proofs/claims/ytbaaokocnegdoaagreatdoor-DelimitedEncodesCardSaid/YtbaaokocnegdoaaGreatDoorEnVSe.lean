/- A part. -/
import Derived.Test.YtbaaokocnegdoaaGreatDoorEnVS9
set_option linter.unusedVariables false
set_option linter.unusedSimpArgs false
set_option maxHeartbeats 16000000
set_option maxRecDepth 100000
open List renaming mem_cons->VY,length_nil->VV,mem_cons_self->VN,getElem?_eq_some_iff->Vh,drop_eq_getElem_cons->V7,length_cons->Vq,mem_cons_of_mem->Wn,mem_map->Vy,getElem?_eq_getElem->Vg,mem_of_getElem?->Vk,drop_length->We
open Option renaming map_some->Vl
namespace Go.Proofs.YtbaaokocnegdoaaGreatDoor
open Go Go.Ab
attribute [local irreducible] vc
def La:Nat->Val->Prop
 | 0,_=>False
 | n+1,v=>(be v=0/\bn v=true)/\∀ x∈aX v,La n x
theorem wF:∀ (xs:List (Int×Val)) (i:Nat),jg i xs=0->∀ q∈xs,∃ j,bc j q=0
 | [],_,_,_,h=>by cases h
 | x::r,i,h,q,hq=>by
   rw[jg] at h
   by_cases h0:bc i x=0
   ·rw[if_pos h0] at h
    rcases VY.1 hq with rfl | hq
    ·exact⟨i,h0⟩
    ·exact wF r (i+1) h q hq
   ·rw[if_neg h0] at h;exact absurd h h0
theorem xN {j:Nat}{q:Int×Val}(h:bc j q=0):be q.2=0/\bn q.2=true:=by
 unfold bc at h
 split at h
 ·cases h
 split at h
 ·cases h
 split at h
 ·cases h
 split at h
 ·cases h
 split at h
 ·cases h
 ·rename_i hu
  exact⟨h,by simpa using hu⟩
theorem Bj:∀ (n:Nat) (lv:Int) (v:Val),cL n v->(∀ q∈ck n lv v,be q.2=0/\bn q.2=true)->La n v
 | 0,_,_,hd,_=>hd.elim
 | n+1,lv,v,hd,h=>by
   simp only[ck,VY,List.mem_flatMap] at h
   refine⟨h (lv,v) (.inl rfl),fun x hx=>Bj n (lv+1) x (hd x hx) fun q hq=>h q (.inr ⟨x,hx,hq⟩)⟩
theorem uI {n:Nat}{v:Val}(hd:cL n v)(h:jg 0 (ck n 1 v)=0):La n v:=
 Bj n 1 v hd fun q hq=>by obtain⟨j,hj⟩:=wF _ _ h q hq;exact xN hj
def accB (n:Nat)(t:Typ)(v:Val):Bool:=decide (jg 0 (ck 9 1 v)=0)&&bp n t v
theorem AH (n:Nat)(t:Typ)(v:Val)(hd:cL 9 v)(hv:v.ok)(hP:jg 0 (ck 9 1 v)=0->rr n t v):ae Tryz.prog aq 145 [t.pv,v.pv] (.bool (accB n t v)):=by
 have hc:=wH 9 v hd hv (by omega)
 simp only[accB]
 generalize jg 0 (ck 9 1 v)=z at hc hP ⊢
 by_cases hz:z=0
 ·have hh:=Ko n t v (hP hz)
  subst hz
  generalize bp n t v=b at hh ⊢
  obtain⟨k,m,M,s,w,e,f⟩:=t
  obtain⟨vk,vn,vs,vt,vl,vf⟩:=v
  simp only[Vd,Vf] at hc hh
  refine ae.intro OS.2 (by simp[OS]) ?_
  simp(disch:=try exact dI) only[OS,Vd,Vf,push_cast,seval]
  refine ab.pure hc rfl ?_
  refine zgZ ?_
  refine ab.pure hh rfl ?_
  exact qsZ
 ·rw[decide_eq_false hz,Bool.false_and]
  obtain⟨k,m,M,s,w,e,f⟩:=t
  obtain⟨vk,vn,vs,vt,vl,vf⟩:=v
  simp only[Vd,Vf] at hc
  refine ae.intro OS.2 (by simp[OS]) ?_
  simp(disch:=try exact dI) only[OS,Vd,Vf,push_cast,seval]
  refine ab.pure hc rfl ?_
  simp(disch:=try exact dI) only[hz,push_cast,seval]
def kZ:Nat->Val->Prop
 | 0,_=>False
 | n+1,v=>v.ok/\v.lst.length<=1000000000/\v.fields.length<=1000000/\(∀ x∈v.lst,kZ n x)/\∀ x∈v.fields,kZ n x.value
def bt:Nat->Typ->Prop
 | 0,_=>False
 | n+1,.mk _ _ _ _ w e f=>w.length<=1000000/\(∀ x∈w,x.length<=1000000)/\e.length<=1000000/\f.length<=1000000/\(∀ x∈e,bt n x)/\∀ g∈f,g.dflt.length<=1000000/\(∀ v∈g.dflt,kZ 9 v/\cL 9 v/\(ck 9 1 v).length<=1000000000000)/\bt n g.typ
def tyV:Nat->Typ->Prop
 | 0,_=>False
 | n+1,.mk k m M s w e f=>fv (.mk k m M s w e f)=0/\(k=8->∀ x∈e,tyV n x)/\(k=9\/k=10->∀ g∈f,tyV n g.typ)
theorem jk:∀ (n:Nat) (t:Typ),bt n t->cP n t
 | 0,_,h=>h.elim
 | n+1,.mk k m M s w e f,h=>by
   simp only[bt] at h
   simp only[cP]
   obtain⟨h1,h2,h3,h4,h5,h6⟩:=h
   exact⟨by omega,by omega,by omega,fun x hx=>jk n x (h5 x hx),fun g hg=>⟨by have:=(h6 g hg).1;omega,fun v hv=>((h6 g hg).2.1 v hv).1.1,jk n g.typ (h6 g hg).2.2⟩⟩
theorem bE {k m M s:Int}{w:List (List UInt8)}{e:List Typ}{f:List TFd}(h:fv (.mk k m M s w e f)=0):inB k 1 10=true/\cU k m M s w=0/\bv k e.length f.length=0/\bf k [] f=0:=by
 rw[fv] at h
 by_cases a:inB k 1 10=false
 ·rw[if_pos a] at h;exact absurd h (by decide)
 rw[if_neg a] at h
 by_cases b:fy k (.mk k m M s w e f)=true
 ·rw[if_pos b] at h;exact absurd h (by decide)
 rw[if_neg b] at h
 by_cases c:cU k m M s w=0
 ·rw[if_neg (fun hh=>hh c)] at h
  by_cases d:bv k e.length f.length=0
  ·rw[if_neg (fun hh=>hh d)] at h
   exact⟨by simpa using a,c,d,h⟩
  ·rw[if_pos d] at h;exact absurd h d
 ·rw[if_pos c] at h;exact absurd h c
theorem C0 {k m M s:Int}{w:List (List UInt8)}{e:List Typ}{f:List TFd}(h:fv (.mk k m M s w e f)=0)(hk:¬ k=3):s=0:=by
 rw[fv] at h
 by_cases a:inB k 1 10=false
 ·rw[if_pos a] at h;exact absurd h (by decide)
 rw[if_neg a] at h
 by_cases b:fy k (.mk k m M s w e f)=true
 ·rw[if_pos b] at h;exact absurd h (by decide)
 have b':fy k (.mk k m M s w e f)=false:=by simpa using b
 simp only[fy,jD,Bool.or_eq_false_iff] at b'
 obtain⟨_,b2,_⟩:=b'
 rw[decide_eq_false hk] at b2
 simpa using b2
theorem kA {m M s:Int}{w:List (List UInt8)}{e:List Typ}{f:List TFd}(h:fv (.mk 8 m M s w e f)=0):∃ x,e=[x]:=by
 have h1:=(bE h).2.2.1
 match e,h1 with
 | [],h1=>simp[bv] at h1
 | [x],_=>exact⟨x,rfl⟩
 | x::y::r,h1=>simp[bv] at h1
theorem nB {t:Typ}{nm:List UInt8}{g:TFd}(h:bu t nm=some g):(t.kind=9\/t.kind=10)/\g∈t.fields:=by
 unfold bu at h
 split at h
 ·rename_i hk;exact⟨hk,List.mem_of_find?_eq_some h⟩
 ·cases h
theorem GV {v:Val}(hk:v.kind=10)(h:be v=0):∃ y r,v.lst=y::r:=by
 obtain⟨vk,vn,vs,vt,vl,vf⟩:=v
 simp only[Val.kind] at hk
 subst hk
 cases vl with
 | cons y r=>exact⟨y,r,rfl⟩
 | nil=>
   simp only[be,show ¬ (10:Int)=1 by decide,show ¬ (10:Int)=2 by decide,show ¬ (10:Int)=3 by decide,show ¬ (10:Int)=4 by decide,show ¬ (10:Int)=5 by decide,show ¬ (10:Int)=6 by decide,show ¬ (10:Int)=7 by decide,show ¬ (10:Int)=8 by decide,show ¬ (10:Int)=9 by decide,if_false,if_true,VV] at h
   split at h<;>exact absurd h (by decide)
theorem mp:∀ (n m:Nat) (t:Typ) (v:Val),tyV n t->bt n t->La m v->kZ m v->rr n t v
 | 0,_,_,_,h,_,_,_=>h.elim
 | _+1,0,_,_,_,_,h,_=>h.elim
 | n+1,m+1,t,v,h1,h2,h3,h4=>by
   obtain⟨hv,hvl,hvf,hl,hf⟩:=h4
   obtain⟨⟨hr,hu⟩,hp⟩:=h3
   have hsm:=jk _ _ h2
   have hk8:v.kind=8->∀ y∈v.lst,La m y:=fun hk y hy=>hp y (by rw[cg (.inl hk)];exact hy)
   have hk10:v.kind=10->∀ y∈v.lst,La m y:=fun hk y hy=>hp y (by rw[cg (.inr hk)];exact hy)
   have hk9:v.kind=9->∀ x∈v.fields,La m x.value:=fun hk x hx=>hp x.value (by rw[dv hk];exact List.mem_map_of_mem hx)
   obtain⟨k,mn,M,s,w,e,f⟩:=t
   simp only[tyV] at h1
   simp only[bt] at h2
   obtain⟨ho,ht8,ht9⟩:=h1
   obtain⟨t1,t2,t3,t4,t5,t6⟩:=h2
   have hkk:inB k 1 10=true:=(bE ho).1
   refine⟨⟨n+1,hsm⟩,by simpa[inB,Typ.kind] using hkk,t1,hv,hvl,hvf,fun hk=>⟨?_,?_,?_,?_⟩⟩
   ·intro h2
    simp only[Typ.kind] at h2 hk
    have hs:=C0 ho (by omega)
    obtain⟨vk,vn,vs,vt,vl,vf⟩:=v
    simp only[Val.kind] at hk
    subst hk
    simp only[bn,Bool.and_eq_true,Bool.or_eq_true,decide_eq_true_eq] at hu
    simp only[Val.scale,Typ.scale]
    omega
   ·intro h8 y hy
    simp only[Typ.kind] at h8 hk
    subst h8
    obtain⟨x,rfl⟩:=kA ho
    exact⟨x,[],rfl,mp n m x y (ht8 rfl x (VN ..)) (t5 x (VN ..)) (hk8 hk y hy) (hl y hy)⟩
   ·intro h10 g hg
    simp only[Typ.kind] at h10 hk
    subst h10
    obtain⟨_,hgm⟩:=nB hg
    simp only[Typ.fields] at hgm
    obtain⟨y,r,hy⟩:=GV hk hr
    have hym:y∈v.lst:=by rw[hy];exact VN ..
    exact⟨y,r,hy,mp n m g.typ y (ht9 (.inr rfl) g hgm) (t6 g hgm).2.2 (hk10 hk y hym) (hl y hym)⟩
   ·intro h9 x hx g hg
    simp only[Typ.kind] at h9 hk
    subst h9
    obtain⟨_,hgm⟩:=nB hg
    simp only[Typ.fields] at hgm
    exact mp n m g.typ x.value (ht9 (.inl rfl) g hgm) (t6 g hgm).2.2 (hk9 hk x hx) (hf x hx)
def eX (rec:Int->Typ->Int×Int):Int->List Typ->Int×Int
 | l,[]=>(0,l)
 | l,t::r=>if (rec l t).1=0 then eX rec (rec l t).2 r else rec l t
def nq (n:Nat):TFd->Bool
 | .mk _ _ nd t d=>decide (nd=3)&&!(pg (accB n t) d)
def dK (n:Nat)(rec:Int->Typ->Int×Int):Int->List TFd->Int×Int
 | l,[]=>(0,l)
 | l,g::r=>if (rec l g.typ).1=0 then (if nq n g=true then (18,(rec l g.typ).2) else dK n rec (rec l g.typ).2 r) else rec l g.typ
def dL:Nat->Int->Typ->Int×Int
 | 0,l,_=>(0,l)
 | n+1,l,.mk k m M s w e f=>if fv (.mk k m M s w e f)=0 then (if k=9 then dK n (dL n) (l - 1) f else eX (dL n) (l - 1) (bi (.mk k m M s w e f))) else (fv (.mk k m M s w e f),l - 1)
theorem y8 {rec:Int->Typ->Int×Int}{ps:List Typ}{i:Nat}{t:Typ}(h:ps[i]? = some t)(l:Int):eX rec l (ps.drop i)=if (rec l t).1=0 then eX rec (rec l t).2 (ps.drop (i+1)) else rec l t:=by
 have hi:=(Vh.1 h).1
 have he:ps[i]=t:=(Vh.1 h).2
 rw[V7 hi,he,eX]
theorem oa {n:Nat}{rec:Int->Typ->Int×Int}{ps:List TFd}{i:Nat}{g:TFd}(h:ps[i]? = some g)(l:Int):dK n rec l (ps.drop i)=if (rec l g.typ).1=0 then (if nq n g=true then (18,(rec l g.typ).2) else dK n rec (rec l g.typ).2 (ps.drop (i+1))) else rec l g.typ:=by
 have hi:=(Vh.1 h).1
 have he:ps[i]=g:=(Vh.1 h).2
 rw[V7 hi,he,dK]
theorem mf {rec:Int->Typ->Int×Int}:∀ (ps:List Typ) (l:Int),(eX rec l ps).1=0->∀ t∈ps,∃ l,(rec l t).1=0
 | [],_,_,_,h=>by cases h
 | x::r,l,h,t,ht=>by
   rw[eX] at h
   by_cases h0:(rec l x).1=0
   ·rw[if_pos h0] at h
    rcases VY.1 ht with rfl | ht
    ·exact⟨l,h0⟩
    ·exact mf r _ h t ht
   ·rw[if_neg h0] at h;exact absurd h h0
theorem ry {n:Nat}{rec:Int->Typ->Int×Int}:∀ (ps:List TFd) (l:Int),(dK n rec l ps).1=0->∀ g∈ps,∃ l,(rec l g.typ).1=0
 | [],_,_,_,h=>by cases h
 | x::r,l,h,t,ht=>by
   rw[dK] at h
   by_cases h0:(rec l x.typ).1=0
   ·rw[if_pos h0] at h
    by_cases hd:nq n x=true
    ·rw[if_pos hd] at h;exact absurd h (show ¬ (18:Int)=0 by decide)
    ·rw[if_neg hd] at h
     rcases VY.1 ht with rfl | ht
     ·exact⟨l,h0⟩
     ·exact ry r _ h t ht
   ·rw[if_neg h0] at h;exact absurd h h0
def aP:Nat->Typ->Prop
 | 0,_=>False
 | n+1,.mk _ _ _ _ _ e f=>e.length<=6/\f.length<=6/\(∀ x∈e,aP n x)/\∀ g∈f,aP n g.typ
theorem fS:∀ (n:Nat) (l:Int) (t:Typ),aP n t->(dL n l t).1=0->tyV n t
 | 0,_,_,hn,_=>hn.elim
 | n+1,l,.mk k m M s w e f,hn,h=>by
   simp only[aP] at hn
   rw[dL] at h
   by_cases ho:fv (.mk k m M s w e f)=0
   ·rw[if_pos ho] at h
    refine⟨ho,fun h8 x hx=>?_,fun h9 g hg=>?_⟩
    ·subst h8
     rw[if_neg (by decide)] at h
     obtain⟨l',hl'⟩:=mf _ _ h x hx
     exact fS n l' x (hn.2.2.1 x hx) hl'
    ·by_cases hk:k=9
     ·subst hk
      rw[if_pos rfl] at h
      obtain⟨l',hl'⟩:=ry _ _ h g hg
      exact fS n l' g.typ (hn.2.2.2 g hg) hl'
     ·have hk10:k=10:=by omega
      subst hk10
      rw[if_neg (by decide)] at h
      obtain⟨l',hl'⟩:=mf _ _ h g.typ (List.mem_map_of_mem hg)
      exact fS n l' g.typ (hn.2.2.2 g hg) hl'
   ·rw[if_neg ho] at h;exact absurd h ho
def kM:Nat->Int
 | 0=>0
 | n+1=>1+6*kM n
theorem gw:∀ n,0<=kM n
 | 0=>by simp[kM]
 | n+1=>by have:=gw n;simp only[kM];omega
def na {α:Type}(c:Int)(l:List α):Int:=(l.length:Int)*c
theorem lC {α:Type}{c:Int}(hc:0<=c){ps:List α}{i:Nat}{t:α}(h:ps[i]? = some t):na c (ps.drop i)=na c (ps.drop (i+1))+c/\0<=na c (ps.drop (i+1)):=by
 have hi:=(Vh.1 h).1
 rw[V7 hi]
 refine⟨?_,Int.mul_nonneg (by omega) hc⟩
 simp only[na,Vq]
 rw[show ((((ps.drop (i+1)).length+1:Nat)):Int)=((ps.drop (i+1)).length:Int)+1 by push_cast;rfl,Int.add_mul,Int.one_mul]
theorem qq {α:Type}{c:Int}(hc:0<=c)(x:α)(r:List α):na c (x::r)=na c r+c/\0<=na c r:=by
 refine⟨?_,Int.mul_nonneg (by omega) hc⟩
 simp only[na,Vq]
 rw[show (((r.length+1:Nat)):Int)=(r.length:Int)+1 by push_cast;rfl,Int.add_mul,Int.one_mul]
def FQ (c:Int)(rec:Int->Typ->Int×Int)(t:Typ):Prop:=∀ l,c<=l->l - c<=(rec l t).2/\(rec l t).2<=l
theorem nX {c:Int}(hc:0<=c){rec:Int->Typ->Int×Int}:∀ (ps:List Typ) (l:Int),(∀ t∈ps,FQ c rec t)->na c ps<=l->l - na c ps<=(eX rec l ps).2/\(eX rec l ps).2<=l
 | [],l,_,_=>by simp[eX,na]
 | x::r,l,h,hl=>by
   have h1:=qq hc x r
   have h2:=h x (VN ..) l (by omega)
   rw[eX]
   split
   ·have h3:=nX hc r (rec l x).2 (fun t ht=>h t (Wn _ ht)) (by omega)
    omega
   ·omega
theorem ob {n:Nat}{c:Int}(hc:0<=c){rec:Int->Typ->Int×Int}:∀ (ps:List TFd) (l:Int),(∀ t∈ps,FQ c rec t.typ)->na c ps<=l->l - na c ps<=(dK n rec l ps).2/\(dK n rec l ps).2<=l
 | [],l,_,_=>by simp[dK,na]
 | x::r,l,h,hl=>by
   have h1:=qq hc x r
   have h2:=h x (VN ..) l (by omega)
   rw[dK]
   split
   ·split
    ·simp only;omega
    ·have h3:=ob (n:=n) hc r (rec l x.typ).2 (fun t ht=>h t (Wn _ ht)) (by omega)
     omega
   ·omega
theorem lD {α:Type}{c:Int}(hc:0<=c){l:List α}(h:l.length<=6):na c l<=6*c:=Int.mul_le_mul_of_nonneg_right (by omega) hc
theorem iD {n:Nat}{k m M s:Int}{w:List (List UInt8)}{e:List Typ}{f:List TFd}(h:aP (n+1) (.mk k m M s w e f)):(bi (.mk k m M s w e f)).length<=6/\∀ x∈bi (.mk k m M s w e f),aP n x:=by
 simp only[aP] at h
 by_cases h8:k=8
 ·rw[show bi (.mk k m M s w e f)=e from if_pos h8]
  exact⟨h.1,h.2.2.1⟩
 ·by_cases h9:k=9\/k=10
  ·rw[show bi (.mk k m M s w e f)=f.map TFd.typ by simp only[bi];rw[if_neg h8,if_pos h9]]
   refine⟨by rw[List.length_map];exact h.2.1,fun x hx=>?_⟩
   obtain⟨g,hg,rfl⟩:=Vy.1 hx
   exact h.2.2.2 g hg
  ·rw[show bi (.mk k m M s w e f)=[] by simp only[bi];rw[if_neg h8,if_neg h9]]
   exact⟨by simp,fun x hx=>by cases hx⟩
theorem fT:∀ (n:Nat) (t:Typ),aP n t->FQ (kM n) (dL n) t
 | 0,_,h=>h.elim
 | n+1,.mk k m M s w e f,h=>fun l hl=>by
   have hc:=gw n
   obtain⟨hp1,hp2⟩:=iD h
   simp only[aP] at h
   rw[kM] at hl ⊢
   rw[dL]
   split
   ·split
    ·have h1:=lD hc h.2.1
     have:=ob (n:=n) hc f (l - 1) (fun g hg=>fT n g.typ (h.2.2.2 g hg)) (by omega)
     omega
    ·have h1:=lD hc hp1
     have:=nX hc _ (l - 1) (fun x hx=>fT n x (hp2 x hx)) (by omega)
     omega
   ·simp only;omega
theorem bI {k:Int}:∀ (f b:List TFd),bf k b f=0->∀ g∈f,∃ b,dh k b g=0
 | [],_,_,_,h=>by cases h
 | x::r,b,h,g,hg=>by
   rw[bf] at h
   by_cases h0:dh k b x=0
   ·rw[if_pos h0] at h
    rcases VY.1 hg with rfl | hg
    ·exact⟨b,h0⟩
    ·exact bI r _ h g hg
   ·rw[if_neg h0] at h;exact absurd h h0
theorem gq {k:Int}{b:List TFd}{n:Int}{nm:List UInt8}{t:Typ}{d:List Val}(h:dh k b (.mk n nm 3 t d)=0):∃ x r,d=x::r:=by
 cases d with
 | cons x r=>exact⟨x,r,rfl⟩
 | nil=>
   simp only[dh,VV,true_and,if_true] at h
   repeat' split at h
   all_goals first | exact absurd h (by decide) | skip
def Oj (n:Nat):Prop:=∀ (t:Typ) (d l:Int),bt n t->aP n t->0<=d->d+n<=9->kM n<=l->l<=4096 ->
 bk Tryz.prog aq 1 94 [.pv t.pv,.pv (.int .i64 d),.ptr 0 0] [.cells 3 true [.pv (.int .i64 l)]] (.pv (.int .i64 (dL n l t).1)) [.cells 3 true [.pv (.int .i64 (dL n l t).2)]]
theorem oA {n:Nat}{k m M s:Int}{w:List (List UInt8)}{e:List Typ}{f:List TFd}(h:bt (n+1) (.mk k m M s w e f)):ae Tryz.prog aq 143 [(Typ.mk k m M s w e f).pv] (.int .i64 (fv (.mk k m M s w e f)))/\ae Tryz.prog aq 144 [(Typ.mk k m M s w e f).pv] (.list ((bi (.mk k m M s w e f)).map Typ.pv))/\∀ x∈bi (.mk k m M s w e f),bt n x:=by
 simp only[bt] at h
 obtain⟨h1,h2,h3,h4,h5,h6⟩:=h
 refine⟨PQ m M s w e f k (fun x hx=>by have:=h2 x hx;omega) (by omega) (by omega) (by omega),HE k m M s w e f (by omega),?_⟩
 by_cases h8:k=8
 ·rw[show bi (.mk k m M s w e f)=e from if_pos h8]
  exact h5
 ·by_cases h9:k=9\/k=10
  ·rw[show bi (.mk k m M s w e f)=f.map TFd.typ by simp only[bi];rw[if_neg h8,if_pos h9]]
   intro x hx
   obtain⟨g,hg,rfl⟩:=Vy.1 hx
   exact (h6 g hg).2.2
  ·rw[show bi (.mk k m M s w e f)=[] by simp only[bi];rw[if_neg h8,if_neg h9]]
   intro x hx;cases hx
theorem E5 (n:Nat)(ih:Oj n)(k m M s:Int)(w:List (List UInt8))(e:List Typ)(f:List TFd)(d l:Int)(ht:bt (n+1) (.mk k m M s w e f))(hn:aP (n+1) (.mk k m M s w e f))(hd:0<=d)(hdn:d+(n+1:Nat)<=9)(hl:kM (n+1)<=l)(hl2:l<=4096)(hk:¬ k=9) :
  bk Tryz.prog aq 1 94 [.pv (Typ.mk k m M s w e f).pv,.pv (.int .i64 d),.ptr 0 0] [.cells 3 true [.pv (.int .i64 l)]] (.pv (.int .i64 (dL (n+1) l (.mk k m M s w e f)).1)) [.cells 3 true [.pv (.int .i64 (dL (n+1) l (.mk k m M s w e f)).2)]]:=by
 obtain⟨h143,h144,hpt⟩:=oA ht
 obtain⟨hp6,hpn⟩:=iD hn
 have hc0:=gw n
 have hrem:=lD hc0 hp6
 rw[kM] at hl
 have hl0:¬ l=0:=by omega
 have hd8:¬ 8<d:=by omega
 rw[dL,if_neg hk]
 generalize bi (.mk k m M s w e f)=ps at *
 generalize fv (.mk k m M s w e f)=z at *
 simp only[Vd] at h143 h144 ⊢
 by_cases hz:z=0
 ·subst hz
  rw[if_pos rfl]
  obtain⟨R,hR⟩:∃ R,R=eX (dL n) (l - 1) ps:=⟨_,rfl⟩
  rw[<- hR]
  refine bk.intro km.2 (by simp[km]) ?_
  simp(disch:=try exact dI) only[km,hl0,hd8,push_cast,seval]
  refine ab.pure h143 rfl ?_
  refine zgZ ?_
  refine ab.pure h144 rfl ?_
  refine zgZ ?_
  refine ap ([]) (fun x:Nat×Int=>[(32,.pv (.int .i64 (x.1:Int)))]) (fun x=>[(0,.cells 3 true [.pv (.int .i64 x.2)])]) (fun x=>x.1<=ps.length/\R=eX (dL n) x.2 (ps.drop x.1)/\na (kM n) (ps.drop x.1)<=x.2/\x.2<=4096) (fun x=>ps.length - x.1) ((0,l - 1)) ?_;intro e0 σ0 n0 h0;simp(disch:=try exact dI) only[push_cast,seval] at h0;obtain⟨rfl,rfl,rfl⟩:=h0;refine⟨?_,?_,?_⟩
  ·exact qsZ
  ·exact⟨by simp,by simpa using hR,by simpa using (show na (kM n) ps<=l - 1 by omega),by simp only;omega⟩
  rintro⟨i,L⟩ ⟨hi,hr,hL,hL2⟩
  simp only at hi hr hL hL2
  by_cases hlt:i<ps.length
  ·have hltI:(i:Int)<(ps.length:Int):=by omega
   obtain⟨x,hx⟩:∃ x,ps[i]? = some x:=⟨_,Vg hlt⟩
   have hxm:=Vk hx
   obtain⟨hr1,hr2⟩:=lC hc0 hx
   have hcall:=ih x (d+1) L (hpt x hxm) (hpn x hxm) (by omega) (by omega) (by omega) hL2
   have hleft:=fT n x (hpn x hxm) L (by omega)
   rw[y8 hx] at hr
   obtain⟨⟨e1,e2⟩,he⟩:∃ q,q=dL n L x:=⟨_,rfl⟩
   rw[<- he] at hcall hleft hr
   simp only at hcall hleft hr
   obtain⟨k',m',M',s',w',e',f'⟩:=x
   simp only[Vd] at hcall
   simp(disch:=try exact dI) only[hx,Vl,Vd,ag,push_cast,seval]
   refine ab.lentK hcall [0] rfl qsZ qsZ ?_
   by_cases he0:e1=0
   ·subst he0
    rw[if_pos rfl] at hr
    simp(disch:=try exact dI) only[hk,push_cast,seval]
    exact⟨(i+1,e2),aI qsZ,⟨by simp only;omega,hr,by simp only;omega,by simp only;omega⟩,by simp only;omega⟩
   ·rw[if_neg he0] at hr
    subst hr
    simp(disch:=try exact dI) only[he0,push_cast,seval]
    exact aC [] qsZ
  ·obtain rfl:i=ps.length:=by omega
   rw[We,eX] at hr
   subst hr
   simp(disch:=try exact dI) only[Int.lt_irrefl,push_cast,seval]
   exact aC [] qsZ
 ·rw[if_neg hz]
  refine bk.intro km.2 (by simp[km]) ?_
  simp(disch:=try exact dI) only[km,hl0,hd8,push_cast,seval]
  refine ab.pure h143 rfl ?_
  simp(disch:=try exact dI) only[hz,push_cast,seval]
  exact aC [] qsZ
theorem E6 (n:Nat)(ih:Oj n)(m M s:Int)(w:List (List UInt8))(e:List Typ)(f:List TFd)(d l:Int)(ht:bt (n+1) (.mk 9 m M s w e f))(hn:aP (n+1) (.mk 9 m M s w e f))(hd:0<=d)(hdn:d+(n+1:Nat)<=9)(hl:kM (n+1)<=l)(hl2:l<=4096) :
  bk Tryz.prog aq 1 94 [.pv (Typ.mk 9 m M s w e f).pv,.pv (.int .i64 d),.ptr 0 0] [.cells 3 true [.pv (.int .i64 l)]] (.pv (.int .i64 (dL (n+1) l (.mk 9 m M s w e f)).1)) [.cells 3 true [.pv (.int .i64 (dL (n+1) l (.mk 9 m M s w e f)).2)]]:=by
 obtain⟨h143,h144,hpt⟩:=oA ht
 have hown:=bE (k:=9) (m:=m) (M:=M) (s:=s) (w:=w) (e:=e) (f:=f)
 rw[show bi (.mk 9 m M s w e f)=f.map TFd.typ from rfl] at h144 hpt
 simp only[bt] at ht
 simp only[aP] at hn
 have hc0:=gw n
 have hrem:=lD hc0 hn.2.1
 rw[kM] at hl
 have hl0:¬ l=0:=by omega
 have hd8:¬ 8<d:=by omega
 rw[dL,if_pos rfl]
 generalize fv (.mk 9 m M s w e f)=z at *
 simp only[Vd] at h143 h144 ⊢
 by_cases hz:z=0
 ·have hfl:=(hown hz).2.2.2
  clear hown
  subst hz
  rw[if_pos rfl]
  obtain⟨R,hR⟩:∃ R,R=dK n (dL n) (l - 1) f:=⟨_,rfl⟩
  rw[<- hR]
  refine bk.intro km.2 (by simp[km]) ?_
  simp(disch:=try exact dI) only[km,hl0,hd8,push_cast,seval]
  refine ab.pure h143 rfl ?_
  refine zgZ ?_
  refine ab.pure h144 rfl ?_
  refine zgZ ?_
  refine ap ([]) (fun x:Nat×Int=>[(32,.pv (.int .i64 (x.1:Int)))]) (fun x=>[(0,.cells 3 true [.pv (.int .i64 x.2)])]) (fun x=>x.1<=f.length/\R=dK n (dL n) x.2 (f.drop x.1)/\na (kM n) (f.drop x.1)<=x.2/\x.2<=4096) (fun x=>f.length - x.1) ((0,l - 1)) ?_;intro e0 σ0 n0 h0;simp(disch:=try exact dI) only[push_cast,seval] at h0;obtain⟨rfl,rfl,rfl⟩:=h0;refine⟨?_,?_,?_⟩
  ·exact qsZ
  ·exact⟨by simp,by simpa using hR,by simpa using (show na (kM n) f<=l - 1 by omega),by simp only;omega⟩
  rintro⟨i,L⟩ ⟨hi,hr,hL,hL2⟩
  simp only at hi hr hL hL2
  by_cases hlt:i<f.length
  ·have hltI:(i:Int)<(f.length:Int):=by omega
   obtain⟨g,hg⟩:∃ g,f[i]? = some g:=⟨_,Vg hlt⟩
   have hgm:=Vk hg
   obtain⟨hr1,hr2⟩:=lC hc0 hg
   have hgt:=hpt g.typ (List.mem_map_of_mem hgm)
   have hgn:=hn.2.2.2 g hgm
   have hcall:=ih g.typ (d+1) L hgt hgn (by omega) (by omega) (by omega) hL2
   have hleft:=fT n g.typ hgn L (by omega)
   have hty:=fS n L g.typ hgn
   have hfe:=bI f [] hfl g hgm
   have hgd:=(ht.2.2.2.2.2 g hgm).2.1
   rw[oa hg] at hr
   obtain⟨⟨e1,e2⟩,he⟩:∃ q,q=dL n L g.typ:=⟨_,rfl⟩
   rw[<- he] at hcall hleft hr hty
   clear he
   obtain⟨n',nm',nd',t',d'⟩:=g
   simp only[TFd.typ,TFd.dflt] at hcall hleft hr hty hgt hgn hgd
   by_cases he0:e1=0
   ·subst he0
    rw[if_pos rfl] at hr
    by_cases h3:nd'=3
    ·subst h3
     obtain⟨b,hb⟩:=hfe
     obtain⟨x,r,rfl⟩:=gq hb
     obtain⟨hx1,hx2,hx3⟩:=hgd x (VN ..)
     have hacc:=AH n t' x hx2 hx1.1 (fun hc=>mp n 9 t' x (hty rfl) hgt (uI hx2 hc) hx1)
     simp only[nq,pg,decide_true,Bool.true_and] at hr
     generalize accB n t' x=q at hacc hr
     obtain⟨k',m',M',s',w',e',f'⟩:=t'
     obtain⟨vk,vn,vs,vt,vl,vf⟩:=x
     simp only[Vd,Vf] at hcall hacc
     simp(disch:=try exact dI) only[hg,Vl,TFd.typ,Vd,ag,push_cast,seval]
     refine ab.lentK hcall [0] rfl qsZ qsZ ?_
     simp(disch:=try exact dI) only[hg,Vl,U7,Vd,Vf,ag,az,push_cast,seval]
     refine ab.pure hacc rfl ?_
     cases q with
     | true=>
       rw[if_neg (by decide)] at hr
       refine zgZ ?_
       exact⟨(i+1,e2),aI qsZ,⟨by simp only;omega,hr,by simp only;omega,by simp only;omega⟩,by simp only;omega⟩
     | false=>
       rw[if_pos (by decide)] at hr
       subst hr
       refine zgZ ?_
       exact aC [] qsZ
    ·rw[if_neg (by simp[nq,h3])] at hr
     obtain⟨k',m',M',s',w',e',f'⟩:=t'
     simp only[Vd] at hcall
     simp(disch:=try exact dI) only[hg,Vl,TFd.typ,Vd,ag,push_cast,seval]
     refine ab.lentK hcall [0] rfl qsZ qsZ ?_
     simp(disch:=try exact dI) only[hg,Vl,U7,Vd,ag,h3,push_cast,seval]
     exact⟨(i+1,e2),aI qsZ,⟨by simp only;omega,hr,by simp only;omega,by simp only;omega⟩,by simp only;omega⟩
   ·rw[if_neg he0] at hr
    subst hr
    obtain⟨k',m',M',s',w',e',f'⟩:=t'
    simp only[Vd] at hcall
    simp(disch:=try exact dI) only[hg,Vl,TFd.typ,Vd,ag,push_cast,seval]
    refine ab.lentK hcall [0] rfl qsZ qsZ ?_
    simp(disch:=try exact dI) only[he0,push_cast,seval]
    exact aC [] qsZ
  ·obtain rfl:i=f.length:=by omega
   rw[We,dK] at hr
   subst hr
   simp(disch:=try exact dI) only[Int.lt_irrefl,push_cast,seval]
   exact aC [] qsZ
 ·rw[if_neg hz]
  refine bk.intro km.2 (by simp[km]) ?_
  simp(disch:=try exact dI) only[km,hl0,hd8,push_cast,seval]
  refine ab.pure h143 rfl ?_
  simp(disch:=try exact dI) only[hz,push_cast,seval]
  exact aC [] qsZ
theorem E7:∀ n,Oj n
 | 0=>fun _ _ _ h=>h.elim
 | n+1=>fun t d l ht hn hd hdn hl hl2=>by
   have ih:=E7 n
   obtain⟨k,m,M,s,w,e,f⟩:=t
   by_cases hk:k=9
   ·subst hk;exact E6 n ih m M s w e f d l ht hn hd hdn hl hl2
   ·exact E5 n ih k m M s w e f d l ht hn hd hdn hl hl2 hk
