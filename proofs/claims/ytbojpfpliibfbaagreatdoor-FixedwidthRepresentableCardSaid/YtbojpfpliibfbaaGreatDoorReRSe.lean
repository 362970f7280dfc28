/- A part of the proof for FixedwidthRepresentableCardSaid. -/
import Derived.Test.YtbojpfpliibfbaaGreatDoorReRSc
set_option maxRecDepth 100000
set_option linter.unusedVariables false
set_option linter.unusedSimpArgs false
-- many steps
namespace Go.Proofs.YtbojpfpliibfbaaGreatDoor
open Go Go.Ab
attribute [local irreducible] vc
def DM:Nat→Val→Prop
 | 0,_=>False
 | n+1,v=>(bu v=0∧am v=true)∧∀ x∈a8 v,DM n x
theorem pE:∀ (xs:List (Int×Val)) (i:Nat),gY i xs=0→∀ q∈xs,∃ j,aX j q=0
 | [],_,_,_,h=>by cases h
 | x::r,i,h,q,hq=>by
   rw[gY] at h
   by_cases h0:aX i x=0
   ·rw[if_pos h0] at h
    rcases List.mem_cons.1 hq with rfl | hq
    ·exact⟨i,h0⟩
    ·exact pE r (i+1) h q hq
   ·rw[if_neg h0] at h;exact absurd h h0
theorem qA {j:Nat}{q:Int×Val}(h:aX j q=0):bu q.2=0∧am q.2=true:=by
 unfold aX at h
 split at h
 ·cases h
 split at h
 ·cases h
 split at h
 ·cases h
 split at h
 ·cases h
 split at h
 ·cases h
 ·rename_i hu
  exact⟨h,by simpa using hu⟩
theorem ta:∀ (n:Nat) (lv:Int) (v:Val),cL n v→(∀ q∈cy n lv v,bu q.2=0∧am q.2=true)→DM n v
 | 0,_,_,hd,_=>hd.elim
 | n+1,lv,v,hd,h=>by
   simp only[cy,List.mem_cons,List.mem_flatMap] at h
   refine⟨h (lv,v) (.inl rfl),fun x hx=>ta n (Go.RowKit.wrap64 (lv+1)) x (hd x hx) fun q hq=>h q (.inr ⟨x,hx,hq⟩)⟩
theorem ow {n:Nat}{v:Val}(hd:cL n v)(h:gY 0 (cy n 1 v)=0):DM n v:=
 ta n 1 v hd fun q hq=>by obtain⟨j,hj⟩:=pE _ _ h q hq;exact qA hj
noncomputable def accB (n:Nat)(t:Typ)(v:Val):Bool:=decide (Dn v=0)&&bg n t v
theorem sy (n:Nat)(t:Typ)(v:Val)(hv:v.ok)(hP:Dn v=0→mb n t v):ag Tryz.prog aD 180 [t.pv,v.pv] (.bool (accB n t v)):=by
 have hc:=FU v hv
 simp only[accB]
 generalize Dn v=z at hc hP ⊢
 by_cases hz:z=0
 ·have hh:=Dd n t v (hP hz)
  subst hz
  generalize bg n t v=b at hh ⊢
  obtain⟨k,m,M,s,w,e,f⟩:=t
  obtain⟨vk,vn,vs,vt,vl,vf⟩:=v
  simp only[Typ.pv_mk,Val.pv_mk] at hc hh
  refine ag.intro yh (by simp[K0]) ?_
  simp(maxSteps:=9^7) (disch:=try exact dI) only[K0,Typ.pv_mk,Val.pv_mk,push_cast,seval]
  refine ab.pure hc rfl ?_
  simp(maxSteps:=9^7) (disch:=try exact dI) only[push_cast,seval]
  refine ab.pure hh rfl ?_
  simp(maxSteps:=9^7) (disch:=try exact dI) only[push_cast,seval]
 ·rw[decide_eq_false hz,Bool.false_and]
  obtain⟨k,m,M,s,w,e,f⟩:=t
  obtain⟨vk,vn,vs,vt,vl,vf⟩:=v
  simp only[Typ.pv_mk,Val.pv_mk] at hc
  refine ag.intro yh (by simp[K0]) ?_
  simp(maxSteps:=9^7) (disch:=try exact dI) only[K0,Typ.pv_mk,Val.pv_mk,push_cast,seval]
  refine ab.pure hc rfl ?_
  simp(maxSteps:=9^7) (disch:=try exact dI) only[hz,push_cast,seval]
noncomputable def fE (n:Nat):TFd→Bool
 | .mk _ _ nd t d=>decide (nd=3)&&!(nS (accB n t) d)
def tyV:Nat→Typ→Prop
 | 0,_=>False
 | n+1,.mk k m M s w e f=>bh (.mk k m M s w e f)=0∧(k=8→∀ x∈e,tyV n x)∧(k=9∨k=10→∀ g∈f,tyV n g.typ∧(k=9→fE n g=false))
theorem bA {k m M s:Int}{w:List (List UInt8)}{e:List Typ}{f:List TFd}(h:bh (.mk k m M s w e f)=0):inB k 1 10=true∧aB k m M s w=0∧aF k e.length f.length=0∧az k [] f=0:=by
 rw[bh] at h
 by_cases a:inB k 1 10=false
 ·rw[if_pos a] at h;exact absurd h (by decide)
 rw[if_neg a] at h
 by_cases b:aQ k (.mk k m M s w e f)=true
 ·rw[if_pos b] at h;exact absurd h (by decide)
 rw[if_neg b] at h
 by_cases c:aB k m M s w=0
 ·rw[if_neg (fun hh=>hh c)] at h
  by_cases d:aF k e.length f.length=0
  ·rw[if_neg (fun hh=>hh d)] at h
   exact⟨by simpa using a,c,d,h⟩
  ·rw[if_pos d] at h;exact absurd h d
 ·rw[if_pos c] at h;exact absurd h c
theorem uS {k m M s:Int}{w:List (List UInt8)}{e:List Typ}{f:List TFd}(h:bh (.mk k m M s w e f)=0)(hk:¬ k=3):s=0:=by
 rw[bh] at h
 by_cases a:inB k 1 10=false
 ·rw[if_pos a] at h;exact absurd h (by decide)
 rw[if_neg a] at h
 by_cases b:aQ k (.mk k m M s w e f)=true
 ·rw[if_pos b] at h;exact absurd h (by decide)
 have b':aQ k (.mk k m M s w e f)=false:=by simpa using b
 simp only[aQ,aq,Bool.or_eq_false_iff] at b'
 obtain⟨_,b2,_⟩:=b'
 rw[decide_eq_false hk] at b2
 simpa using b2
theorem gR {m M s:Int}{w:List (List UInt8)}{e:List Typ}{f:List TFd}(h:bh (.mk 8 m M s w e f)=0):∃ x,e=[x]:=by
 have h1:=(bA h).2.2.1
 match e,h1 with
 | [],h1=>simp[aF] at h1
 | [x],_=>exact⟨x,rfl⟩
 | x::y::r,h1=>simp[aF] at h1
theorem jy {t:Typ}{nm:List UInt8}{g:TFd}(h:bi t nm=some g):(t.kind=9∨t.kind=10)∧g∈t.fields:=by
 unfold bi at h
 split at h
 ·rename_i hk;exact⟨hk,List.mem_of_find?_eq_some h⟩
 ·cases h
theorem zx {v:Val}(hk:v.kind=10)(h:bu v=0):∃ y r,v.lst=y::r:=by
 obtain⟨vk,vn,vs,vt,vl,vf⟩:=v
 simp only[Val.kind] at hk
 subst hk
 cases vl with
 | cons y r=>exact⟨y,r,rfl⟩
 | nil=>
   simp only[bu,show ¬ (10:Int)=1 by decide,show ¬ (10:Int)=2 by decide,show ¬ (10:Int)=3 by decide,show ¬ (10:Int)=4 by decide,show ¬ (10:Int)=5 by decide,show ¬ (10:Int)=6 by decide,show ¬ (10:Int)=7 by decide,show ¬ (10:Int)=8 by decide,show ¬ (10:Int)=9 by decide,if_false,if_true,List.length_nil] at h
   split at h<;>exact absurd h (by decide)
theorem iL:∀ (n m:Nat) (t:Typ) (v:Val),tyV n t→t.ok→DM m v→v.ok→mb n t v
 | 0,_,_,_,h,_,_,_=>h.elim
 | _+1,0,_,_,_,_,h,_=>h.elim
 | n+1,m+1,t,v,h1,h2,h3,h4=>by
   have hv:=h4
   obtain⟨⟨hr,hu⟩,hp⟩:=h3
   obtain⟨N,hsm⟩:=ki t h2
   have hk8:v.kind=8→∀ y∈v.lst,DM m y:=fun hk y hy=>hp y (by rw[bP (.inl hk)];exact hy)
   have hk10:v.kind=10→∀ y∈v.lst,DM m y:=fun hk y hy=>hp y (by rw[bP (.inr hk)];exact hy)
   have hk9:v.kind=9→∀ x∈v.fields,DM m x.value:=fun hk x hx=>hp x.value (by rw[cB hk];exact List.mem_map_of_mem hx)
   obtain⟨k,mn,M,s,w,e,f⟩:=t
   simp only[tyV] at h1
   rw[Typ.ok_mk] at h2
   obtain⟨ho,ht8,ht9⟩:=h1
   obtain⟨_,_,_,_,t1,_,_,t5,_,t6⟩:=h2
   have hvl:v.lst.length≤9000000000000∧v.fields.length≤9000000000000∧(∀ x∈v.lst,x.ok)∧∀ x∈v.fields,x.value.ok:=by
    obtain⟨vk,vn,vs,vt,vl,vf⟩:=v
    rw[Val.ok_mk] at h4
    obtain⟨_,_,_,_,q1,q2,q3,q4⟩:=h4
    refine⟨by simp only[Val.lst];omega,by simp only[Val.fields];omega,q2,fun x hx=>?_⟩
    have:=q4 x hx
    obtain⟨nm,y⟩:=x
    rw[Fld.ok_mk] at this
    exact this.2
   obtain⟨hvl,hvf,hl,hf⟩:=hvl
   have hgt:∀ g∈f,g.typ.ok:=fun g hg=>by
    have:=t6 g hg
    obtain⟨a1,a2,a3,a4,a5⟩:=g
    rw[TFd.ok_mk] at this
    exact this.2.2.2.1
   have hkk:inB k 1 10=true:=(bA ho).1
   refine⟨⟨N,hsm⟩,by simpa[inB,Typ.kind] using hkk,by simp only[Typ.words];omega,hv,hvl,hvf,fun hk=>⟨?_,?_,?_,?_⟩⟩
   ·intro h2
    simp only[Typ.kind] at h2 hk
    have hs:=uS ho (by omega)
    obtain⟨vk,vn,vs,vt,vl,vf⟩:=v
    simp only[Val.kind] at hk
    subst hk
    simp only[am,Bool.and_eq_true,Bool.or_eq_true,decide_eq_true_eq] at hu
    simp only[Val.scale,Typ.scale]
    omega
   ·intro h8 y hy
    simp only[Typ.kind] at h8 hk
    subst h8
    obtain⟨x,rfl⟩:=gR ho
    exact⟨x,[],rfl,iL n m x y (ht8 rfl x (List.mem_cons_self ..)) (t5 x (List.mem_cons_self ..)) (hk8 hk y hy) (hl y hy)⟩
   ·intro h10 g hg
    simp only[Typ.kind] at h10 hk
    subst h10
    obtain⟨_,hgm⟩:=jy hg
    simp only[Typ.fields] at hgm
    obtain⟨y,r,hy⟩:=zx hk hr
    have hym:y∈v.lst:=by rw[hy];exact List.mem_cons_self ..
    exact⟨y,r,hy,iL n m g.typ y (ht9 (.inr rfl) g hgm).1 (hgt g hgm) (hk10 hk y hym) (hl y hym)⟩
   ·intro h9 x hx g hg
    simp only[Typ.kind] at h9 hk
    subst h9
    obtain⟨_,hgm⟩:=jy hg
    simp only[Typ.fields] at hgm
    exact iL n m g.typ x.value (ht9 (.inl rfl) g hgm).1 (hgt g hgm) (hk9 hk x hx) (hf x hx)
end Go.Proofs.YtbojpfpliibfbaaGreatDoor
-- many steps
namespace Go.Proofs.YtbojpfpliibfbaaGreatDoor
open Go Go.Ab
attribute [local irreducible] vc
def cn (rec:Int→Typ→Int×Int):Int→List Typ→Int×Int
 | l,[]=>(0,l)
 | l,t::r=>if (rec l t).1=0 then cn rec (rec l t).2 r else rec l t
noncomputable def bY (n:Nat)(rec:Int→Typ→Int×Int):Int→List TFd→Int×Int
 | l,[]=>(0,l)
 | l,g::r=>if (rec l g.typ).1=0 then (if fE n g=true then (18,(rec l g.typ).2) else bY n rec (rec l g.typ).2 r) else rec l g.typ
noncomputable def bO (δ:Int):Nat→Int→Typ→Int×Int
 | 0,l,_=>if l=0 then (9,0) else (23,l - δ)
 | n+1,l,.mk k m M s w e f=>if l=0 then (9,0) else if bh (.mk k m M s w e f)=0 then (if k=9 then bY n (bO δ n) (l - 1) f else cn (bO δ n) (l - 1) (bC (.mk k m M s w e f))) else (bh (.mk k m M s w e f),l - 1)
theorem rC {rec:Int→Typ→Int×Int}{ps:List Typ}{i:Nat}{t:Typ}(h:ps[i]? = some t)(l:Int):cn rec l (ps.drop i)=if (rec l t).1=0 then cn rec (rec l t).2 (ps.drop (i+1)) else rec l t:=by
 have hi:=(List.getElem?_eq_some_iff.1 h).1
 have he:ps[i]=t:=(List.getElem?_eq_some_iff.1 h).2
 rw[List.drop_eq_getElem_cons hi,he,cn]
theorem jQ {n:Nat}{rec:Int→Typ→Int×Int}{ps:List TFd}{i:Nat}{g:TFd}(h:ps[i]? = some g)(l:Int):bY n rec l (ps.drop i)=if (rec l g.typ).1=0 then (if fE n g=true then (18,(rec l g.typ).2) else bY n rec (rec l g.typ).2 (ps.drop (i+1))) else rec l g.typ:=by
 have hi:=(List.getElem?_eq_some_iff.1 h).1
 have he:ps[i]=g:=(List.getElem?_eq_some_iff.1 h).2
 rw[List.drop_eq_getElem_cons hi,he,bY]
theorem iJ {rec:Int→Typ→Int×Int}:∀ (ps:List Typ) (l:Int),(cn rec l ps).1=0→∀ t∈ps,∃ l,(rec l t).1=0
 | [],_,_,_,h=>by cases h
 | x::r,l,h,t,ht=>by
   rw[cn] at h
   by_cases h0:(rec l x).1=0
   ·rw[if_pos h0] at h
    rcases List.mem_cons.1 ht with rfl | ht
    ·exact⟨l,h0⟩
    ·exact iJ r _ h t ht
   ·rw[if_neg h0] at h;exact absurd h h0
theorem mf {n:Nat}{rec:Int→Typ→Int×Int}:∀ (ps:List TFd) (l:Int),(bY n rec l ps).1=0→∀ g∈ps,∃ l,(rec l g.typ).1=0
 | [],_,_,_,h=>by cases h
 | x::r,l,h,t,ht=>by
   rw[bY] at h
   by_cases h0:(rec l x.typ).1=0
   ·rw[if_pos h0] at h
    by_cases hd:fE n x=true
    ·rw[if_pos hd] at h;exact absurd h (show ¬ (18:Int)=0 by decide)
    ·rw[if_neg hd] at h
     rcases List.mem_cons.1 ht with rfl | ht
     ·exact⟨l,h0⟩
     ·exact mf r _ h t ht
   ·rw[if_neg h0] at h;exact absurd h h0
theorem jU {n:Nat}{rec:Int→Typ→Int×Int}:∀ (ps:List TFd) (l:Int),(bY n rec l ps).1=0→∀ g∈ps,fE n g=false
 | [],_,_,_,h=>by cases h
 | x::r,l,h,t,ht=>by
   rw[bY] at h
   by_cases h0:(rec l x.typ).1=0
   ·rw[if_pos h0] at h
    by_cases hd:fE n x=true
    ·rw[if_pos hd] at h;exact absurd h (show ¬ (18:Int)=0 by decide)
    ·rw[if_neg hd] at h
     rcases List.mem_cons.1 ht with rfl | ht
     ·simpa using hd
     ·exact jU r _ h t ht
   ·rw[if_neg h0] at h;exact absurd h h0
theorem eu {δ:Int}:∀ (n:Nat) (l:Int) (t:Typ),(bO δ n l t).1=0→tyV n t
 | 0,l,_,h=>by
   rw[bO] at h
   split at h<;>cases h
 | n+1,l,.mk k m M s w e f,h=>by
   rw[bO] at h
   by_cases hl:l=0
   ·rw[if_pos hl] at h;cases h
   rw[if_neg hl] at h
   by_cases ho:bh (.mk k m M s w e f)=0
   ·rw[if_pos ho] at h
    refine⟨ho,fun h8 x hx=>?_,fun h9 g hg=>?_⟩
    ·subst h8
     rw[if_neg (by decide)] at h
     obtain⟨l',hl'⟩:=iJ _ _ h x hx
     exact eu n l' x hl'
    ·by_cases hk:k=9
     ·subst hk
      rw[if_pos rfl] at h
      obtain⟨l',hl'⟩:=mf _ _ h g hg
      exact⟨eu n l' g.typ hl',fun _=>jU _ _ h g hg⟩
     ·have hk10:k=10:=by omega
      subst hk10
      rw[if_neg (by decide)] at h
      obtain⟨l',hl'⟩:=iJ _ _ h g.typ (List.mem_map_of_mem hg)
      exact⟨eu n l' g.typ hl',fun h=>absurd h hk⟩
   ·rw[if_neg ho] at h;exact absurd h ho
def x7 (rec:Int→Typ→Int×Int):Prop:=∀ t l,0≤l→l≤4096→0≤(rec l t).2∧(rec l t).2≤4096
theorem jL {rec:Int→Typ→Int×Int}(h:x7 rec):∀ (ps:List Typ) (l:Int),0≤l→l≤4096→0≤(cn rec l ps).2∧(cn rec l ps).2≤4096
 | [],l,h1,h2=>⟨h1,h2⟩
 | x::r,l,h1,h2=>by
   have h3:=h x l h1 h2
   rw[cn]
   split
   ·exact jL h r _ h3.1 h3.2
   ·exact h3
theorem jS {n:Nat}{rec:Int→Typ→Int×Int}(h:x7 rec):∀ (ps:List TFd) (l:Int),0≤l→l≤4096→0≤(bY n rec l ps).2∧(bY n rec l ps).2≤4096
 | [],l,h1,h2=>⟨h1,h2⟩
 | x::r,l,h1,h2=>by
   have h3:=h x.typ l h1 h2
   rw[bY]
   split
   ·split
    ·exact h3
    ·exact jS h r _ h3.1 h3.2
   ·exact h3
theorem ew {δ:Int}(hδ:0≤δ∧δ≤1):∀ n,x7 (bO δ n)
 | 0,t,l,h1,h2=>by
   rw[bO]
   split
   ·simp
   ·simp only;omega
 | n+1,.mk k m M s w e f,l,h1,h2=>by
   rw[bO]
   split
   ·simp
   split
   ·split
    ·exact jS (ew hδ n) f (l - 1) (by omega) (by omega)
    ·exact jL (ew hδ n) _ (l - 1) (by omega) (by omega)
   ·simp only;omega
def Gn (p q:Int→Typ→Int×Int):Prop:=∀ l t,(p l t).1=(q l t).1∧((p l t).1=0→p l t=q l t)
theorem jK {p q:Int→Typ→Int×Int}(h:Gn p q):∀ (ps:List Typ) (l:Int),(cn p l ps).1=(cn q l ps).1∧((cn p l ps).1=0→cn p l ps=cn q l ps)
 | [],l=>⟨rfl,fun _=>rfl⟩
 | x::r,l=>by
   obtain⟨h1,h2⟩:=h l x
   rw[cn,cn]
   by_cases h0:(p l x).1=0
   ·rw[if_pos h0,if_pos (h1.symm.trans h0),h2 h0]
    exact jK h r _
   ·rw[if_neg h0,if_neg (fun hh=>h0 (h1.trans hh))]
    exact⟨h1,fun q=>absurd q h0⟩
theorem jR {n:Nat}{p q:Int→Typ→Int×Int}(h:Gn p q):∀ (ps:List TFd) (l:Int),(bY n p l ps).1=(bY n q l ps).1∧((bY n p l ps).1=0→bY n p l ps=bY n q l ps)
 | [],l=>⟨rfl,fun _=>rfl⟩
 | x::r,l=>by
   obtain⟨h1,h2⟩:=h l x.typ
   rw[bY,bY]
   by_cases h0:(p l x.typ).1=0
   ·rw[if_pos h0,if_pos (h1.symm.trans h0),h2 h0]
    by_cases hd:fE n x=true
    ·rw[if_pos hd,if_pos hd];exact⟨rfl,fun _=>rfl⟩
    ·rw[if_neg hd,if_neg hd];exact jR h r _
   ·rw[if_neg h0,if_neg (fun hh=>h0 (h1.trans hh))]
    exact⟨h1,fun q=>absurd q h0⟩
theorem ja (δ ε:Int):∀ n,Gn (bO δ n) (bO ε n)
 | 0,l,t=>by
   rw[bO,bO]
   split
   ·exact⟨rfl,fun _=>rfl⟩
   ·exact⟨rfl,fun h=>by cases h⟩
 | n+1,l,.mk k m M s w e f=>by
   rw[bO,bO]
   split
   ·exact⟨rfl,fun _=>rfl⟩
   split
   ·split
    ·exact jR (ja δ ε n) f _
    ·exact jK (ja δ ε n) _ _
   ·exact⟨rfl,fun _=>rfl⟩
theorem bN {k:Int}:∀ (f b:List TFd),az k b f=0→∀ g∈f,∃ b,bz k b g=0
 | [],_,_,_,h=>by cases h
 | x::r,b,h,g,hg=>by
   rw[az] at h
   by_cases h0:bz k b x=0
   ·rw[if_pos h0] at h
    rcases List.mem_cons.1 hg with rfl | hg
    ·exact⟨b,h0⟩
    ·exact bN r _ h g hg
   ·rw[if_neg h0] at h;exact absurd h h0
theorem eJ {k:Int}{b:List TFd}{n:Int}{nm:List UInt8}{t:Typ}{d:List Val}(h:bz k b (.mk n nm 3 t d)=0):∃ x r,d=x::r:=by
 cases d with
 | cons x r=>exact⟨x,r,rfl⟩
 | nil=>
   simp only[bz,List.length_nil,true_and,if_true] at h
   repeat' split at h
   all_goals first | exact absurd h (by decide) | skip
end Go.Proofs.YtbojpfpliibfbaaGreatDoor
