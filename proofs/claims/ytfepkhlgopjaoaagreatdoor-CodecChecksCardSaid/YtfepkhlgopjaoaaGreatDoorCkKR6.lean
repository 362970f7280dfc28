/- A part of the proof for CodecChecksCardSaid. -/
import Derived.Test.YtfepkhlgopjaoaaGreatDoorCkKR5
set_option linter.unusedVariables false
set_option linter.unusedSimpArgs false
set_option maxRecDepth 100000
-- many steps
namespace Go.Proofs.YtfepkhlgopjaoaaGreatDoor
open Go Go.Ab
attribute [local irreducible] vc
def aS (i:Nat)(q:Int×Val):Int:=
 if 4096≤i then 9 else if 8<q.1 then 23 else if dQ q.2=true then 19 else if q.2.kind<1∨10<q.2.kind then 11 else if df q.2=false then 3 else bi q.2
section
variable {i:Nat}{q:Int×Val}
theorem Ey (c1:4096≤i):aS i q=9:=if_pos c1
theorem Ex (c1:¬ 4096≤i)(c2:8<q.1):aS i q=23:=by unfold aS;rw[if_neg c1,if_pos c2]
theorem Ew (c1:¬ 4096≤i)(c2:¬ 8<q.1)(c3:dQ q.2=true):aS i q=19:=by unfold aS;rw[if_neg c1,if_neg c2,if_pos c3]
theorem Ev (c1:¬ 4096≤i)(c2:¬ 8<q.1)(c3:dQ q.2=false)(c4:q.2.kind<1∨10<q.2.kind):aS i q=11:=by unfold aS;rw[if_neg c1,if_neg c2,if_neg (by rw[c3];simp),if_pos c4]
theorem Eu (c1:¬ 4096≤i)(c2:¬ 8<q.1)(c3:dQ q.2=false)(c4:¬ (q.2.kind<1∨10<q.2.kind))(c5:df q.2=false):aS i q=3:=by unfold aS;rw[if_neg c1,if_neg c2,if_neg (by rw[c3];simp),if_neg c4,if_pos c5]
theorem tH (c1:¬ 4096≤i)(c2:¬ 8<q.1)(c3:dQ q.2=false)(c4:¬ (q.2.kind<1∨10<q.2.kind))(c5:df q.2=true):aS i q=bi q.2:=by unfold aS;rw[if_neg c1,if_neg c2,if_neg (by rw[c3];simp),if_neg c4,if_neg (by rw[c5];simp)]
end
def lB:Nat→List (Int×Val)→Int
 | _,[]=>0
 | i,q::r=>if aS i q=0 then lB (i+1) r else aS i q
def EV (k:Int):Nat:=if k=1 then 212 else if k=2 then 214 else if k=3 then 215 else if k=4 then 217 else if k=5 then 220 else if k=6 then 221 else if k=7 then 222 else if k=8 then 223 else if k=9 then 224 else 225
theorem EU (v:Val)(h:1≤v.kind∧v.kind≤10):aq Tryz.prog aA (EV v.kind) [v.pv] (.int .i64 (bi v)):=by
 have hc:v.kind=1∨v.kind=2∨v.kind=3∨v.kind=4∨v.kind=5∨v.kind=6∨v.kind=7∨v.kind=8∨v.kind=9∨v.kind=10:=by omega
 rcases hc with h | h | h | h | h | h | h | h | h | h<;>rw[h]
 ·exact E5 v h
 ·exact E4 v h
 ·exact E3 v h
 ·exact E2 v h
 ·exact E1 v h
 ·exact E0 v h
 ·exact EZ v h
 ·exact EY v h
 ·exact EX v h
 ·exact EW v h
theorem gy {n sz r o:Nat}{k:IntKind}{i:Int}(h0:0≤i)(h1:i.toNat<n):e5 n sz (.ptr r o) (.pv (.int k i))=some (.ptr r (o+i.toNat*sz)):=if_pos ⟨h0,h1⟩
theorem Em (x:Val)(h:1≤x.kind∧x.kind≤10):aq Tryz.prog aA 135 [x.pv] (.bool (df x)):=Ek x h
theorem GH {xs:List (Int×Val)}{i:Nat}{q:Int×Val}(h:xs[i]? = some q):lB i (xs.drop i)=if aS i q=0 then lB (i+1) (xs.drop (i+1)) else aS i q:=by
 have hi:i<xs.length:=(List.getElem?_eq_some_iff.1 h).1
 have he:xs[i]=q:=(List.getElem?_eq_some_iff.1 h).2
 rw[List.drop_eq_getElem_cons hi,he,lB]
set_option maxHeartbeats 4000000 in
theorem jI (n:Nat)(v:Val)(hd:gX n v)(hv:v.ok):aq Tryz.prog aA 74 [v.pv] (.int .i64 (lB 0 (dg n 1 v))):=by
 have hseq:=fx n v hd hv
 have h243:=gA v
 have h242:=Ao
 generalize hxs:dg n 1 v=xs at *
 obtain⟨R,hR⟩:∃ R,R=lB 0 xs:=⟨_,rfl⟩
 rw[← hR]
 obtain⟨k,a,s,t,l,fs⟩:=v
 simp only[Val.pv_mk,tU] at h243 h242 hseq
 refine aq.intro KE (by simp[F74]) ?_
 simp(maxSteps:=9^7) (disch:=try exact dI) only[F74,Val.pv_mk,push_cast,seval]
 refine ab.pure h242 rfl ?_
 simp(maxSteps:=9^7) (disch:=try exact dI) only[vu,ox,push_cast,seval]
 refine ab.pure h243 rfl ?_
 simp(maxSteps:=9^7) (disch:=try exact dI) only[push_cast,seval]
 refine Dh ([]) (fun i:Nat=>[]) (fun i:Nat=>[(2,.cells 3 true [.pv (.int .i64 (i:Int))])]) (fun j i=>j=i∧i≤4096∧R=lB i (xs.drop i)) (0) (hseq) ?_;intro e0 σ0 n0 h0;simp(maxSteps:=9^7) (disch:=try exact dI) only[push_cast,seval] at h0;obtain⟨rfl,rfl,rfl⟩:=h0;refine⟨?_,?_,?_,?_,?_⟩
 ·simp(maxSteps:=9^7) (disch:=try exact dI) only[push_cast,seval]
 ·exact⟨rfl,by omega,by simpa using hR⟩
 ·rfl
 ·rintro j i y hy ⟨hij,hj4,hr⟩
  subst hij
  obtain⟨q,hq⟩:∃ q,xs[j]? = some q:=by
   cases h:xs[j]? with
   | none=>simp[h] at hy
   | some q=>exact⟨q,rfl⟩
  have hye:y=sI q:=by simpa[hq] using hy.symm
  subst hye
  rw[GH hq] at hr
  have hjl:j<xs.length:=(List.getElem?_eq_some_iff.1 hq).1
  obtain⟨lv,x⟩:=q
  have h111:=FI x
  have hrule:=EU x
  have huse:=Em x
  obtain⟨k',n',s',t',l',f'⟩:=x
  simp only[Val.pv_mk,Val.kind] at h111 hrule huse
  refine⟨rfl,?_⟩
  simp only[sI,Val.pv_mk]
  clear hy h242 h243 hseq
  by_cases c1:4096≤j
  ·have e:aS j (lv,Val.mk k' n' s' t' l' f')=9:=if_pos c1
   rw[e,if_neg (by omega)] at hr
   subst hr
   simp(maxSteps:=9^7) (disch:=try exact dI) only[push_cast,seval]
  ·have hj1:¬ (4096:Int)<(j:Int)+1:=by omega
   by_cases c2:8<lv
   ·have e:aS j (lv,Val.mk k' n' s' t' l' f')=23:=Ex c1 c2
    rw[e,if_neg (by omega)] at hr
    subst hr
    simp(maxSteps:=9^7) (disch:=try exact dI) only[push_cast,seval]
   ·cases c3:dQ (Val.mk k' n' s' t' l' f') with
    | true=>
      have e:aS j (lv,Val.mk k' n' s' t' l' f')=19:=Ew c1 c2 c3
      rw[e,if_neg (by omega)] at hr
      subst hr
      rw[c3] at h111
      simp(maxSteps:=9^7) (disch:=try exact dI) only[push_cast,seval]
      refine ab.pure h111 rfl ?_
      simp(maxSteps:=9^7) (disch:=try exact dI) only[push_cast,seval]
    | false=>
      rw[c3] at h111
      by_cases c4:k'<1∨10<k'
      ·have e:aS j (lv,Val.mk k' n' s' t' l' f')=11:=Ev c1 c2 c3 c4
       rw[e,if_neg (by omega)] at hr
       subst hr
       rcases c4 with c4 | c4
       ·simp(maxSteps:=9^7) (disch:=try exact dI) only[push_cast,seval]
        refine ab.pure h111 rfl ?_
        simp(maxSteps:=9^7) (disch:=try exact dI) only[push_cast,seval]
       ·simp(maxSteps:=9^7) (disch:=try exact dI) only[push_cast,seval]
        refine ab.pure h111 rfl ?_
        simp(maxSteps:=9^7) (disch:=try exact dI) only[push_cast,seval]
      ·have huse:=huse (by omega)
       have hrule:=hrule (by omega)
       cases c5:df (Val.mk k' n' s' t' l' f') with
       | false=>
         have e:aS j (lv,Val.mk k' n' s' t' l' f')=3:=Eu c1 c2 c3 c4 c5
         rw[e,if_neg (by omega)] at hr
         subst hr
         rw[c5] at huse
         simp(maxSteps:=9^7) (disch:=try exact dI) only[push_cast,seval]
         refine ab.pure h111 rfl ?_
         simp(maxSteps:=9^7) (disch:=try exact dI) only[push_cast,seval]
         refine ab.pure huse rfl ?_
         simp(maxSteps:=9^7) (disch:=try exact dI) only[push_cast,seval]
       | true=>
         have e:aS j (lv,Val.mk k' n' s' t' l' f')=bi (Val.mk k' n' s' t' l' f'):=tH c1 c2 c3 c4 c5
         rw[e] at hr
         rw[c5] at huse
         generalize bi (Val.mk k' n' s' t' l' f')=z at hr hrule
         have hkc:([AV.pv PV.nilf,AV.pv (PV.clo 212 [] []),AV.pv (PV.clo 214 [] []),AV.pv (PV.clo 215 [] []),AV.pv (PV.clo 217 [] []),AV.pv (PV.clo 220 [] []),AV.pv (PV.clo 221 [] []),AV.pv (PV.clo 222 [] []),AV.pv (PV.clo 223 [] []),AV.pv (PV.clo 224 [] []),AV.pv (PV.clo 225 [] [])]:List AV)[k'.toNat*1]? = some (.pv (.clo (EV k') [] [])):=by
          have hc:k'=1∨k'=2∨k'=3∨k'=4∨k'=5∨k'=6∨k'=7∨k'=8∨k'=9∨k'=10:=by omega
          rcases hc with h | h | h | h | h | h | h | h | h | h<;>rw[h]<;>rfl
         generalize EV k'=rf at hkc hrule
         by_cases hz:z=0
         ·rw[if_pos hz] at hr
          subst hz
          simp(maxSteps:=9^7) (disch:=try exact dI) only[push_cast,seval]
          refine ab.pure h111 rfl ?_
          simp(maxSteps:=9^7) (disch:=try exact dI) only[push_cast,seval]
          refine ab.pure huse rfl ?_
          simp(maxSteps:=9^7) (disch:=try exact dI) only[gy,hkc,push_cast,seval]
          refine ab.pure hrule rfl ?_
          simp(maxSteps:=9^7) (disch:=try exact dI) only[push_cast,seval]
          exact⟨j+1,bQ qsZ,rfl,by omega,hr⟩
         ·rw[if_neg hz] at hr
          subst hr
          simp(maxSteps:=9^7) (disch:=try exact dI) only[push_cast,seval]
          refine ab.pure h111 rfl ?_
          simp(maxSteps:=9^7) (disch:=try exact dI) only[push_cast,seval]
          refine ab.pure huse rfl ?_
          simp(maxSteps:=9^7) (disch:=try exact dI) only[gy,hkc,push_cast,seval]
          refine ab.pure hrule rfl ?_
          simp(maxSteps:=9^7) (disch:=try exact dI) only[push_cast,seval]
 ·rintro j ⟨hj,hj4,hr⟩
  simp only[List.length_map] at hj
  subst hj
  rw[List.drop_length] at hr
  rw[show R=0 from hr]
  simp(maxSteps:=9^7) (disch:=try exact dI) only[push_cast,seval]
end Go.Proofs.YtfepkhlgopjaoaaGreatDoor
namespace Go.Proofs.YtfepkhlgopjaoaaGreatDoor
open Go Go.Ab
attribute [local irreducible] vc
def sv:Nat→Val→Prop
 | 0,_=>False
 | n+1,v=>(∀ x∈v.lst,sv n x)∧∀ x∈v.fields,sv n x.value
theorem ia:∀ (n:Nat) (v:Val),sv n v→sv (n+1) v
 | 0,_,h=>h.elim
 | n+1,v,h=>⟨fun x hx=>ia n x (h.1 x hx),fun x hx=>ia n x.value (h.2 x hx)⟩
theorem jL {n m:Nat}(h:n≤m){v:Val}(hv:sv n v):sv m v:=by
 induction h with
 | refl=>exact hv
 | step _ ih=>exact ia _ _ ih
theorem nM {α:Type}(g:α→Val):∀ l:List α,(∀ x∈l,∃ n,sv n (g x))→∃ n,∀ x∈l,sv n (g x)
 | [],_=>⟨0,by simp⟩
 | x::r,h=>by
   obtain⟨n,hn⟩:=h x (by simp)
   obtain⟨m,hm⟩:=nM g r fun y hy=>h y (List.mem_cons_of_mem _ hy)
   refine⟨max n m,fun y hy=>?_⟩
   rcases List.mem_cons.1 hy with rfl | hy
   ·exact jL (Nat.le_max_left _ _) hn
   ·exact jL (Nat.le_max_right _ _) (hm y hy)
theorem jM (v:Val):∃ n,sv n v:=by
 obtain⟨k,n,s,t,l,fs⟩:=v
 have h1:∀ x∈l,∃ n,sv n x:=fun x hx=>jM x
 have h2:∀ x∈fs,∃ n,sv n x.value:=fun x hx=>by
  obtain⟨nm,y⟩:=x
  exact jM y
 obtain⟨a,ha⟩:=nM id l h1
 obtain⟨b,hb⟩:=nM Fld.value fs h2
 exact⟨max a b+1,fun x hx=>jL (Nat.le_max_left _ _) (ha x hx),fun x hx=>jL (Nat.le_max_right _ _) (hb x hx)⟩
termination_by SizeOf.sizeOf v
decreasing_by
 ·have:=List.sizeOf_lt_of_mem hx;simp;omega
 ·have:=List.sizeOf_lt_of_mem hx;simp at this ⊢;omega
theorem jH:∀ (n:Nat) (v:Val),sv n v→gX n v
 | 0,_,h=>h
 | n+1,v,h=>fun x hx=>by
   unfold bx at hx
   split at hx
   ·exact jH n x (h.1 x hx)
   ·split at hx
    ·obtain⟨y,hy,rfl⟩:=List.mem_map.1 hx
     exact jH n _ (h.2 y hy)
    ·simp at hx
noncomputable def lvl (v:Val):Nat:=(jM v).choose
theorem FU (v:Val):sv (lvl v) v:=(jM v).choose_spec
theorem jt (v:Val):gX (lvl v) v:=jH _ v (FU v)
noncomputable def JP (v:Val):Int:=lB 0 (dg (lvl v) 1 v)
theorem GG (v:Val)(hv:v.ok):aq Tryz.prog aA 74 [v.pv] (.int .i64 (JP v)):=jI _ v (jt v) hv
theorem oY:∀ (xs:List (Int×Val)) (i:Nat),i≤4096→lB i xs=0→i+xs.length≤4096
 | [],i,h,_=>by simpa using h
 | q::r,i,h,h0=>by
   rw[lB] at h0
   by_cases h1:aS i q=0
   ·rw[if_pos h1] at h0
    have hi:¬ 4096≤i:=fun hh=>by rw[Ey hh] at h1;cases h1
    have:=oY r (i+1) (by omega) h0
    rw[List.length_cons];omega
   ·rw[if_neg h1] at h0;exact absurd h0 h1
end Go.Proofs.YtfepkhlgopjaoaaGreatDoor
-- many steps
namespace Go.Proofs.YtfepkhlgopjaoaaGreatDoor
open Go Go.Ab
attribute [local irreducible] vc
theorem ED (n:Nat)(v:Val)(hd:gX n v)(hv:v.ok)(hs:(dg n 1 v).length≤9223372036854775806):aq Tryz.prog aA 82 [v.pv] (.int .i64 ((dg n 1 v).length:Int)):=by
 have hseq:=fx n v hd hv
 have h243:=gA v
 generalize hxs:dg n 1 v=xs at *
 obtain⟨k,a,s,t,l,fs⟩:=v
 simp only[Val.pv_mk] at h243 hseq
 refine aq.intro KA (by simp[F82]) ?_
 simp(maxSteps:=9^7) (disch:=try exact dI) only[F82,Val.pv_mk,push_cast,seval]
 refine ab.pure h243 rfl ?_
 simp(maxSteps:=9^7) (disch:=try exact dI) only[push_cast,seval]
 refine Dh ([]) (fun i:Nat=>[]) (fun i:Nat=>[(0,.cells 3 true [.pv (.int .i64 (i:Int))])]) (fun j i=>j=i∧i≤xs.length) (0) (hseq) ?_;intro e0 σ0 n0 h0;simp(maxSteps:=9^7) (disch:=try exact dI) only[push_cast,seval] at h0;obtain⟨rfl,rfl,rfl⟩:=h0;refine⟨?_,?_,?_,?_,?_⟩
 ·simp(maxSteps:=9^7) (disch:=try exact dI) only[push_cast,seval]
 ·exact⟨rfl,by omega⟩
 ·rfl
 ·rintro j i y hy ⟨hij,hi⟩
  subst hij
  have hjl:j<xs.length:=by
   have:=(List.getElem?_eq_some_iff.1 hy).1
   simpa using this
  obtain⟨q,hq⟩:∃ q,xs[j]? = some q:=⟨_,List.getElem?_eq_getElem hjl⟩
  have hye:y=sI q:=by simpa[hq] using hy.symm
  subst hye
  obtain⟨lv,⟨k',n',s',t',l',f'⟩⟩:=q
  refine⟨rfl,?_⟩
  simp only[sI,Val.pv_mk]
  clear hy h243 hseq
  simp(maxSteps:=9^7) (disch:=try exact dI) only[push_cast,seval]
  exact⟨j+1,bQ qsZ,rfl,by omega⟩
 ·rintro j ⟨hj,hi⟩
  simp only[List.length_map] at hj
  subst hj
  simp(maxSteps:=9^7) (disch:=try exact dI) only[push_cast,seval]
end Go.Proofs.YtfepkhlgopjaoaaGreatDoor
