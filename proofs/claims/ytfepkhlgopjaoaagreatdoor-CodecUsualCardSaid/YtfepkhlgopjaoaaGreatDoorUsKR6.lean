/- A part of the proof for CodecUsualCardSaid. -/
import Derived.Test.YtfepkhlgopjaoaaGreatDoorUsKR5
set_option linter.unusedVariables false
set_option linter.unusedSimpArgs false
set_option maxRecDepth 100000
-- many steps
namespace Go.Proofs.YtfepkhlgopjaoaaGreatDoor
open Go Go.Ab
attribute [local irreducible] vc
def aT (i:Nat)(q:Int×Val):Int:=
 if 4096≤i then 9 else if 8<q.1 then 23 else if dU q.2=true then 19 else if q.2.kind<1∨10<q.2.kind then 11 else if di q.2=false then 3 else bi q.2
section
variable {i:Nat}{q:Int×Val}
theorem E2 (c1:4096≤i):aT i q=9:=if_pos c1
theorem E1 (c1:¬ 4096≤i)(c2:8<q.1):aT i q=23:=by unfold aT;rw[if_neg c1,if_pos c2]
theorem E0 (c1:¬ 4096≤i)(c2:¬ 8<q.1)(c3:dU q.2=true):aT i q=19:=by unfold aT;rw[if_neg c1,if_neg c2,if_pos c3]
theorem EZ (c1:¬ 4096≤i)(c2:¬ 8<q.1)(c3:dU q.2=false)(c4:q.2.kind<1∨10<q.2.kind):aT i q=11:=by unfold aT;rw[if_neg c1,if_neg c2,if_neg (by rw[c3];simp),if_pos c4]
theorem EY (c1:¬ 4096≤i)(c2:¬ 8<q.1)(c3:dU q.2=false)(c4:¬ (q.2.kind<1∨10<q.2.kind))(c5:di q.2=false):aT i q=3:=by unfold aT;rw[if_neg c1,if_neg c2,if_neg (by rw[c3];simp),if_neg c4,if_pos c5]
theorem ue (c1:¬ 4096≤i)(c2:¬ 8<q.1)(c3:dU q.2=false)(c4:¬ (q.2.kind<1∨10<q.2.kind))(c5:di q.2=true):aT i q=bi q.2:=by unfold aT;rw[if_neg c1,if_neg c2,if_neg (by rw[c3];simp),if_neg c4,if_neg (by rw[c5];simp)]
end
def lP:Nat→List (Int×Val)→Int
 | _,[]=>0
 | i,q::r=>if aT i q=0 then lP (i+1) r else aT i q
def Fq (k:Int):Nat:=if k=1 then 212 else if k=2 then 214 else if k=3 then 215 else if k=4 then 217 else if k=5 then 220 else if k=6 then 221 else if k=7 then 222 else if k=8 then 223 else if k=9 then 224 else 225
theorem Fp (v:Val)(h:1≤v.kind∧v.kind≤10):ap Tryz.prog az (Fq v.kind) [v.pv] (.int .i64 (bi v)):=by
 have hc:v.kind=1∨v.kind=2∨v.kind=3∨v.kind=4∨v.kind=5∨v.kind=6∨v.kind=7∨v.kind=8∨v.kind=9∨v.kind=10:=by omega
 rcases hc with h | h | h | h | h | h | h | h | h | h<;>rw[h]
 ·exact FA v h
 ·exact Fz v h
 ·exact Fy v h
 ·exact Fx v h
 ·exact Fw v h
 ·exact Fv v h
 ·exact Fu v h
 ·exact Ft v h
 ·exact Fs v h
 ·exact Fr v h
theorem gG {n sz r o:Nat}{k:IntKind}{i:Int}(h0:0≤i)(h1:i.toNat<n):fa n sz (.ptr r o) (.pv (.int k i))=some (.ptr r (o+i.toNat*sz)):=if_pos ⟨h0,h1⟩
theorem ES (x:Val)(h:1≤x.kind∧x.kind≤10):ap Tryz.prog az 135 [x.pv] (.bool (di x)):=EQ x h
theorem Hc {xs:List (Int×Val)}{i:Nat}{q:Int×Val}(h:xs[i]? = some q):lP i (xs.drop i)=if aT i q=0 then lP (i+1) (xs.drop (i+1)) else aT i q:=by
 have hi:i<xs.length:=(List.getElem?_eq_some_iff.1 h).1
 have he:xs[i]=q:=(List.getElem?_eq_some_iff.1 h).2
 rw[List.drop_eq_getElem_cons hi,he,lP]
set_option maxHeartbeats 4000000 in
theorem jR (n:Nat)(v:Val)(hd:g8 n v)(hv:v.ok):ap Tryz.prog az 74 [v.pv] (.int .i64 (lP 0 (dj n 1 v))):=by
 have hseq:=fE n v hd hv
 have h243:=gI v
 have h242:=AL
 generalize hxs:dj n 1 v=xs at *
 obtain⟨R,hR⟩:∃ R,R=lP 0 xs:=⟨_,rfl⟩
 rw[← hR]
 obtain⟨k,a,s,t,l,fs⟩:=v
 simp only[Val.pv_mk,uu] at h243 h242 hseq
 refine ap.intro La (by simp[F74]) ?_
 simp(maxSteps:=9^7) (disch:=try exact dI) only[F74,Val.pv_mk,push_cast,seval]
 refine ae.pure h242 rfl ?_
 simp(maxSteps:=9^7) (disch:=try exact dI) only[vT,oN,push_cast,seval]
 refine ae.pure h243 rfl ?_
 simp(maxSteps:=9^7) (disch:=try exact dI) only[push_cast,seval]
 refine DI ([]) (fun i:Nat=>[]) (fun i:Nat=>[(2,.cells 3 true [.pv (.int .i64 (i:Int))])]) (fun j i=>j=i∧i≤4096∧R=lP i (xs.drop i)) (0) (hseq) ?_;intro e0 σ0 n0 h0;simp(maxSteps:=9^7) (disch:=try exact dI) only[push_cast,seval] at h0;obtain⟨rfl,rfl,rfl⟩:=h0;refine⟨?_,?_,?_,?_,?_⟩
 ·simp(maxSteps:=9^7) (disch:=try exact dI) only[push_cast,seval]
 ·exact⟨rfl,by omega,by simpa using hR⟩
 ·rfl
 ·rintro j i y hy ⟨hij,hj4,hr⟩
  subst hij
  obtain⟨q,hq⟩:∃ q,xs[j]? = some q:=by
   cases h:xs[j]? with
   | none=>simp[h] at hy
   | some q=>exact⟨q,rfl⟩
  have hye:y=tc q:=by simpa[hq] using hy.symm
  subst hye
  rw[Hc hq] at hr
  have hjl:j<xs.length:=(List.getElem?_eq_some_iff.1 hq).1
  obtain⟨lv,x⟩:=q
  have h111:=Gf x
  have hrule:=Fp x
  have huse:=ES x
  obtain⟨k',n',s',t',l',f'⟩:=x
  simp only[Val.pv_mk,Val.kind] at h111 hrule huse
  refine⟨rfl,?_⟩
  simp only[tc,Val.pv_mk]
  clear hy h242 h243 hseq
  by_cases c1:4096≤j
  ·have e:aT j (lv,Val.mk k' n' s' t' l' f')=9:=if_pos c1
   rw[e,if_neg (by omega)] at hr
   subst hr
   simp(maxSteps:=9^7) (disch:=try exact dI) only[push_cast,seval]
  ·have hj1:¬ (4096:Int)<(j:Int)+1:=by omega
   by_cases c2:8<lv
   ·have e:aT j (lv,Val.mk k' n' s' t' l' f')=23:=E1 c1 c2
    rw[e,if_neg (by omega)] at hr
    subst hr
    simp(maxSteps:=9^7) (disch:=try exact dI) only[push_cast,seval]
   ·cases c3:dU (Val.mk k' n' s' t' l' f') with
    | true=>
      have e:aT j (lv,Val.mk k' n' s' t' l' f')=19:=E0 c1 c2 c3
      rw[e,if_neg (by omega)] at hr
      subst hr
      rw[c3] at h111
      simp(maxSteps:=9^7) (disch:=try exact dI) only[push_cast,seval]
      refine ae.pure h111 rfl ?_
      simp(maxSteps:=9^7) (disch:=try exact dI) only[push_cast,seval]
    | false=>
      rw[c3] at h111
      by_cases c4:k'<1∨10<k'
      ·have e:aT j (lv,Val.mk k' n' s' t' l' f')=11:=EZ c1 c2 c3 c4
       rw[e,if_neg (by omega)] at hr
       subst hr
       rcases c4 with c4 | c4
       ·simp(maxSteps:=9^7) (disch:=try exact dI) only[push_cast,seval]
        refine ae.pure h111 rfl ?_
        simp(maxSteps:=9^7) (disch:=try exact dI) only[push_cast,seval]
       ·simp(maxSteps:=9^7) (disch:=try exact dI) only[push_cast,seval]
        refine ae.pure h111 rfl ?_
        simp(maxSteps:=9^7) (disch:=try exact dI) only[push_cast,seval]
      ·have huse:=huse (by omega)
       have hrule:=hrule (by omega)
       cases c5:di (Val.mk k' n' s' t' l' f') with
       | false=>
         have e:aT j (lv,Val.mk k' n' s' t' l' f')=3:=EY c1 c2 c3 c4 c5
         rw[e,if_neg (by omega)] at hr
         subst hr
         rw[c5] at huse
         simp(maxSteps:=9^7) (disch:=try exact dI) only[push_cast,seval]
         refine ae.pure h111 rfl ?_
         simp(maxSteps:=9^7) (disch:=try exact dI) only[push_cast,seval]
         refine ae.pure huse rfl ?_
         simp(maxSteps:=9^7) (disch:=try exact dI) only[push_cast,seval]
       | true=>
         have e:aT j (lv,Val.mk k' n' s' t' l' f')=bi (Val.mk k' n' s' t' l' f'):=ue c1 c2 c3 c4 c5
         rw[e] at hr
         rw[c5] at huse
         generalize bi (Val.mk k' n' s' t' l' f')=z at hr hrule
         have hkc:([AV.pv PV.nilf,AV.pv (PV.clo 212 [] []),AV.pv (PV.clo 214 [] []),AV.pv (PV.clo 215 [] []),AV.pv (PV.clo 217 [] []),AV.pv (PV.clo 220 [] []),AV.pv (PV.clo 221 [] []),AV.pv (PV.clo 222 [] []),AV.pv (PV.clo 223 [] []),AV.pv (PV.clo 224 [] []),AV.pv (PV.clo 225 [] [])]:List AV)[k'.toNat*1]? = some (.pv (.clo (Fq k') [] [])):=by
          have hc:k'=1∨k'=2∨k'=3∨k'=4∨k'=5∨k'=6∨k'=7∨k'=8∨k'=9∨k'=10:=by omega
          rcases hc with h | h | h | h | h | h | h | h | h | h<;>rw[h]<;>rfl
         generalize Fq k'=rf at hkc hrule
         by_cases hz:z=0
         ·rw[if_pos hz] at hr
          subst hz
          simp(maxSteps:=9^7) (disch:=try exact dI) only[push_cast,seval]
          refine ae.pure h111 rfl ?_
          simp(maxSteps:=9^7) (disch:=try exact dI) only[push_cast,seval]
          refine ae.pure huse rfl ?_
          simp(maxSteps:=9^7) (disch:=try exact dI) only[gG,hkc,push_cast,seval]
          refine ae.pure hrule rfl ?_
          simp(maxSteps:=9^7) (disch:=try exact dI) only[push_cast,seval]
          exact⟨j+1,bH qsZ,rfl,by omega,hr⟩
         ·rw[if_neg hz] at hr
          subst hr
          simp(maxSteps:=9^7) (disch:=try exact dI) only[push_cast,seval]
          refine ae.pure h111 rfl ?_
          simp(maxSteps:=9^7) (disch:=try exact dI) only[push_cast,seval]
          refine ae.pure huse rfl ?_
          simp(maxSteps:=9^7) (disch:=try exact dI) only[gG,hkc,push_cast,seval]
          refine ae.pure hrule rfl ?_
          simp(maxSteps:=9^7) (disch:=try exact dI) only[push_cast,seval]
 ·rintro j ⟨hj,hj4,hr⟩
  simp only[List.length_map] at hj
  subst hj
  rw[List.drop_length] at hr
  rw[show R=0 from hr]
  simp(maxSteps:=9^7) (disch:=try exact dI) only[push_cast,seval]
end Go.Proofs.YtfepkhlgopjaoaaGreatDoor
namespace Go.Proofs.YtfepkhlgopjaoaaGreatDoor
open Go Go.Ab
attribute [local irreducible] vc
def sQ:Nat→Val→Prop
 | 0,_=>False
 | n+1,v=>(∀ x∈v.lst,sQ n x)∧∀ x∈v.fields,sQ n x.value
theorem ik:∀ (n:Nat) (v:Val),sQ n v→sQ (n+1) v
 | 0,_,h=>h.elim
 | n+1,v,h=>⟨fun x hx=>ik n x (h.1 x hx),fun x hx=>ik n x.value (h.2 x hx)⟩
theorem jU {n m:Nat}(h:n≤m){v:Val}(hv:sQ n v):sQ m v:=by
 induction h with
 | refl=>exact hv
 | step _ ih=>exact ik _ _ ih
theorem n7 {α:Type}(g:α→Val):∀ l:List α,(∀ x∈l,∃ n,sQ n (g x))→∃ n,∀ x∈l,sQ n (g x)
 | [],_=>⟨0,by simp⟩
 | x::r,h=>by
   obtain⟨n,hn⟩:=h x (by simp)
   obtain⟨m,hm⟩:=n7 g r fun y hy=>h y (List.mem_cons_of_mem _ hy)
   refine⟨max n m,fun y hy=>?_⟩
   rcases List.mem_cons.1 hy with rfl | hy
   ·exact jU (Nat.le_max_left _ _) hn
   ·exact jU (Nat.le_max_right _ _) (hm y hy)
theorem jV (v:Val):∃ n,sQ n v:=by
 obtain⟨k,n,s,t,l,fs⟩:=v
 have h1:∀ x∈l,∃ n,sQ n x:=fun x hx=>jV x
 have h2:∀ x∈fs,∃ n,sQ n x.value:=fun x hx=>by
  obtain⟨nm,y⟩:=x
  exact jV y
 obtain⟨a,ha⟩:=n7 id l h1
 obtain⟨b,hb⟩:=n7 Fld.value fs h2
 exact⟨max a b+1,fun x hx=>jU (Nat.le_max_left _ _) (ha x hx),fun x hx=>jU (Nat.le_max_right _ _) (hb x hx)⟩
termination_by SizeOf.sizeOf v
decreasing_by
 ·have:=List.sizeOf_lt_of_mem hx;simp;omega
 ·have:=List.sizeOf_lt_of_mem hx;simp at this ⊢;omega
theorem jQ:∀ (n:Nat) (v:Val),sQ n v→g8 n v
 | 0,_,h=>h
 | n+1,v,h=>fun x hx=>by
   unfold bx at hx
   split at hx
   ·exact jQ n x (h.1 x hx)
   ·split at hx
    ·obtain⟨y,hy,rfl⟩:=List.mem_map.1 hx
     exact jQ n _ (h.2 y hy)
    ·simp at hx
noncomputable def lvl (v:Val):Nat:=(jV v).choose
theorem Gr (v:Val):sQ (lvl v) v:=(jV v).choose_spec
theorem jD (v:Val):g8 (lvl v) v:=jQ _ v (Gr v)
noncomputable def Ko (v:Val):Int:=lP 0 (dj (lvl v) 1 v)
theorem Hb (v:Val)(hv:v.ok):ap Tryz.prog az 74 [v.pv] (.int .i64 (Ko v)):=jR _ v (jD v) hv
theorem pp:∀ (xs:List (Int×Val)) (i:Nat),i≤4096→lP i xs=0→i+xs.length≤4096
 | [],i,h,_=>by simpa using h
 | q::r,i,h,h0=>by
   rw[lP] at h0
   by_cases h1:aT i q=0
   ·rw[if_pos h1] at h0
    have hi:¬ 4096≤i:=fun hh=>by rw[E2 hh] at h1;cases h1
    have:=pp r (i+1) (by omega) h0
    rw[List.length_cons];omega
   ·rw[if_neg h1] at h0;exact absurd h0 h1
end Go.Proofs.YtfepkhlgopjaoaaGreatDoor
-- many steps
namespace Go.Proofs.YtfepkhlgopjaoaaGreatDoor
open Go Go.Ab
attribute [local irreducible] vc
theorem E7 (n:Nat)(v:Val)(hd:g8 n v)(hv:v.ok)(hs:(dj n 1 v).length≤9223372036854775806):ap Tryz.prog az 82 [v.pv] (.int .i64 ((dj n 1 v).length:Int)):=by
 have hseq:=fE n v hd hv
 have h243:=gI v
 generalize hxs:dj n 1 v=xs at *
 obtain⟨k,a,s,t,l,fs⟩:=v
 simp only[Val.pv_mk] at h243 hseq
 refine ap.intro K6 (by simp[F82]) ?_
 simp(maxSteps:=9^7) (disch:=try exact dI) only[F82,Val.pv_mk,push_cast,seval]
 refine ae.pure h243 rfl ?_
 simp(maxSteps:=9^7) (disch:=try exact dI) only[push_cast,seval]
 refine DI ([]) (fun i:Nat=>[]) (fun i:Nat=>[(0,.cells 3 true [.pv (.int .i64 (i:Int))])]) (fun j i=>j=i∧i≤xs.length) (0) (hseq) ?_;intro e0 σ0 n0 h0;simp(maxSteps:=9^7) (disch:=try exact dI) only[push_cast,seval] at h0;obtain⟨rfl,rfl,rfl⟩:=h0;refine⟨?_,?_,?_,?_,?_⟩
 ·simp(maxSteps:=9^7) (disch:=try exact dI) only[push_cast,seval]
 ·exact⟨rfl,by omega⟩
 ·rfl
 ·rintro j i y hy ⟨hij,hi⟩
  subst hij
  have hjl:j<xs.length:=by
   have:=(List.getElem?_eq_some_iff.1 hy).1
   simpa using this
  obtain⟨q,hq⟩:∃ q,xs[j]? = some q:=⟨_,List.getElem?_eq_getElem hjl⟩
  have hye:y=tc q:=by simpa[hq] using hy.symm
  subst hye
  obtain⟨lv,⟨k',n',s',t',l',f'⟩⟩:=q
  refine⟨rfl,?_⟩
  simp only[tc,Val.pv_mk]
  clear hy h243 hseq
  simp(maxSteps:=9^7) (disch:=try exact dI) only[push_cast,seval]
  exact⟨j+1,bH qsZ,rfl,by omega⟩
 ·rintro j ⟨hj,hi⟩
  simp only[List.length_map] at hj
  subst hj
  simp(maxSteps:=9^7) (disch:=try exact dI) only[push_cast,seval]
end Go.Proofs.YtfepkhlgopjaoaaGreatDoor
