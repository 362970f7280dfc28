/- A part of the proof for FixedwidthRepresentableCardSaid. -/
import Derived.Test.YtbojpfpliibfbaaGreatDoorReRR5
set_option maxRecDepth 100000
set_option linter.unusedVariables false
set_option linter.unusedSimpArgs false
-- many steps
namespace Go.Proofs.YtbojpfpliibfbaaGreatDoor
open Go Go.Ab
attribute [local irreducible] vc
def aX (i:Nat)(q:Int×Val):Int:=
 if 4096≤i then 9 else if 8<q.1 then 23 else if aL q.2=true then 19 else if q.2.kind<1∨10<q.2.kind then 11 else if am q.2=false then 3 else bu q.2
section
variable {i:Nat}{q:Int×Val}
theorem D3 (c1:4096≤i):aX i q=9:=if_pos c1
theorem D2 (c1:¬ 4096≤i)(c2:8<q.1):aX i q=23:=by unfold aX;rw[if_neg c1,if_pos c2]
theorem D1 (c1:¬ 4096≤i)(c2:¬ 8<q.1)(c3:aL q.2=true):aX i q=19:=by unfold aX;rw[if_neg c1,if_neg c2,if_pos c3]
theorem D0 (c1:¬ 4096≤i)(c2:¬ 8<q.1)(c3:aL q.2=false)(c4:q.2.kind<1∨10<q.2.kind):aX i q=11:=by unfold aX;rw[if_neg c1,if_neg c2,if_neg (by rw[c3];simp),if_pos c4]
theorem DZ (c1:¬ 4096≤i)(c2:¬ 8<q.1)(c3:aL q.2=false)(c4:¬ (q.2.kind<1∨10<q.2.kind))(c5:am q.2=false):aX i q=3:=by unfold aX;rw[if_neg c1,if_neg c2,if_neg (by rw[c3];simp),if_neg c4,if_pos c5]
theorem tL (c1:¬ 4096≤i)(c2:¬ 8<q.1)(c3:aL q.2=false)(c4:¬ (q.2.kind<1∨10<q.2.kind))(c5:am q.2=true):aX i q=bu q.2:=by unfold aX;rw[if_neg c1,if_neg c2,if_neg (by rw[c3];simp),if_neg c4,if_neg (by rw[c5];simp)]
end
def gY:Nat→List (Int×Val)→Int
 | _,[]=>0
 | i,q::r=>if aX i q=0 then gY (i+1) r else aX i q
def Eo (k:Int):Nat:=if k=1 then 282 else if k=2 then 284 else if k=3 then 285 else if k=4 then 287 else if k=5 then 289 else if k=6 then 290 else if k=7 then 291 else if k=8 then 292 else if k=9 then 293 else 294
theorem En (v:Val)(h:1≤v.kind∧v.kind≤10):ag Tryz.prog aD (Eo v.kind) [v.pv] (.int .i64 (bu v)):=by
 have hc:v.kind=1∨v.kind=2∨v.kind=3∨v.kind=4∨v.kind=5∨v.kind=6∨v.kind=7∨v.kind=8∨v.kind=9∨v.kind=10:=by omega
 rcases hc with h | h | h | h | h | h | h | h | h | h<;>rw[h]
 ·exact EA v h
 ·exact Ez v h
 ·exact Ey v h
 ·exact Ex v h
 ·exact Ew v h
 ·exact Ev v h
 ·exact Eu v h
 ·exact Et v h
 ·exact Er v h
 ·exact Ep v h
theorem iu {n sz r o:Nat}{k:IntKind}{i:Int}(h0:0≤i)(h1:i.toNat<n):fN n sz (.ptr r o) (.pv (.int k i))=some (.ptr r (o+i.toNat*sz)):=if_pos ⟨h0,h1⟩
theorem DP (x:Val)(h:1≤x.kind∧x.kind≤10):ag Tryz.prog aD 262 [x.pv] (.bool (am x)):=DN x h
theorem FV {xs:List (Int×Val)}{i:Nat}{q:Int×Val}(h:xs[i]? = some q):gY i (xs.drop i)=if aX i q=0 then gY (i+1) (xs.drop (i+1)) else aX i q:=by
 have hi:i<xs.length:=(List.getElem?_eq_some_iff.1 h).1
 have he:xs[i]=q:=(List.getElem?_eq_some_iff.1 h).2
 rw[List.drop_eq_getElem_cons hi,he,gY]
set_option maxHeartbeats 4000000 in
theorem pG (n:Nat)(v:Val)(hd:cL n v)(hv:v.ok):ag Tryz.prog aD 233 [v.pv] (.int .i64 (gY 0 (cy n 1 v))):=by
 have hseq:=gj n v hd hv
 have h243:=ix v
 have h242:=zw
 generalize hxs:cy n 1 v=xs at *
 obtain⟨R,hR⟩:∃ R,R=gY 0 xs:=⟨_,rfl⟩
 rw[← hR]
 obtain⟨k,a,s,t,l,fs⟩:=v
 simp only[Val.pv_mk,tV] at h243 h242 hseq
 refine ag.intro GX (by simp[M6]) ?_
 simp(maxSteps:=9^7) (disch:=try exact dI) only[M6,Val.pv_mk,push_cast,seval]
 refine ab.pure h242 rfl ?_
 simp(maxSteps:=9^7) (disch:=try exact dI) only[vh,oS,push_cast,seval]
 refine ab.pure h243 rfl ?_
 simp(maxSteps:=9^7) (disch:=try exact dI) only[push_cast,seval]
 refine sZ ([]) (fun i:Nat=>[]) (fun i:Nat=>[(2,.cells 3 true [.pv (.int .i64 (i:Int))])]) (fun j i=>j=i∧i≤4096∧R=gY i (xs.drop i)) (0) (hseq) ?_;intro e0 σ0 n0 h0;simp(maxSteps:=9^7) (disch:=try exact dI) only[push_cast,seval] at h0;obtain⟨rfl,rfl,rfl⟩:=h0;refine⟨?_,?_,?_,?_,?_⟩
 ·simp(maxSteps:=9^7) (disch:=try exact dI) only[push_cast,seval]
 ·exact⟨rfl,by omega,by simpa using hR⟩
 ·rfl
 ·rintro j i y hy ⟨hij,hj4,hr⟩
  subst hij
  obtain⟨q,hq⟩:∃ q,xs[j]? = some q:=by
   cases h:xs[j]? with
   | none=>simp[h] at hy
   | some q=>exact⟨q,rfl⟩
  have hye:y=sI q:=by simpa[hq] using hy.symm
  subst hye
  rw[FV hq] at hr
  have hjl:j<xs.length:=(List.getElem?_eq_some_iff.1 hq).1
  obtain⟨lv,x⟩:=q
  have h111:=E5 x
  have hrule:=En x
  have huse:=DP x
  obtain⟨k',n',s',t',l',f'⟩:=x
  simp only[Val.pv_mk,Val.kind] at h111 hrule huse
  refine⟨rfl,?_⟩
  simp only[sI,Val.pv_mk]
  clear hy h242 h243 hseq
  by_cases c1:4096≤j
  ·have e:aX j (lv,Val.mk k' n' s' t' l' f')=9:=if_pos c1
   rw[e,if_neg (by omega)] at hr
   subst hr
   simp(maxSteps:=9^7) (disch:=try exact dI) only[push_cast,seval]
  ·have hj1:¬ (4096:Int)<(j:Int)+1:=by omega
   by_cases c2:8<lv
   ·have e:aX j (lv,Val.mk k' n' s' t' l' f')=23:=D2 c1 c2
    rw[e,if_neg (by omega)] at hr
    subst hr
    simp(maxSteps:=9^7) (disch:=try exact dI) only[push_cast,seval]
   ·cases c3:aL (Val.mk k' n' s' t' l' f') with
    | true=>
      have e:aX j (lv,Val.mk k' n' s' t' l' f')=19:=D1 c1 c2 c3
      rw[e,if_neg (by omega)] at hr
      subst hr
      rw[c3] at h111
      simp(maxSteps:=9^7) (disch:=try exact dI) only[push_cast,seval]
      refine ab.pure h111 rfl ?_
      simp(maxSteps:=9^7) (disch:=try exact dI) only[push_cast,seval]
    | false=>
      rw[c3] at h111
      by_cases c4:k'<1∨10<k'
      ·have e:aX j (lv,Val.mk k' n' s' t' l' f')=11:=D0 c1 c2 c3 c4
       rw[e,if_neg (by omega)] at hr
       subst hr
       rcases c4 with c4 | c4
       ·simp(maxSteps:=9^7) (disch:=try exact dI) only[push_cast,seval]
        refine ab.pure h111 rfl ?_
        simp(maxSteps:=9^7) (disch:=try exact dI) only[push_cast,seval]
       ·simp(maxSteps:=9^7) (disch:=try exact dI) only[push_cast,seval]
        refine ab.pure h111 rfl ?_
        simp(maxSteps:=9^7) (disch:=try exact dI) only[push_cast,seval]
      ·have huse:=huse (by omega)
       have hrule:=hrule (by omega)
       cases c5:am (Val.mk k' n' s' t' l' f') with
       | false=>
         have e:aX j (lv,Val.mk k' n' s' t' l' f')=3:=DZ c1 c2 c3 c4 c5
         rw[e,if_neg (by omega)] at hr
         subst hr
         rw[c5] at huse
         simp(maxSteps:=9^7) (disch:=try exact dI) only[push_cast,seval]
         refine ab.pure h111 rfl ?_
         simp(maxSteps:=9^7) (disch:=try exact dI) only[push_cast,seval]
         refine ab.pure huse rfl ?_
         simp(maxSteps:=9^7) (disch:=try exact dI) only[push_cast,seval]
       | true=>
         have e:aX j (lv,Val.mk k' n' s' t' l' f')=bu (Val.mk k' n' s' t' l' f'):=tL c1 c2 c3 c4 c5
         rw[e] at hr
         rw[c5] at huse
         generalize bu (Val.mk k' n' s' t' l' f')=z at hr hrule
         have hkc:([AV.pv PV.nilf,AV.pv (PV.clo 282 [] []),AV.pv (PV.clo 284 [] []),AV.pv (PV.clo 285 [] []),AV.pv (PV.clo 287 [] []),AV.pv (PV.clo 289 [] []),AV.pv (PV.clo 290 [] []),AV.pv (PV.clo 291 [] []),AV.pv (PV.clo 292 [] []),AV.pv (PV.clo 293 [] []),AV.pv (PV.clo 294 [] [])]:List AV)[k'.toNat*1]? = some (.pv (.clo (Eo k') [] [])):=by
          have hc:k'=1∨k'=2∨k'=3∨k'=4∨k'=5∨k'=6∨k'=7∨k'=8∨k'=9∨k'=10:=by omega
          rcases hc with h | h | h | h | h | h | h | h | h | h<;>rw[h]<;>rfl
         generalize Eo k'=rf at hkc hrule
         by_cases hz:z=0
         ·rw[if_pos hz] at hr
          subst hz
          simp(maxSteps:=9^7) (disch:=try exact dI) only[push_cast,seval]
          refine ab.pure h111 rfl ?_
          simp(maxSteps:=9^7) (disch:=try exact dI) only[push_cast,seval]
          refine ab.pure huse rfl ?_
          simp(maxSteps:=9^7) (disch:=try exact dI) only[iu,hkc,push_cast,seval]
          refine ab.pure hrule rfl ?_
          simp(maxSteps:=9^7) (disch:=try exact dI) only[push_cast,seval]
          exact⟨j+1,aT qsZ,rfl,by omega,hr⟩
         ·rw[if_neg hz] at hr
          subst hr
          simp(maxSteps:=9^7) (disch:=try exact dI) only[push_cast,seval]
          refine ab.pure h111 rfl ?_
          simp(maxSteps:=9^7) (disch:=try exact dI) only[push_cast,seval]
          refine ab.pure huse rfl ?_
          simp(maxSteps:=9^7) (disch:=try exact dI) only[iu,hkc,push_cast,seval]
          refine ab.pure hrule rfl ?_
          simp(maxSteps:=9^7) (disch:=try exact dI) only[push_cast,seval]
 ·rintro j ⟨hj,hj4,hr⟩
  simp only[List.length_map] at hj
  subst hj
  rw[List.drop_length] at hr
  rw[show R=0 from hr]
  simp(maxSteps:=9^7) (disch:=try exact dI) only[push_cast,seval]
end Go.Proofs.YtbojpfpliibfbaaGreatDoor
-- many steps
namespace Go.Proofs.YtbojpfpliibfbaaGreatDoor
open Go Go.Ab
attribute [local irreducible] vc
theorem D6 (n:Nat)(v:Val)(hd:cL n v)(hv:v.ok)(hs:(cy n 1 v).length≤9223372036854775806):ag Tryz.prog aD 235 [v.pv] (.int .i64 ((cy n 1 v).length:Int)):=by
 have hseq:=gj n v hd hv
 have h243:=ix v
 generalize hxs:cy n 1 v=xs at *
 obtain⟨k,a,s,t,l,fs⟩:=v
 simp only[Val.pv_mk] at h243 hseq
 refine ag.intro GV (by simp[M5]) ?_
 simp(maxSteps:=9^7) (disch:=try exact dI) only[M5,Val.pv_mk,push_cast,seval]
 refine ab.pure h243 rfl ?_
 simp(maxSteps:=9^7) (disch:=try exact dI) only[push_cast,seval]
 refine sZ ([]) (fun i:Nat=>[]) (fun i:Nat=>[(0,.cells 3 true [.pv (.int .i64 (i:Int))])]) (fun j i=>j=i∧i≤xs.length) (0) (hseq) ?_;intro e0 σ0 n0 h0;simp(maxSteps:=9^7) (disch:=try exact dI) only[push_cast,seval] at h0;obtain⟨rfl,rfl,rfl⟩:=h0;refine⟨?_,?_,?_,?_,?_⟩
 ·simp(maxSteps:=9^7) (disch:=try exact dI) only[push_cast,seval]
 ·exact⟨rfl,by omega⟩
 ·rfl
 ·rintro j i y hy ⟨hij,hi⟩
  subst hij
  have hjl:j<xs.length:=by
   have:=(List.getElem?_eq_some_iff.1 hy).1
   simpa using this
  obtain⟨q,hq⟩:∃ q,xs[j]? = some q:=⟨_,List.getElem?_eq_getElem hjl⟩
  have hye:y=sI q:=by simpa[hq] using hy.symm
  subst hye
  obtain⟨lv,⟨k',n',s',t',l',f'⟩⟩:=q
  refine⟨rfl,?_⟩
  simp only[sI,Val.pv_mk]
  clear hy h243 hseq
  simp(maxSteps:=9^7) (disch:=try exact dI) only[push_cast,seval]
  exact⟨j+1,aT qsZ,rfl,by omega⟩
 ·rintro j ⟨hj,hi⟩
  simp only[List.length_map] at hj
  subst hj
  simp(maxSteps:=9^7) (disch:=try exact dI) only[push_cast,seval]
end Go.Proofs.YtbojpfpliibfbaaGreatDoor
