/- A part. -/
import Derived.Test.YtngchmkoadaecaaGreatDoorClJR5
set_option linter.unusedVariables false
set_option linter.unusedSimpArgs false
set_option maxHeartbeats 16000000
set_option maxRecDepth 100000
open List renaming getElem?_eq_some_iff->Ur,length_map->U0
namespace Go.Proofs.YtngchmkoadaecaaGreatDoor
open Go Go.Ab
attribute [local irreducible] vc
def bz (i:Nat)(q:Int×Val):Int:=
 if 4096<=i then 9 else if 8<q.1 then 23 else if fB q.2=true then 19 else if q.2.kind<1\/10<q.2.kind then 11 else if eL q.2=false then 3 else b9 q.2
section
variable {i:Nat}{q:Int×Val}
theorem JM (c1:4096<=i):bz i q=9:=if_pos c1
theorem JL (c1:¬ 4096<=i)(c2:8<q.1):bz i q=23:=by unfold bz;rw[if_neg c1,if_pos c2]
theorem JK (c1:¬ 4096<=i)(c2:¬ 8<q.1)(c3:fB q.2=true):bz i q=19:=by unfold bz;rw[if_neg c1,if_neg c2,if_pos c3]
theorem JJ (c1:¬ 4096<=i)(c2:¬ 8<q.1)(c3:fB q.2=false)(c4:q.2.kind<1\/10<q.2.kind):bz i q=11:=by unfold bz;rw[if_neg c1,if_neg c2,if_neg (by rw[c3];simp),if_pos c4]
theorem JI (c1:¬ 4096<=i)(c2:¬ 8<q.1)(c3:fB q.2=false)(c4:¬ (q.2.kind<1\/10<q.2.kind))(c5:eL q.2=false):bz i q=3:=by unfold bz;rw[if_neg c1,if_neg c2,if_neg (by rw[c3];simp),if_neg c4,if_pos c5]
theorem zd (c1:¬ 4096<=i)(c2:¬ 8<q.1)(c3:fB q.2=false)(c4:¬ (q.2.kind<1\/10<q.2.kind))(c5:eL q.2=true):bz i q=b9 q.2:=by unfold bz;rw[if_neg c1,if_neg c2,if_neg (by rw[c3];simp),if_neg c4,if_neg (by rw[c5];simp)]
end
def py:Nat->List (Int×Val)->Int
 | _,[]=>0
 | i,q::r=>if bz i q=0 then py (i+1) r else bz i q
def Kb (k:Int):Nat:=if k=1 then 172 else if k=2 then 174 else if k=3 then 175 else if k=4 then 177 else if k=5 then 179 else if k=6 then 180 else if k=7 then 181 else if k=8 then 182 else if k=9 then 183 else 184
theorem Ka (v:Val)(h:1<=v.kind/\v.kind<=10):ap Tryz.prog aB (Kb v.kind) [v.pv] (.int .i64 (b9 v)):=by
 have hc:v.kind=1\/v.kind=2\/v.kind=3\/v.kind=4\/v.kind=5\/v.kind=6\/v.kind=7\/v.kind=8\/v.kind=9\/v.kind=10:=by omega
 rcases hc with h | h | h | h | h | h | h | h | h | h<;>rw[h]
 ·exact Kl v h
 ·exact Kk v h
 ·exact Kj v h
 ·exact Ki v h
 ·exact Kh v h
 ·exact Kg v h
 ·exact Kf v h
 ·exact Ke v h
 ·exact Kd v h
 ·exact Kc v h
theorem jv {n sz r o:Nat}{k:IntKind}{i:Int}(h0:0<=i)(h1:i.toNat<n):gY n sz (.ptr r o) (.pv (.int k i))=some (.ptr r (o+i.toNat*sz)):=if_pos ⟨h0,h1⟩
theorem Jy (x:Val)(h:1<=x.kind/\x.kind<=10):ap Tryz.prog aB 159 [x.pv] (.bool (eL x)):=Jv x h
theorem Mv {xs:List (Int×Val)}{i:Nat}{q:Int×Val}(h:xs[i]? = some q):py i (xs.drop i)=if bz i q=0 then py (i+1) (xs.drop (i+1)) else bz i q:=by
 have hi:i<xs.length:=(Ur.1 h).1
 have he:xs[i]=q:=(Ur.1 h).2
 rw[List.drop_eq_getElem_cons hi,he,py]
theorem tx (n:Nat)(v:Val)(hd:kB n v)(hv:v.ok):ap Tryz.prog aB 144 [v.pv] (.int .i64 (py 0 (eS n 1 v))):=by
 have hseq:=ir n v hd hv
 have h243:=jx v
 have h242:=E3
 generalize hxs:eS n 1 v=xs at *
 obtain⟨R,hR⟩:∃ R,R=py 0 xs:=⟨_,rfl⟩
 rw[<- hR]
 obtain⟨k,a,s,t,l,fs⟩:=v
 simp only[Uo,zD] at h243 h242 hseq
 refine ap.intro SV.2 (by simp[SV]) ?_
 simp(maxSteps:=9^7) (disch:=try exact dI) only[SV,Uo,push_cast,seval]
 refine ab.pure h242 rfl ?_
 simp(maxSteps:=9^7) (disch:=try exact dI) only[A6,sy,push_cast,seval]
 refine ab.pure h243 rfl ?_
 simp(maxSteps:=9^7) (disch:=try exact dI) only[push_cast,seval]
 refine Ip ([]) (fun i:Nat=>[]) (fun i:Nat=>[(2,.cells 3 true [.pv (.int .i64 (i:Int))])]) (fun j i=>j=i/\i<=4096/\R=py i (xs.drop i)) (0) (hseq) ?_;intro e0 σ0 n0 h0;simp(maxSteps:=9^7) (disch:=try exact dI) only[push_cast,seval] at h0;obtain⟨rfl,rfl,rfl⟩:=h0;refine⟨?_,?_,?_,?_,?_⟩
 ·simp(maxSteps:=9^7) (disch:=try exact dI) only[push_cast,seval]
 ·exact⟨rfl,by omega,by simpa using hR⟩
 ·rfl
 ·rintro j i y hy ⟨hij,hj4,hr⟩
  subst hij
  obtain⟨q,hq⟩:∃ q,xs[j]? = some q:=by
   cases h:xs[j]? with
   | none=>simp[h] at hy
   | some q=>exact⟨q,rfl⟩
  have hye:y=xT q:=by simpa[hq] using hy.symm
  subst hye
  rw[Mv hq] at hr
  have hjl:j<xs.length:=(Ur.1 hq).1
  obtain⟨lv,x⟩:=q
  have h111:=Lp x
  have hrule:=Ka x
  have huse:=Jy x
  obtain⟨k',n',s',t',l',f'⟩:=x
  simp only[Uo,Val.kind] at h111 hrule huse
  refine⟨rfl,?_⟩
  simp only[xT,Uo]
  clear hy h242 h243 hseq
  by_cases c1:4096<=j
  ·have e:bz j (lv,Val.mk k' n' s' t' l' f')=9:=if_pos c1
   rw[e,if_neg (by omega)] at hr
   subst hr
   simp(maxSteps:=9^7) (disch:=try exact dI) only[push_cast,seval]
  ·have hj1:¬ (4096:Int)<(j:Int)+1:=by omega
   by_cases c2:8<lv
   ·have e:bz j (lv,Val.mk k' n' s' t' l' f')=23:=JL c1 c2
    rw[e,if_neg (by omega)] at hr
    subst hr
    simp(maxSteps:=9^7) (disch:=try exact dI) only[push_cast,seval]
   ·cases c3:fB (Val.mk k' n' s' t' l' f') with
    | true=>
      have e:bz j (lv,Val.mk k' n' s' t' l' f')=19:=JK c1 c2 c3
      rw[e,if_neg (by omega)] at hr
      subst hr
      rw[c3] at h111
      simp(maxSteps:=9^7) (disch:=try exact dI) only[push_cast,seval]
      refine ab.pure h111 rfl ?_
      simp(maxSteps:=9^7) (disch:=try exact dI) only[push_cast,seval]
    | false=>
      rw[c3] at h111
      by_cases c4:k'<1\/10<k'
      ·have e:bz j (lv,Val.mk k' n' s' t' l' f')=11:=JJ c1 c2 c3 c4
       rw[e,if_neg (by omega)] at hr
       subst hr
       rcases c4 with c4 | c4
       ·simp(maxSteps:=9^7) (disch:=try exact dI) only[push_cast,seval]
        refine ab.pure h111 rfl ?_
        simp(maxSteps:=9^7) (disch:=try exact dI) only[push_cast,seval]
       ·simp(maxSteps:=9^7) (disch:=try exact dI) only[push_cast,seval]
        refine ab.pure h111 rfl ?_
        simp(maxSteps:=9^7) (disch:=try exact dI) only[push_cast,seval]
      ·have huse:=huse (by omega)
       have hrule:=hrule (by omega)
       cases c5:eL (Val.mk k' n' s' t' l' f') with
       | false=>
         have e:bz j (lv,Val.mk k' n' s' t' l' f')=3:=JI c1 c2 c3 c4 c5
         rw[e,if_neg (by omega)] at hr
         subst hr
         rw[c5] at huse
         simp(maxSteps:=9^7) (disch:=try exact dI) only[push_cast,seval]
         refine ab.pure h111 rfl ?_
         simp(maxSteps:=9^7) (disch:=try exact dI) only[push_cast,seval]
         refine ab.pure huse rfl ?_
         simp(maxSteps:=9^7) (disch:=try exact dI) only[push_cast,seval]
       | true=>
         have e:bz j (lv,Val.mk k' n' s' t' l' f')=b9 (Val.mk k' n' s' t' l' f'):=zd c1 c2 c3 c4 c5
         rw[e] at hr
         rw[c5] at huse
         generalize b9 (Val.mk k' n' s' t' l' f')=z at hr hrule
         have hkc:([AV.pv PV.nilf,AV.pv (PV.clo 172 [] []),AV.pv (PV.clo 174 [] []),AV.pv (PV.clo 175 [] []),AV.pv (PV.clo 177 [] []),AV.pv (PV.clo 179 [] []),AV.pv (PV.clo 180 [] []),AV.pv (PV.clo 181 [] []),AV.pv (PV.clo 182 [] []),AV.pv (PV.clo 183 [] []),AV.pv (PV.clo 184 [] [])]:List AV)[k'.toNat*1]? = some (.pv (.clo (Kb k') [] [])):=by
          have hc:k'=1\/k'=2\/k'=3\/k'=4\/k'=5\/k'=6\/k'=7\/k'=8\/k'=9\/k'=10:=by omega
          rcases hc with h | h | h | h | h | h | h | h | h | h<;>rw[h]<;>rfl
         generalize Kb k'=rf at hkc hrule
         by_cases hz:z=0
         ·rw[if_pos hz] at hr
          subst hz
          simp(maxSteps:=9^7) (disch:=try exact dI) only[push_cast,seval]
          refine ab.pure h111 rfl ?_
          simp(maxSteps:=9^7) (disch:=try exact dI) only[push_cast,seval]
          refine ab.pure huse rfl ?_
          simp(maxSteps:=9^7) (disch:=try exact dI) only[jv,hkc,push_cast,seval]
          refine ab.pure hrule rfl ?_
          simp(maxSteps:=9^7) (disch:=try exact dI) only[push_cast,seval]
          exact⟨j+1,aN qsZ,rfl,by omega,hr⟩
         ·rw[if_neg hz] at hr
          subst hr
          simp(maxSteps:=9^7) (disch:=try exact dI) only[push_cast,seval]
          refine ab.pure h111 rfl ?_
          simp(maxSteps:=9^7) (disch:=try exact dI) only[push_cast,seval]
          refine ab.pure huse rfl ?_
          simp(maxSteps:=9^7) (disch:=try exact dI) only[jv,hkc,push_cast,seval]
          refine ab.pure hrule rfl ?_
          simp(maxSteps:=9^7) (disch:=try exact dI) only[push_cast,seval]
 ·rintro j ⟨hj,hj4,hr⟩
  simp only[U0] at hj
  subst hj
  rw[List.drop_length] at hr
  rw[show R=0 from hr]
  simp(maxSteps:=9^7) (disch:=try exact dI) only[push_cast,seval]
theorem JR (n:Nat)(v:Val)(hd:kB n v)(hv:v.ok)(hs:(eS n 1 v).length<=9223372036854775806):ap Tryz.prog aB 146 [v.pv] (.int .i64 ((eS n 1 v).length:Int)):=by
 have hseq:=ir n v hd hv
 have h243:=jx v
 generalize hxs:eS n 1 v=xs at *
 obtain⟨k,a,s,t,l,fs⟩:=v
 simp only[Uo] at h243 hseq
 refine ap.intro SU.2 (by simp[SU]) ?_
 simp(maxSteps:=9^7) (disch:=try exact dI) only[SU,Uo,push_cast,seval]
 refine ab.pure h243 rfl ?_
 simp(maxSteps:=9^7) (disch:=try exact dI) only[push_cast,seval]
 refine Ip ([]) (fun i:Nat=>[]) (fun i:Nat=>[(0,.cells 3 true [.pv (.int .i64 (i:Int))])]) (fun j i=>j=i/\i<=xs.length) (0) (hseq) ?_;intro e0 σ0 n0 h0;simp(maxSteps:=9^7) (disch:=try exact dI) only[push_cast,seval] at h0;obtain⟨rfl,rfl,rfl⟩:=h0;refine⟨?_,?_,?_,?_,?_⟩
 ·simp(maxSteps:=9^7) (disch:=try exact dI) only[push_cast,seval]
 ·exact⟨rfl,by omega⟩
 ·rfl
 ·rintro j i y hy ⟨hij,hi⟩
  subst hij
  have hjl:j<xs.length:=by
   have:=(Ur.1 hy).1
   simpa using this
  obtain⟨q,hq⟩:∃ q,xs[j]? = some q:=⟨_,List.getElem?_eq_getElem hjl⟩
  have hye:y=xT q:=by simpa[hq] using hy.symm
  subst hye
  obtain⟨lv,⟨k',n',s',t',l',f'⟩⟩:=q
  refine⟨rfl,?_⟩
  simp only[xT,Uo]
  clear hy h243 hseq
  simp(maxSteps:=9^7) (disch:=try exact dI) only[push_cast,seval]
  exact⟨j+1,aN qsZ,rfl,by omega⟩
 ·rintro j ⟨hj,hi⟩
  simp only[U0] at hj
  subst hj
  simp(maxSteps:=9^7) (disch:=try exact dI) only[push_cast,seval]
