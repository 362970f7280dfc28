/- A part of the proof for DelimitedRepresentableCardSaid. -/
import Derived.Test.YtbaaokocnegdoaaGreatDoorRepVR5
set_option maxRecDepth 100000
set_option linter.unusedVariables false
set_option linter.unusedSimpArgs false
-- many steps
namespace Go.Proofs.YtbaaokocnegdoaaGreatDoor
open Go Go.Ab
attribute [local irreducible] vc
def a8 (i:Nat)(q:Int×Val):Int:=
 if 4096≤i then 9 else if 8<q.1 then 23 else if aJ q.2=true then 19 else if q.2.kind<1∨10<q.2.kind then 11 else if ag q.2=false then 3 else bt q.2
section
variable {i:Nat}{q:Int×Val}
theorem F5 (c1:¬ 4096≤i)(c2:8<q.1):a8 i q=23:=by unfold a8;rw[if_neg c1,if_pos c2]
theorem F3 (c1:¬ 4096≤i)(c2:¬ 8<q.1)(c3:aJ q.2=true):a8 i q=19:=by unfold a8;rw[if_neg c1,if_neg c2,if_pos c3]
theorem F2 (c1:¬ 4096≤i)(c2:¬ 8<q.1)(c3:aJ q.2=false)(c4:q.2.kind<1∨10<q.2.kind):a8 i q=11:=by unfold a8;rw[if_neg c1,if_neg c2,if_neg (by rw[c3];simp),if_pos c4]
theorem F1 (c1:¬ 4096≤i)(c2:¬ 8<q.1)(c3:aJ q.2=false)(c4:¬ (q.2.kind<1∨10<q.2.kind))(c5:ag q.2=false):a8 i q=3:=by unfold a8;rw[if_neg c1,if_neg c2,if_neg (by rw[c3];simp),if_neg c4,if_pos c5]
theorem vC (c1:¬ 4096≤i)(c2:¬ 8<q.1)(c3:aJ q.2=false)(c4:¬ (q.2.kind<1∨10<q.2.kind))(c5:ag q.2=true):a8 i q=bt q.2:=by unfold a8;rw[if_neg c1,if_neg c2,if_neg (by rw[c3];simp),if_neg c4,if_neg (by rw[c5];simp)]
end
def gQ:Nat→List (Int×Val)→Int
 | _,[]=>0
 | i,q::r=>if a8 i q=0 then gQ (i+1) r else a8 i q
def Gq (k:Int):Nat:=if k=1 then 268 else if k=2 then 270 else if k=3 then 271 else if k=4 then 273 else if k=5 then 275 else if k=6 then 276 else if k=7 then 277 else if k=8 then 278 else if k=9 then 279 else 280
theorem Gp (v:Val)(h:1≤v.kind∧v.kind≤10):ak Tryz.prog aD (Gq v.kind) [v.pv] (.int .i64 (bt v)):=by
 have hc:v.kind=1∨v.kind=2∨v.kind=3∨v.kind=4∨v.kind=5∨v.kind=6∨v.kind=7∨v.kind=8∨v.kind=9∨v.kind=10:=by omega
 rcases hc with h | h | h | h | h | h | h | h | h | h<;>rw[h]
 ·exact GA v h
 ·exact Gz v h
 ·exact Gy v h
 ·exact Gx v h
 ·exact Gw v h
 ·exact Gv v h
 ·exact Gu v h
 ·exact Gt v h
 ·exact Gs v h
 ·exact Gr v h
theorem iK {n sz r o:Nat}{k:IntKind}{i:Int}(h0:0≤i)(h1:i.toNat<n):fX n sz (.ptr r o) (.pv (.int k i))=some (.ptr r (o+i.toNat*sz)):=if_pos ⟨h0,h1⟩
theorem FT (x:Val)(h:1≤x.kind∧x.kind≤10):ak Tryz.prog aD 244 [x.pv] (.bool (ag x)):=FQ x h
theorem H0 {xs:List (Int×Val)}{i:Nat}{q:Int×Val}(h:xs[i]? = some q):gQ i (xs.drop i)=if a8 i q=0 then gQ (i+1) (xs.drop (i+1)) else a8 i q:=by
 have hi:i<xs.length:=(List.getElem?_eq_some_iff.1 h).1
 have he:xs[i]=q:=(List.getElem?_eq_some_iff.1 h).2
 rw[List.drop_eq_getElem_cons hi,he,gQ]
set_option maxHeartbeats 4000000 in
theorem qE (n:Nat)(v:Val)(hd:ce n v)(hv:v.ok)(hn:n≤9223372036854775806):ak Tryz.prog aD 192 [v.pv] (.int .i64 (gQ 0 (bX n 1 v))):=by
 have hseq:=gx n v hd hv hn
 have h243:=iM v
 have h242:=BB
 generalize hxs:bX n 1 v=xs at *
 obtain⟨R,hR⟩:∃ R,R=gQ 0 xs:=⟨_,rfl⟩
 rw[← hR]
 obtain⟨k,a,s,t,l,fs⟩:=v
 simp only[Val.pv_mk,vO] at h243 h242 hseq
 refine ak.intro I9 (by simp[NU]) ?_
 simp(maxSteps:=9^7) (disch:=first|exact dI|fail) only[NU,Val.pv_mk,push_cast,seval]
 refine ab.pure h242 rfl ?_
 simp(maxSteps:=9^7) (disch:=first|exact dI|fail) only[xo,pR,push_cast,seval]
 refine ab.pure h243 rfl ?_
 simp(maxSteps:=9^7) (disch:=first|exact dI|fail) only[push_cast,seval]
 refine EP ([]) (fun i:Nat=>[]) (fun i:Nat=>[(2,.cells 3 true [.pv (.int .i64 (i:Int))])]) (fun j i=>j=i∧i≤4096∧R=gQ i (xs.drop i)) (0) (hseq) ?_;intro e0 σ0 n0 h0;simp(maxSteps:=9^7) (disch:=first|exact dI|fail) only[push_cast,seval] at h0;obtain⟨rfl,rfl,rfl⟩:=h0;refine⟨?_,?_,?_,?_,?_⟩
 ·simp(maxSteps:=9^7) (disch:=first|exact dI|fail) only[push_cast,seval]
 ·exact⟨rfl,by omega,by simpa using hR⟩
 ·rfl
 ·rintro j i y hy ⟨hij,hj4,hr⟩
  subst hij
  obtain⟨q,hq⟩:∃ q,xs[j]? = some q:=by
   cases h:xs[j]? with
   | none=>simp[h] at hy
   | some q=>exact⟨q,rfl⟩
  have hye:y=up q:=by simpa[hq] using hy.symm
  subst hye
  rw[H0 hq] at hr
  have hjl:j<xs.length:=(List.getElem?_eq_some_iff.1 hq).1
  obtain⟨lv,x⟩:=q
  have h111:=G9 x
  have hrule:=Gp x
  have huse:=FT x
  obtain⟨k',n',s',t',l',f'⟩:=x
  simp only[Val.pv_mk,Val.kind] at h111 hrule huse
  refine⟨rfl,?_⟩
  simp only[up,Val.pv_mk]
  clear hy h242 h243 hseq
  by_cases c1:4096≤j
  ·have e:a8 j (lv,Val.mk k' n' s' t' l' f')=9:=if_pos c1
   rw[e,if_neg (by omega)] at hr
   subst hr
   simp(maxSteps:=9^7) (disch:=first|exact dI|fail) only[push_cast,seval]
  ·have hj1:¬ (4096:Int)<(j:Int)+1:=by omega
   by_cases c2:8<lv
   ·have e:a8 j (lv,Val.mk k' n' s' t' l' f')=23:=F5 c1 c2
    rw[e,if_neg (by omega)] at hr
    subst hr
    simp(maxSteps:=9^7) (disch:=first|exact dI|fail) only[push_cast,seval]
   ·cases c3:aJ (Val.mk k' n' s' t' l' f') with
    | true=>
      have e:a8 j (lv,Val.mk k' n' s' t' l' f')=19:=F3 c1 c2 c3
      rw[e,if_neg (by omega)] at hr
      subst hr
      rw[c3] at h111
      simp(maxSteps:=9^7) (disch:=first|exact dI|fail) only[push_cast,seval]
      refine ab.pure h111 rfl ?_
      simp(maxSteps:=9^7) (disch:=first|exact dI|fail) only[push_cast,seval]
    | false=>
      rw[c3] at h111
      by_cases c4:k'<1∨10<k'
      ·have e:a8 j (lv,Val.mk k' n' s' t' l' f')=11:=F2 c1 c2 c3 c4
       rw[e,if_neg (by omega)] at hr
       subst hr
       rcases c4 with c4 | c4
       ·simp(maxSteps:=9^7) (disch:=first|exact dI|fail) only[push_cast,seval]
        refine ab.pure h111 rfl ?_
        simp(maxSteps:=9^7) (disch:=first|exact dI|fail) only[push_cast,seval]
       ·simp(maxSteps:=9^7) (disch:=first|exact dI|fail) only[push_cast,seval]
        refine ab.pure h111 rfl ?_
        simp(maxSteps:=9^7) (disch:=first|exact dI|fail) only[push_cast,seval]
      ·have huse:=huse (by omega)
       have hrule:=hrule (by omega)
       cases c5:ag (Val.mk k' n' s' t' l' f') with
       | false=>
         have e:a8 j (lv,Val.mk k' n' s' t' l' f')=3:=F1 c1 c2 c3 c4 c5
         rw[e,if_neg (by omega)] at hr
         subst hr
         rw[c5] at huse
         simp(maxSteps:=9^7) (disch:=first|exact dI|fail) only[push_cast,seval]
         refine ab.pure h111 rfl ?_
         simp(maxSteps:=9^7) (disch:=first|exact dI|fail) only[push_cast,seval]
         refine ab.pure huse rfl ?_
         simp(maxSteps:=9^7) (disch:=first|exact dI|fail) only[push_cast,seval]
       | true=>
         have e:a8 j (lv,Val.mk k' n' s' t' l' f')=bt (Val.mk k' n' s' t' l' f'):=vC c1 c2 c3 c4 c5
         rw[e] at hr
         rw[c5] at huse
         generalize bt (Val.mk k' n' s' t' l' f')=z at hr hrule
         have hkc:([AV.pv PV.nilf,AV.pv (PV.clo 268 [] []),AV.pv (PV.clo 270 [] []),AV.pv (PV.clo 271 [] []),AV.pv (PV.clo 273 [] []),AV.pv (PV.clo 275 [] []),AV.pv (PV.clo 276 [] []),AV.pv (PV.clo 277 [] []),AV.pv (PV.clo 278 [] []),AV.pv (PV.clo 279 [] []),AV.pv (PV.clo 280 [] [])]:List AV)[k'.toNat*1]? = some (.pv (.clo (Gq k') [] [])):=by
          have hc:k'=1∨k'=2∨k'=3∨k'=4∨k'=5∨k'=6∨k'=7∨k'=8∨k'=9∨k'=10:=by omega
          rcases hc with h | h | h | h | h | h | h | h | h | h<;>rw[h]<;>rfl
         generalize Gq k'=rf at hkc hrule
         by_cases hz:z=0
         ·rw[if_pos hz] at hr
          subst hz
          simp(maxSteps:=9^7) (disch:=first|exact dI|fail) only[push_cast,seval]
          refine ab.pure h111 rfl ?_
          simp(maxSteps:=9^7) (disch:=first|exact dI|fail) only[push_cast,seval]
          refine ab.pure huse rfl ?_
          simp(maxSteps:=9^7) (disch:=first|exact dI|fail) only[iK,hkc,push_cast,seval]
          refine ab.pure hrule rfl ?_
          simp(maxSteps:=9^7) (disch:=first|exact dI|fail) only[push_cast,seval]
          exact⟨j+1,bg (by simp(maxSteps:=9^7) (disch:=first|exact dI|fail) only[push_cast,seval]),rfl,by omega,hr⟩
         ·rw[if_neg hz] at hr
          subst hr
          simp(maxSteps:=9^7) (disch:=first|exact dI|fail) only[push_cast,seval]
          refine ab.pure h111 rfl ?_
          simp(maxSteps:=9^7) (disch:=first|exact dI|fail) only[push_cast,seval]
          refine ab.pure huse rfl ?_
          simp(maxSteps:=9^7) (disch:=first|exact dI|fail) only[iK,hkc,push_cast,seval]
          refine ab.pure hrule rfl ?_
          simp(maxSteps:=9^7) (disch:=first|exact dI|fail) only[push_cast,seval]
 ·rintro j ⟨hj,hj4,hr⟩
  simp only[List.length_map] at hj
  subst hj
  rw[List.drop_length] at hr
  rw[show R=0 from hr]
  simp(maxSteps:=9^7) (disch:=first|exact dI|fail) only[push_cast,seval]
end Go.Proofs.YtbaaokocnegdoaaGreatDoor
set_option maxRecDepth 100000
set_option linter.unusedVariables false
set_option linter.unusedSimpArgs false
-- many steps
namespace Go.Proofs.YtbaaokocnegdoaaGreatDoor
open Go Go.Ab
attribute [local irreducible] vc
theorem F8 (n:Nat)(v:Val)(hd:ce n v)(hv:v.ok)(hn:n≤9223372036854775806)(hs:(bX n 1 v).length≤9223372036854775806):ak Tryz.prog aD 194 [v.pv] (.int .i64 ((bX n 1 v).length:Int)):=by
 have hseq:=gx n v hd hv hn
 have h243:=iM v
 generalize hxs:bX n 1 v=xs at *
 obtain⟨k,a,s,t,l,fs⟩:=v
 simp only[Val.pv_mk] at h243 hseq
 refine ak.intro I7 (by simp[NT]) ?_
 simp(maxSteps:=9^7) (disch:=first|exact dI|fail) only[NT,Val.pv_mk,push_cast,seval]
 refine ab.pure h243 rfl ?_
 simp(maxSteps:=9^7) (disch:=first|exact dI|fail) only[push_cast,seval]
 refine EP ([]) (fun i:Nat=>[]) (fun i:Nat=>[(0,.cells 3 true [.pv (.int .i64 (i:Int))])]) (fun j i=>j=i∧i≤xs.length) (0) (hseq) ?_;intro e0 σ0 n0 h0;simp(maxSteps:=9^7) (disch:=first|exact dI|fail) only[push_cast,seval] at h0;obtain⟨rfl,rfl,rfl⟩:=h0;refine⟨?_,?_,?_,?_,?_⟩
 ·simp(maxSteps:=9^7) (disch:=first|exact dI|fail) only[push_cast,seval]
 ·exact⟨rfl,by omega⟩
 ·rfl
 ·rintro j i y hy ⟨hij,hi⟩
  subst hij
  have hjl:j<xs.length:=by
   have:=(List.getElem?_eq_some_iff.1 hy).1
   simpa using this
  obtain⟨q,hq⟩:∃ q,xs[j]? = some q:=⟨_,List.getElem?_eq_getElem hjl⟩
  have hye:y=up q:=by simpa[hq] using hy.symm
  subst hye
  obtain⟨lv,⟨k',n',s',t',l',f'⟩⟩:=q
  refine⟨rfl,?_⟩
  simp only[up,Val.pv_mk]
  clear hy h243 hseq
  simp(maxSteps:=9^7) (disch:=first|exact dI|fail) only[push_cast,seval]
  exact⟨j+1,bg (by simp(maxSteps:=9^7) (disch:=first|exact dI|fail) only[push_cast,seval]),rfl,by omega⟩
 ·rintro j ⟨hj,hi⟩
  simp only[List.length_map] at hj
  subst hj
  simp(maxSteps:=9^7) (disch:=first|exact dI|fail) only[push_cast,seval]
end Go.Proofs.YtbaaokocnegdoaaGreatDoor
