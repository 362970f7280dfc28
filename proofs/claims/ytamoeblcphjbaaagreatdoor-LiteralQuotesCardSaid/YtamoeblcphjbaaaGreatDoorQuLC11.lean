/- A part of the proof for LiteralQuotesCardSaid. -/
import Derived.Test.YtamoeblcphjbaaaGreatDoorQuLC24
import Derived.Test.YtamoeblcphjbaaaGreatDoorQuLC17
set_option maxRecDepth 100000
set_option linter.unusedVariables false
set_option linter.unusedSimpArgs false
-- many steps
namespace Go.Proofs.YtamoeblcphjbaaaGreatDoor
open Go Go.Ab
attribute [local irreducible] vc
def wY (y m d h mi s ms:Int):Int×Int:=if (kx y m d).2≠0∨23<h∨59<mi∨59<s then (0,17) else ((kx y m d).1*86400000+(((60*h+mi)*60+s)*1000+ms),0)
def xb (r:List UInt8):Option Int:=
 if fl [46] r=true then (match uh 3 (r.drop 1) with
  | some p=>if p.1=0∨p.2≠[90] then none else some p.1
  | none=>none) else if r=[90] then some 0 else none
def msT:List (List UInt8):=[[],[45],[45],[84],[58],[58]]
def ksT:List Nat:=[4,2,2,2,2,2]
def cy (s:List UInt8):Int×Int:=
 match dn msT ksT s with
 | some ([y,m,d,h,mi,sec],r)=>(match xb r with
   | some ms=>wY y m d h mi sec ms
   | none=>(0,13))
 | _=>(0,13)
theorem kw {y m d:Int}(h:(kx y m d).2=0):-719162≤(kx y m d).1∧(kx y m d).1≤2932896:=by
 unfold kx at h ⊢
 split
 ·rename_i hd
  have:=jx (qv hd).1
  simp only
  omega
 ·rename_i hd
  rw[if_neg hd] at h;simp at h
theorem GD {d r:Int}(h1:-719162≤d∧d≤2932896)(h2:0≤r∧r≤86399999):aw Tryz.prog aF 194 [.int .i64 d,.int .i64 r] (.tup [.int .i64 (d*86400000+r),.int .i64 0]):=by
 have hi1:=ep h1
 have hi2:=ep h2
 refine aw.intro Kf (by simp[P9]) ?_
 simp(maxSteps:=9^7) (disch:=first|exact dI|fail) only[P9,push_cast,seval]
 refine ab.pure hi1 rfl ?_
 simp(maxSteps:=9^7) (disch:=first|exact dI|fail) only[push_cast,seval]
 refine ab.pure hi2 rfl ?_
 simp(maxSteps:=9^7) (disch:=first|exact dI|fail) only[push_cast,seval]
theorem wX {l:List UInt8}(h:(l.take 2).all isD=true):0≤jw 0 (l.take 2)∧jw 0 (l.take 2)≤99:=by
 have:=cG _ 0 (by omega) h
 have hp:10 ^ (l.take 2).length≤10 ^ 2:=Nat.pow_le_pow_right (by omega) (by simp;omega)
 omega
theorem qY {l:List UInt8}(h:(l.take 3).all isD=true):0≤jw 0 (l.take 3)∧jw 0 (l.take 3)≤999:=by
 have:=cG _ 0 (by omega) h
 have hp:10 ^ (l.take 3).length≤10 ^ 3:=Nat.pow_le_pow_right (by omega) (by simp;omega)
 omega
theorem rE3 (sz:Nat)(l:List PV):fb sz l 3=eU sz l 3 l[3]?:=rfl
theorem rE4 (sz:Nat)(l:List PV):fb sz l 4=eU sz l 4 l[4]?:=rfl
theorem rE5 (sz:Nat)(l:List PV):fb sz l 5=eU sz l 5 l[5]?:=rfl
set_option maxHeartbeats 1000000 in
theorem pq (s:List UInt8):aw Tryz.prog aF 130 [.str s] (.tup [.int .i64 (cy s).1,.int .i64 (cy s).2]):=by
 have hn:=mX s msT ksT rfl (by simp[msT]) (by simp[ksT])
 unfold cy
 cases hv:dn msT ksT s with
 | none=>
   rw[hv] at hn
   simp only[mW,msT,ksT,List.map_cons,List.map_nil,K0] at hn
   refine aw.intro bN (by simp[fk]) ?_
   simp(maxSteps:=9^7) (disch:=first|exact dI|fail) only[fk,push_cast,seval]
   refine ab.pure hn rfl ?_
   simp(maxSteps:=9^7) (disch:=first|exact dI|fail) only[push_cast,seval]
 | some p=>
   have hl:=iZ hv
   obtain⟨l,r⟩:=p
   simp only[msT] at hl
   obtain⟨y,m,d,h,mi,sec,rfl⟩:∃ y m d h mi sec,l=[y,m,d,h,mi,sec]:=by
    match l,hl with
    | [y,m,d,h,mi,sec],_=>exact⟨y,m,d,h,mi,sec,rfl⟩
   have hv':=hv
   simp only[msT,ksT] at hv'
   obtain⟨_,_,_,n1⟩:=dy hv'
   obtain⟨_,_,_,n2⟩:=dy n1
   obtain⟨_,_,_,n3⟩:=dy n2
   obtain⟨_,g4,v4,n4⟩:=dy n3
   obtain⟨_,g5,v5,n5⟩:=dy n4
   obtain⟨_,g6,v6,n6⟩:=dy n5
   have b4:=wX g4
   have b5:=wX g5
   have b6:=wX g6
   rw[← v4] at b4
   rw[← v5] at b5
   rw[← v6] at b6
   clear g4 g5 g6 v4 v5 v6 n1 n2 n3 n4 n5 n6 hv'
   rw[hv] at hn
   simp only[mW,msT,ksT,List.map_cons,List.map_nil,K0] at hn
   have hc:=se r [46]
   have hd:=GN y m d
   have hrg:=fun h=>kw (y:=y) (m:=m) (d:=d) h
   have hee:=GO y m d
   have main:∀ ms:Int,0≤ms→ms≤999→True:=fun _ _ _=>trivial
   simp only
   cases hb:fl [46] r with
   | true=>
     rw[hb] at hc
     simp only[if_true,List.length_cons,List.length_nil,Nat.zero_add] at hc
     have h3:=rz (r.drop 1) 3 (by omega)
     unfold xb
     rw[hb,if_pos rfl]
     cases hq:uh 3 (r.drop 1) with
     | none=>
       rw[hq] at h3
       simp only[Gu] at h3
       refine aw.intro bN (by simp[fk]) ?_
       simp(maxSteps:=9^7) (disch:=first|exact dI|fail) only[fk,push_cast,seval]
       refine ab.pure hn rfl ?_
       simp(maxSteps:=9^7) (disch:=first|exact dI|fail) only[push_cast,seval]
       refine ab.pure hc rfl ?_
       simp(maxSteps:=9^7) (disch:=first|exact dI|fail) only[push_cast,seval]
       refine ab.pure h3 rfl ?_
       simp(maxSteps:=9^7) (disch:=first|exact dI|fail) only[push_cast,seval]
     | some q=>
       rw[hq] at h3
       simp only[Gu] at h3
       obtain⟨ms,q⟩:=q
       simp only at h3 ⊢
       have hms:0≤ms∧ms≤999:=by
        unfold uh at hq
        split at hq
        ·rename_i hh
         cases hq
         exact qY hh.2
        ·cases hq
       by_cases hm0:ms=0
       ·rw[if_pos (Or.inl hm0)]
        subst hm0
        refine aw.intro bN (by simp[fk]) ?_
        simp(maxSteps:=9^7) (disch:=first|exact dI|fail) only[fk,push_cast,seval]
        refine ab.pure hn rfl ?_
        simp(maxSteps:=9^7) (disch:=first|exact dI|fail) only[push_cast,seval]
        refine ab.pure hc rfl ?_
        simp(maxSteps:=9^7) (disch:=first|exact dI|fail) only[push_cast,seval]
        refine ab.pure h3 rfl ?_
        simp(maxSteps:=9^7) (disch:=first|exact dI|fail) only[push_cast,seval]
       ·by_cases hq90:q=[90]
        ·subst hq90
         rw[if_neg (by simp[hm0])]
         simp only
         unfold wY
         generalize kx y m d=R at *
         obtain⟨R1,R2⟩:=R
         simp only at hd hrg hee ⊢
         rcases hee with hz | hz
         ·have hrg':=hrg hz
          subst hz
          by_cases c1:23<h
          ·rw[if_pos (Or.inr (Or.inl c1))]
           refine aw.intro bN (by simp[fk]) ?_
           simp(maxSteps:=9^7) (disch:=first|exact dI|fail) only[fk,push_cast,seval]
           refine ab.pure hn rfl ?_
           simp(maxSteps:=9^7) (disch:=first|exact dI|fail) only[push_cast,seval]
           refine ab.pure hc rfl ?_
           simp(maxSteps:=9^7) (disch:=first|exact dI|fail) only[push_cast,seval]
           refine ab.pure h3 rfl ?_
           simp(maxSteps:=9^7) (disch:=first|exact dI|fail) only[aG,rE1,rE2,rE3,rE4,rE5,push_cast,seval]
           refine ae hd rfl ?_
           simp(maxSteps:=9^7) (disch:=first|exact dI|fail) only[aG,rE1,rE2,rE3,rE4,rE5,push_cast,seval]
          by_cases c2:59<mi
          ·rw[if_pos (Or.inr (Or.inr (Or.inl c2)))]
           refine aw.intro bN (by simp[fk]) ?_
           simp(maxSteps:=9^7) (disch:=first|exact dI|fail) only[fk,push_cast,seval]
           refine ab.pure hn rfl ?_
           simp(maxSteps:=9^7) (disch:=first|exact dI|fail) only[push_cast,seval]
           refine ab.pure hc rfl ?_
           simp(maxSteps:=9^7) (disch:=first|exact dI|fail) only[push_cast,seval]
           refine ab.pure h3 rfl ?_
           simp(maxSteps:=9^7) (disch:=first|exact dI|fail) only[aG,rE1,rE2,rE3,rE4,rE5,push_cast,seval]
           refine ae hd rfl ?_
           simp(maxSteps:=9^7) (disch:=first|exact dI|fail) only[aG,rE1,rE2,rE3,rE4,rE5,push_cast,seval]
          by_cases c3:59<sec
          ·rw[if_pos (Or.inr (Or.inr (Or.inr c3)))]
           refine aw.intro bN (by simp[fk]) ?_
           simp(maxSteps:=9^7) (disch:=first|exact dI|fail) only[fk,push_cast,seval]
           refine ab.pure hn rfl ?_
           simp(maxSteps:=9^7) (disch:=first|exact dI|fail) only[push_cast,seval]
           refine ab.pure hc rfl ?_
           simp(maxSteps:=9^7) (disch:=first|exact dI|fail) only[push_cast,seval]
           refine ab.pure h3 rfl ?_
           simp(maxSteps:=9^7) (disch:=first|exact dI|fail) only[aG,rE1,rE2,rE3,rE4,rE5,push_cast,seval]
           refine ae hd rfl ?_
           simp(maxSteps:=9^7) (disch:=first|exact dI|fail) only[aG,rE1,rE2,rE3,rE4,rE5,push_cast,seval]
          rw[if_neg (by simp;omega)]
          have hj:=GD hrg' (r:=((60*h+mi)*60+sec)*1000+ms) (by omega)
          refine aw.intro bN (by simp[fk]) ?_
          simp(maxSteps:=9^7) (disch:=first|exact dI|fail) only[fk,push_cast,seval]
          refine ab.pure hn rfl ?_
          simp(maxSteps:=9^7) (disch:=first|exact dI|fail) only[push_cast,seval]
          refine ab.pure hc rfl ?_
          simp(maxSteps:=9^7) (disch:=first|exact dI|fail) only[push_cast,seval]
          refine ab.pure h3 rfl ?_
          simp(maxSteps:=9^7) (disch:=first|exact dI|fail) only[aG,rE1,rE2,rE3,rE4,rE5,push_cast,seval]
          refine ae hd rfl ?_
          simp(maxSteps:=9^7) (disch:=first|exact dI|fail) only[aG,rE1,rE2,rE3,rE4,rE5,push_cast,seval]
          refine ae hj rfl ?_
          simp(maxSteps:=9^7) (disch:=first|exact dI|fail) only[push_cast,seval]
         ·subst hz
          rw[if_pos (Or.inl (by decide))]
          refine aw.intro bN (by simp[fk]) ?_
          simp(maxSteps:=9^7) (disch:=first|exact dI|fail) only[fk,push_cast,seval]
          refine ab.pure hn rfl ?_
          simp(maxSteps:=9^7) (disch:=first|exact dI|fail) only[push_cast,seval]
          refine ab.pure hc rfl ?_
          simp(maxSteps:=9^7) (disch:=first|exact dI|fail) only[push_cast,seval]
          refine ab.pure h3 rfl ?_
          simp(maxSteps:=9^7) (disch:=first|exact dI|fail) only[aG,rE1,rE2,rE3,rE4,rE5,push_cast,seval]
          refine ae hd rfl ?_
          simp(maxSteps:=9^7) (disch:=first|exact dI|fail) only[aG,rE1,rE2,rE3,rE4,rE5,push_cast,seval]
        ·rw[if_pos (Or.inr hq90)]
         have hqd:(!decide (q=[90]))=true:=by simp[hq90]
         refine aw.intro bN (by simp[fk]) ?_
         simp(maxSteps:=9^7) (disch:=first|exact dI|fail) only[fk,push_cast,seval]
         refine ab.pure hn rfl ?_
         simp(maxSteps:=9^7) (disch:=first|exact dI|fail) only[push_cast,seval]
         refine ab.pure hc rfl ?_
         simp(maxSteps:=9^7) (disch:=first|exact dI|fail) only[push_cast,seval]
         refine ab.pure h3 rfl ?_
         simp(maxSteps:=9^7) (disch:=first|exact dI|fail) only[hqd,push_cast,seval]
   | false=>
     rw[hb] at hc
     simp only[Bool.false_eq_true,if_false] at hc
     unfold xb
     rw[hb,if_neg (by simp)]
     by_cases hr90:r=[90]
     ·subst hr90
      rw[if_pos rfl]
      simp only
      unfold wY
      generalize kx y m d=R at *
      obtain⟨R1,R2⟩:=R
      simp only at hd hrg hee ⊢
      rcases hee with hz | hz
      ·have hrg':=hrg hz
       subst hz
       by_cases c1:23<h
       ·rw[if_pos (Or.inr (Or.inl c1))]
        refine aw.intro bN (by simp[fk]) ?_
        simp(maxSteps:=9^7) (disch:=first|exact dI|fail) only[fk,push_cast,seval]
        refine ab.pure hn rfl ?_
        simp(maxSteps:=9^7) (disch:=first|exact dI|fail) only[push_cast,seval]
        refine ab.pure hc rfl ?_
        simp(maxSteps:=9^7) (disch:=first|exact dI|fail) only[aG,rE1,rE2,rE3,rE4,rE5,push_cast,seval]
        refine ae hd rfl ?_
        simp(maxSteps:=9^7) (disch:=first|exact dI|fail) only[aG,rE1,rE2,rE3,rE4,rE5,push_cast,seval]
       by_cases c2:59<mi
       ·rw[if_pos (Or.inr (Or.inr (Or.inl c2)))]
        refine aw.intro bN (by simp[fk]) ?_
        simp(maxSteps:=9^7) (disch:=first|exact dI|fail) only[fk,push_cast,seval]
        refine ab.pure hn rfl ?_
        simp(maxSteps:=9^7) (disch:=first|exact dI|fail) only[push_cast,seval]
        refine ab.pure hc rfl ?_
        simp(maxSteps:=9^7) (disch:=first|exact dI|fail) only[aG,rE1,rE2,rE3,rE4,rE5,push_cast,seval]
        refine ae hd rfl ?_
        simp(maxSteps:=9^7) (disch:=first|exact dI|fail) only[aG,rE1,rE2,rE3,rE4,rE5,push_cast,seval]
       by_cases c3:59<sec
       ·rw[if_pos (Or.inr (Or.inr (Or.inr c3)))]
        refine aw.intro bN (by simp[fk]) ?_
        simp(maxSteps:=9^7) (disch:=first|exact dI|fail) only[fk,push_cast,seval]
        refine ab.pure hn rfl ?_
        simp(maxSteps:=9^7) (disch:=first|exact dI|fail) only[push_cast,seval]
        refine ab.pure hc rfl ?_
        simp(maxSteps:=9^7) (disch:=first|exact dI|fail) only[aG,rE1,rE2,rE3,rE4,rE5,push_cast,seval]
        refine ae hd rfl ?_
        simp(maxSteps:=9^7) (disch:=first|exact dI|fail) only[aG,rE1,rE2,rE3,rE4,rE5,push_cast,seval]
       rw[if_neg (by simp;omega)]
       have hj:=GD hrg' (r:=((60*h+mi)*60+sec)*1000+0) (by omega)
       refine aw.intro bN (by simp[fk]) ?_
       simp(maxSteps:=9^7) (disch:=first|exact dI|fail) only[fk,push_cast,seval]
       refine ab.pure hn rfl ?_
       simp(maxSteps:=9^7) (disch:=first|exact dI|fail) only[push_cast,seval]
       refine ab.pure hc rfl ?_
       simp(maxSteps:=9^7) (disch:=first|exact dI|fail) only[aG,rE1,rE2,rE3,rE4,rE5,push_cast,seval]
       refine ae hd rfl ?_
       simp(maxSteps:=9^7) (disch:=first|exact dI|fail) only[aG,rE1,rE2,rE3,rE4,rE5,push_cast,seval]
       refine ae hj rfl ?_
       simp(maxSteps:=9^7) (disch:=first|exact dI|fail) only[push_cast,seval]
      ·subst hz
       rw[if_pos (Or.inl (by decide))]
       refine aw.intro bN (by simp[fk]) ?_
       simp(maxSteps:=9^7) (disch:=first|exact dI|fail) only[fk,push_cast,seval]
       refine ab.pure hn rfl ?_
       simp(maxSteps:=9^7) (disch:=first|exact dI|fail) only[push_cast,seval]
       refine ab.pure hc rfl ?_
       simp(maxSteps:=9^7) (disch:=first|exact dI|fail) only[aG,rE1,rE2,rE3,rE4,rE5,push_cast,seval]
       refine ae hd rfl ?_
       simp(maxSteps:=9^7) (disch:=first|exact dI|fail) only[aG,rE1,rE2,rE3,rE4,rE5,push_cast,seval]
     ·rw[if_neg hr90]
      have hrd:(!decide (r=[90]))=true:=by simp[hr90]
      refine aw.intro bN (by simp[fk]) ?_
      simp(maxSteps:=9^7) (disch:=first|exact dI|fail) only[fk,push_cast,seval]
      refine ab.pure hn rfl ?_
      simp(maxSteps:=9^7) (disch:=first|exact dI|fail) only[push_cast,seval]
      refine ab.pure hc rfl ?_
      simp(maxSteps:=9^7) (disch:=first|exact dI|fail) only[hrd,push_cast,seval]
end Go.Proofs.YtamoeblcphjbaaaGreatDoor
set_option maxRecDepth 100000
set_option linter.unusedVariables false
set_option linter.unusedSimpArgs false
namespace Go.Proofs.YtamoeblcphjbaaaGreatDoor
open Go Go.Ab
def BK:List (List UInt8)→List Nat→List Int→List UInt8
 | m::ms,k::ks,v::l=>m++(bO k v.toNat++BK ms ks l)
 | _,_,_=>[]
theorem mP {p s:List UInt8}(h:fl p s=true):s=p++s.drop p.length:=by
 have h1:=(of_decide_eq_true h).1
 have h2:=List.take_append_drop p.length s
 rw[h1] at h2
 exact h2.symm
theorem m6 {k:Nat}{s:List UInt8}{p:Int×List UInt8}(h:uh k s=some p):s=bO k p.1.toNat++p.2∧0≤p.1:=by
 unfold uh at h
 split at h
 ·rename_i hh
  cases h
  have e:=Ei (s.take k) hh.2
  rw[List.length_take,Nat.min_eq_left hh.1] at e
  simp only
  rw[e,List.take_append_drop]
  exact⟨rfl,(cG _ 0 (by omega) hh.2).1⟩
 ·cases h
theorem mV:∀ (ms:List (List UInt8)) (ks:List Nat) (s:List UInt8) (l:List Int) (r:List UInt8),dn ms ks s=some (l,r)→s=BK ms ks l++r∧∀ x,x∈l→0≤x
 | [],ks,s,l,r,h=>by
   simp only[dn,Option.some.injEq,Prod.mk.injEq] at h
   obtain⟨rfl,rfl⟩:=h
   exact⟨by simp[BK],by simp⟩
 | m::ms,[],s,l,r,h=>by simp[dn] at h
 | m::ms,k::ks,s,l,r,h=>by
   simp only[dn] at h
   split at h
   ·rename_i hp
    split at h
    ·rename_i p hn
     simp only[Option.map_eq_some_iff] at h
     obtain⟨q,hq,he⟩:=h
     cases he
     obtain⟨q1,q2⟩:=q
     have ih:=mV ms ks p.2 q1 q2 hq
     have hb:=m6 hn
     refine⟨?_,?_⟩
     ·rw[BK,List.append_assoc,List.append_assoc,← ih.1,← hb.1]
      exact mP hp
     ·intro x hx
      rcases List.mem_cons.1 hx with rfl | hx
      ·exact hb.2
      ·exact ih.2 x hx
    ·cases h
   ·cases h
theorem A7 {y m d n:Int}(h:kx y m d=(n,0)):DateOk y m.toNat d∧n=A8 y m.toNat d - 719162:=by
 unfold kx at h
 split at h
 ·rename_i hd
  cases h
  exact⟨(qv hd).1,rfl⟩
 ·simp at h
theorem sW {r:List UInt8}{ms:Int}(h:xb r=some ms):0≤ms∧ms≤999∧r=(if ms.toNat=0 then [] else [46]++bO 3 ms.toNat)++[90]:=by
 unfold xb at h
 split at h
 ·rename_i hp
  split at h
  ·rename_i p hn
   split at h
   ·cases h
   ·rename_i hc
    cases h
    have hb:=m6 hn
    have hle:p.1≤999:=by
     unfold uh at hn
     split at hn
     ·rename_i hh
      cases hn
      exact (qY hh.2).2
     ·cases hn
    have hnz:p.1≠0:=fun h=>hc (Or.inl h)
    have hq:p.2=[90]:=Decidable.of_not_not fun h=>hc (Or.inr h)
    refine⟨hb.2,hle,?_⟩
    rw[if_neg (by omega)]
    rw[hq] at hb
    have:=mP hp
    rw[this]
    have e:=hb.1
    simp only[List.length_cons,List.length_nil,Nat.zero_add] at e ⊢
    rw[e,List.append_assoc]
  ·cases h
 ·split at h
  ·rename_i hr
   cases h
   exact⟨by omega,by omega,by simp[hr]⟩
  ·cases h
theorem pr {s:List UInt8}{n:Int}(h:cy s=(n,0)):∃ (y:Int) (m:Nat) (d:Int) (hh mi sec ms:Nat),DateOk y m d∧hh≤23∧mi≤59∧sec≤59∧ms≤999 ∧
  n=(A8 y m d - 719162)*86400000+(((60*(hh:Int)+mi)*60+sec)*1000+ms)∧s=Li (Lj y m d) hh mi sec ms:=by
 unfold cy at h
 split at h
 ·rename_i y m d hh mi sec r hn
  split at h
  ·rename_i ms ht
   obtain⟨hb,hpos⟩:=mV _ _ _ _ _ hn
   obtain⟨t1,t2,t3⟩:=sW ht
   unfold wY at h
   split at h
   ·simp at h
   ·rename_i hc
    have hz:(kx y m d).2=0:=Decidable.of_not_not fun h=>hc (Or.inl h)
    have b1:¬ 23<hh:=fun h=>hc (Or.inr (Or.inl h))
    have b2:¬ 59<mi:=fun h=>hc (Or.inr (Or.inr (Or.inl h)))
    have b3:¬ 59<sec:=fun h=>hc (Or.inr (Or.inr (Or.inr h)))
    have p1:=hpos hh (by simp)
    have p2:=hpos mi (by simp)
    have p3:=hpos sec (by simp)
    obtain⟨d1,d2⟩:=A7 (y:=y) (m:=m) (d:=d) (n:=(kx y m d).1) (by rw[← hz])
    have e:=congrArg Prod.fst h
    simp only at e
    refine⟨y,m.toNat,d,hh.toNat,mi.toNat,sec.toNat,ms.toNat,d1,by omega,by omega,by omega,by omega,?_,?_⟩
    ·rw[← e,d2];omega
    ·rw[hb,t3]
     simp[BK,msT,ksT,Li,Lj]
  ·simp at h
 ·simp at h
end Go.Proofs.YtamoeblcphjbaaaGreatDoor
