/- A part of the proof for LiteralAgainCardSaid. -/
import Derived.Test.YtamoeblcphjbaaaGreatDoorAgLC24
import Derived.Test.YtamoeblcphjbaaaGreatDoorAgLC17
import Derived.Test.YtamoeblcphjbaaaGreatDoorAgF
import Derived.Test.YtamoeblcphjbaaaGreatDoorAgLD
import Derived.Test.YtamoeblcphjbaaaGreatDoorAgLC1
set_option maxRecDepth 100000
set_option linter.unusedVariables false
set_option linter.unusedSimpArgs false
-- many steps
namespace Go.Proofs.YtamoeblcphjbaaaGreatDoor
open Go Go.Ab
attribute [local irreducible] vc
def uG (y m d h mi s ms:Int):Int×Int:=if (lu y m d).2≠0∨23<h∨59<mi∨59<s then (0,17) else ((lu y m d).1*86400000+(((60*h+mi)*60+s)*1000+ms),0)
def qq (r:List UInt8):Option Int:=
 if fO [46] r=true then (match rc 3 (r.drop 1) with
  | some p=>if p.1=0∨p.2≠[90] then none else some p.1
  | none=>none) else if r=[90] then some 0 else none
def msT:List (List UInt8):=[[],[45],[45],[84],[58],[58]]
def ksT:List Nat:=[4,2,2,2,2,2]
def bP (s:List UInt8):Int×Int:=
 match cR msT ksT s with
 | some ([y,m,d,h,mi,sec],r)=>(match qq r with
   | some ms=>uG y m d h mi sec ms
   | none=>(0,13))
 | _=>(0,13)
theorem mn {y m d:Int}(h:(lu y m d).2=0):-719162≤(lu y m d).1∧(lu y m d).1≤2932896:=by
 unfold lu at h ⊢
 split
 ·rename_i hd
  have:=fq (rM hd).1
  simp only
  omega
 ·rename_i hd
  rw[if_neg hd] at h;simp at h
theorem He {d r:Int}(h1:-719162≤d∧d≤2932896)(h2:0≤r∧r≤86399999):aq Tryz.prog aF 194 [.int .i64 d,.int .i64 r] (.tup [.int .i64 (d*86400000+r),.int .i64 0]):=by
 have hi1:=dQ h1
 have hi2:=dQ h2
 refine aq.intro KI (by simp[Q2]) ?_
 simp(disch:=try exact dI) only[Q2,push_cast,seval]
 refine ab.pure hi1 rfl ?_
 simp(disch:=try exact dI) only[push_cast,seval]
 refine ab.pure hi2 rfl ?_
 simp(disch:=try exact dI) only[push_cast,seval]
theorem xQ {l:List UInt8}(h:(l.take 2).all isD=true):0≤jo 0 (l.take 2)∧jo 0 (l.take 2)≤99:=by
 have:=dm _ 0 (by omega) h
 have hp:10 ^ (l.take 2).length≤10 ^ 2:=Nat.pow_le_pow_right (by omega) (by simp;omega)
 omega
theorem su {l:List UInt8}(h:(l.take 3).all isD=true):0≤jo 0 (l.take 3)∧jo 0 (l.take 3)≤999:=by
 have:=dm _ 0 (by omega) h
 have hp:10 ^ (l.take 3).length≤10 ^ 3:=Nat.pow_le_pow_right (by omega) (by simp;omega)
 omega
theorem rE3 (sz:Nat)(l:List PV):gH sz l 3=fP sz l 3 l[3]?:=rfl
theorem rE4 (sz:Nat)(l:List PV):gH sz l 4=fP sz l 4 l[4]?:=rfl
theorem rE5 (sz:Nat)(l:List PV):gH sz l 5=fP sz l 5 l[5]?:=rfl
set_option maxHeartbeats 1000000 in
theorem qY (s:List UInt8):aq Tryz.prog aF 130 [.str s] (.tup [.int .i64 (bP s).1,.int .i64 (bP s).2]):=by
 have hn:=oI s msT ksT rfl (by simp[msT]) (by simp[ksT])
 unfold bP
 cases hv:cR msT ksT s with
 | none=>
   rw[hv] at hn
   simp only[oH,msT,ksT,List.map_cons,List.map_nil,Lw] at hn
   refine aq.intro ci (by simp[gr]) ?_
   simp(disch:=try exact dI) only[gr,push_cast,seval]
   refine ab.pure hn rfl ?_
   simp(disch:=try exact dI) only[push_cast,seval]
 | some p=>
   have hl:=kw hv
   obtain⟨l,r⟩:=p
   simp only[msT] at hl
   obtain⟨y,m,d,h,mi,sec,rfl⟩:∃ y m d h mi sec,l=[y,m,d,h,mi,sec]:=by
    match l,hl with
    | [y,m,d,h,mi,sec],_=>exact⟨y,m,d,h,mi,sec,rfl⟩
   have hv':=hv
   simp only[msT,ksT] at hv'
   obtain⟨_,_,_,n1⟩:=ec hv'
   obtain⟨_,_,_,n2⟩:=ec n1
   obtain⟨_,_,_,n3⟩:=ec n2
   obtain⟨_,g4,v4,n4⟩:=ec n3
   obtain⟨_,g5,v5,n5⟩:=ec n4
   obtain⟨_,g6,v6,n6⟩:=ec n5
   have b4:=xQ g4
   have b5:=xQ g5
   have b6:=xQ g6
   rw[← v4] at b4
   rw[← v5] at b5
   rw[← v6] at b6
   clear g4 g5 g6 v4 v5 v6 n1 n2 n3 n4 n5 n6 hv'
   rw[hv] at hn
   simp only[oH,msT,ksT,List.map_cons,List.map_nil,Lw] at hn
   have hc:=tQ r [46]
   have hd:=Hn y m d
   have hrg:=fun h=>mn (y:=y) (m:=m) (d:=d) h
   have hee:=Hp y m d
   have main:∀ ms:Int,0≤ms→ms≤999→True:=fun _ _ _=>trivial
   simp only
   cases hb:fO [46] r with
   | true=>
     rw[hb] at hc
     simp only[if_true,List.length_cons,List.length_nil,Nat.zero_add] at hc
     have h3:=s9 (r.drop 1) 3 (by omega)
     unfold qq
     rw[hb,if_pos rfl]
     cases hq:rc 3 (r.drop 1) with
     | none=>
       rw[hq] at h3
       simp only[G3] at h3
       refine aq.intro ci (by simp[gr]) ?_
       simp(disch:=try exact dI) only[gr,push_cast,seval]
       refine ab.pure hn rfl ?_
       simp(disch:=try exact dI) only[push_cast,seval]
       refine ab.pure hc rfl ?_
       simp(disch:=try exact dI) only[push_cast,seval]
       refine ab.pure h3 rfl ?_
       simp(disch:=try exact dI) only[push_cast,seval]
     | some q=>
       rw[hq] at h3
       simp only[G3] at h3
       obtain⟨ms,q⟩:=q
       simp only at h3 ⊢
       have hms:0≤ms∧ms≤999:=by
        unfold rc at hq
        split at hq
        ·rename_i hh
         cases hq
         exact su hh.2
        ·cases hq
       by_cases hm0:ms=0
       ·rw[if_pos (Or.inl hm0)]
        subst hm0
        refine aq.intro ci (by simp[gr]) ?_
        simp(disch:=try exact dI) only[gr,push_cast,seval]
        refine ab.pure hn rfl ?_
        simp(disch:=try exact dI) only[push_cast,seval]
        refine ab.pure hc rfl ?_
        simp(disch:=try exact dI) only[push_cast,seval]
        refine ab.pure h3 rfl ?_
        simp(disch:=try exact dI) only[push_cast,seval]
       ·by_cases hq90:q=[90]
        ·subst hq90
         rw[if_neg (by simp[hm0])]
         simp only
         unfold uG
         generalize lu y m d=R at *
         obtain⟨R1,R2⟩:=R
         simp only at hd hrg hee ⊢
         rcases hee with hz | hz
         ·have hrg':=hrg hz
          subst hz
          by_cases c1:23<h
          ·rw[if_pos (Or.inr (Or.inl c1))]
           refine aq.intro ci (by simp[gr]) ?_
           simp(disch:=try exact dI) only[gr,push_cast,seval]
           refine ab.pure hn rfl ?_
           simp(disch:=try exact dI) only[push_cast,seval]
           refine ab.pure hc rfl ?_
           simp(disch:=try exact dI) only[push_cast,seval]
           refine ab.pure h3 rfl ?_
           simp(disch:=try exact dI) only[aG,rE1,rE2,rE3,rE4,rE5,push_cast,seval]
           refine ae hd rfl ?_
           simp(disch:=try exact dI) only[aG,rE1,rE2,rE3,rE4,rE5,push_cast,seval]
          by_cases c2:59<mi
          ·rw[if_pos (Or.inr (Or.inr (Or.inl c2)))]
           refine aq.intro ci (by simp[gr]) ?_
           simp(disch:=try exact dI) only[gr,push_cast,seval]
           refine ab.pure hn rfl ?_
           simp(disch:=try exact dI) only[push_cast,seval]
           refine ab.pure hc rfl ?_
           simp(disch:=try exact dI) only[push_cast,seval]
           refine ab.pure h3 rfl ?_
           simp(disch:=try exact dI) only[aG,rE1,rE2,rE3,rE4,rE5,push_cast,seval]
           refine ae hd rfl ?_
           simp(disch:=try exact dI) only[aG,rE1,rE2,rE3,rE4,rE5,push_cast,seval]
          by_cases c3:59<sec
          ·rw[if_pos (Or.inr (Or.inr (Or.inr c3)))]
           refine aq.intro ci (by simp[gr]) ?_
           simp(disch:=try exact dI) only[gr,push_cast,seval]
           refine ab.pure hn rfl ?_
           simp(disch:=try exact dI) only[push_cast,seval]
           refine ab.pure hc rfl ?_
           simp(disch:=try exact dI) only[push_cast,seval]
           refine ab.pure h3 rfl ?_
           simp(disch:=try exact dI) only[aG,rE1,rE2,rE3,rE4,rE5,push_cast,seval]
           refine ae hd rfl ?_
           simp(disch:=try exact dI) only[aG,rE1,rE2,rE3,rE4,rE5,push_cast,seval]
          rw[if_neg (by simp;omega)]
          have hj:=He hrg' (r:=((60*h+mi)*60+sec)*1000+ms) (by omega)
          refine aq.intro ci (by simp[gr]) ?_
          simp(disch:=try exact dI) only[gr,push_cast,seval]
          refine ab.pure hn rfl ?_
          simp(disch:=try exact dI) only[push_cast,seval]
          refine ab.pure hc rfl ?_
          simp(disch:=try exact dI) only[push_cast,seval]
          refine ab.pure h3 rfl ?_
          simp(disch:=try exact dI) only[aG,rE1,rE2,rE3,rE4,rE5,push_cast,seval]
          refine ae hd rfl ?_
          simp(disch:=try exact dI) only[aG,rE1,rE2,rE3,rE4,rE5,push_cast,seval]
          refine ae hj rfl ?_
          simp(disch:=try exact dI) only[push_cast,seval]
         ·subst hz
          rw[if_pos (Or.inl (by decide))]
          refine aq.intro ci (by simp[gr]) ?_
          simp(disch:=try exact dI) only[gr,push_cast,seval]
          refine ab.pure hn rfl ?_
          simp(disch:=try exact dI) only[push_cast,seval]
          refine ab.pure hc rfl ?_
          simp(disch:=try exact dI) only[push_cast,seval]
          refine ab.pure h3 rfl ?_
          simp(disch:=try exact dI) only[aG,rE1,rE2,rE3,rE4,rE5,push_cast,seval]
          refine ae hd rfl ?_
          simp(disch:=try exact dI) only[aG,rE1,rE2,rE3,rE4,rE5,push_cast,seval]
        ·rw[if_pos (Or.inr hq90)]
         have hqd:(!decide (q=[90]))=true:=by simp[hq90]
         refine aq.intro ci (by simp[gr]) ?_
         simp(disch:=try exact dI) only[gr,push_cast,seval]
         refine ab.pure hn rfl ?_
         simp(disch:=try exact dI) only[push_cast,seval]
         refine ab.pure hc rfl ?_
         simp(disch:=try exact dI) only[push_cast,seval]
         refine ab.pure h3 rfl ?_
         simp(disch:=try exact dI) only[hqd,push_cast,seval]
   | false=>
     rw[hb] at hc
     simp only[Bool.false_eq_true,if_false] at hc
     unfold qq
     rw[hb,if_neg (by simp)]
     by_cases hr90:r=[90]
     ·subst hr90
      rw[if_pos rfl]
      simp only
      unfold uG
      generalize lu y m d=R at *
      obtain⟨R1,R2⟩:=R
      simp only at hd hrg hee ⊢
      rcases hee with hz | hz
      ·have hrg':=hrg hz
       subst hz
       by_cases c1:23<h
       ·rw[if_pos (Or.inr (Or.inl c1))]
        refine aq.intro ci (by simp[gr]) ?_
        simp(disch:=try exact dI) only[gr,push_cast,seval]
        refine ab.pure hn rfl ?_
        simp(disch:=try exact dI) only[push_cast,seval]
        refine ab.pure hc rfl ?_
        simp(disch:=try exact dI) only[aG,rE1,rE2,rE3,rE4,rE5,push_cast,seval]
        refine ae hd rfl ?_
        simp(disch:=try exact dI) only[aG,rE1,rE2,rE3,rE4,rE5,push_cast,seval]
       by_cases c2:59<mi
       ·rw[if_pos (Or.inr (Or.inr (Or.inl c2)))]
        refine aq.intro ci (by simp[gr]) ?_
        simp(disch:=try exact dI) only[gr,push_cast,seval]
        refine ab.pure hn rfl ?_
        simp(disch:=try exact dI) only[push_cast,seval]
        refine ab.pure hc rfl ?_
        simp(disch:=try exact dI) only[aG,rE1,rE2,rE3,rE4,rE5,push_cast,seval]
        refine ae hd rfl ?_
        simp(disch:=try exact dI) only[aG,rE1,rE2,rE3,rE4,rE5,push_cast,seval]
       by_cases c3:59<sec
       ·rw[if_pos (Or.inr (Or.inr (Or.inr c3)))]
        refine aq.intro ci (by simp[gr]) ?_
        simp(disch:=try exact dI) only[gr,push_cast,seval]
        refine ab.pure hn rfl ?_
        simp(disch:=try exact dI) only[push_cast,seval]
        refine ab.pure hc rfl ?_
        simp(disch:=try exact dI) only[aG,rE1,rE2,rE3,rE4,rE5,push_cast,seval]
        refine ae hd rfl ?_
        simp(disch:=try exact dI) only[aG,rE1,rE2,rE3,rE4,rE5,push_cast,seval]
       rw[if_neg (by simp;omega)]
       have hj:=He hrg' (r:=((60*h+mi)*60+sec)*1000+0) (by omega)
       refine aq.intro ci (by simp[gr]) ?_
       simp(disch:=try exact dI) only[gr,push_cast,seval]
       refine ab.pure hn rfl ?_
       simp(disch:=try exact dI) only[push_cast,seval]
       refine ab.pure hc rfl ?_
       simp(disch:=try exact dI) only[aG,rE1,rE2,rE3,rE4,rE5,push_cast,seval]
       refine ae hd rfl ?_
       simp(disch:=try exact dI) only[aG,rE1,rE2,rE3,rE4,rE5,push_cast,seval]
       refine ae hj rfl ?_
       simp(disch:=try exact dI) only[push_cast,seval]
      ·subst hz
       rw[if_pos (Or.inl (by decide))]
       refine aq.intro ci (by simp[gr]) ?_
       simp(disch:=try exact dI) only[gr,push_cast,seval]
       refine ab.pure hn rfl ?_
       simp(disch:=try exact dI) only[push_cast,seval]
       refine ab.pure hc rfl ?_
       simp(disch:=try exact dI) only[aG,rE1,rE2,rE3,rE4,rE5,push_cast,seval]
       refine ae hd rfl ?_
       simp(disch:=try exact dI) only[aG,rE1,rE2,rE3,rE4,rE5,push_cast,seval]
     ·rw[if_neg hr90]
      have hrd:(!decide (r=[90]))=true:=by simp[hr90]
      refine aq.intro ci (by simp[gr]) ?_
      simp(disch:=try exact dI) only[gr,push_cast,seval]
      refine ab.pure hn rfl ?_
      simp(disch:=try exact dI) only[push_cast,seval]
      refine ab.pure hc rfl ?_
      simp(disch:=try exact dI) only[hrd,push_cast,seval]
end Go.Proofs.YtamoeblcphjbaaaGreatDoor
namespace Go.Proofs.YtamoeblcphjbaaaGreatDoor
open Go Go.Ab
def Cj:List (List UInt8)→List Nat→List Int→List UInt8
 | m::ms,k::ks,v::l=>m++(aY k v.toNat++Cj ms ks l)
 | _,_,_=>[]
theorem oD {p s:List UInt8}(h:fO p s=true):s=p++s.drop p.length:=by
 have h1:=(of_decide_eq_true h).1
 have h2:=List.take_append_drop p.length s
 rw[h1] at h2
 exact h2.symm
theorem oM {k:Nat}{s:List UInt8}{p:Int×List UInt8}(h:rc k s=some p):s=aY k p.1.toNat++p.2∧0≤p.1:=by
 unfold rc at h
 split at h
 ·rename_i hh
  cases h
  have e:=E2 (s.take k) hh.2
  rw[List.length_take,Nat.min_eq_left hh.1] at e
  simp only
  rw[e,List.take_append_drop]
  exact⟨rfl,(dm _ 0 (by omega) hh.2).1⟩
 ·cases h
theorem oG:∀ (ms:List (List UInt8)) (ks:List Nat) (s:List UInt8) (l:List Int) (r:List UInt8),cR ms ks s=some (l,r)→s=Cj ms ks l++r∧∀ x,x∈l→0≤x
 | [],ks,s,l,r,h=>by
   simp only[cR,Option.some.injEq,Prod.mk.injEq] at h
   obtain⟨rfl,rfl⟩:=h
   exact⟨by simp[Cj],by simp⟩
 | m::ms,[],s,l,r,h=>by simp[cR] at h
 | m::ms,k::ks,s,l,r,h=>by
   simp only[cR] at h
   split at h
   ·rename_i hp
    split at h
    ·rename_i p hn
     simp only[Option.map_eq_some_iff] at h
     obtain⟨q,hq,he⟩:=h
     cases he
     obtain⟨q1,q2⟩:=q
     have ih:=oG ms ks p.2 q1 q2 hq
     have hb:=oM hn
     refine⟨?_,?_⟩
     ·rw[Cj,List.append_assoc,List.append_assoc,← ih.1,← hb.1]
      exact oD hp
     ·intro x hx
      rcases List.mem_cons.1 hx with rfl | hx
      ·exact hb.2
      ·exact ih.2 x hx
    ·cases h
   ·cases h
theorem BJ {y m d n:Int}(h:lu y m d=(n,0)):DateOk y m.toNat d∧n=iO y m.toNat d - 719162:=by
 unfold lu at h
 split at h
 ·rename_i hd
  cases h
  exact⟨(rM hd).1,rfl⟩
 ·simp at h
theorem uI {r:List UInt8}{ms:Int}(h:qq r=some ms):0≤ms∧ms≤999∧r=(if ms.toNat=0 then [] else [46]++aY 3 ms.toNat)++[90]:=by
 unfold qq at h
 split at h
 ·rename_i hp
  split at h
  ·rename_i p hn
   split at h
   ·cases h
   ·rename_i hc
    cases h
    have hb:=oM hn
    have hle:p.1≤999:=by
     unfold rc at hn
     split at hn
     ·rename_i hh
      cases hn
      exact (su hh.2).2
     ·cases hn
    have hnz:p.1≠0:=fun h=>hc (Or.inl h)
    have hq:p.2=[90]:=Decidable.of_not_not fun h=>hc (Or.inr h)
    refine⟨hb.2,hle,?_⟩
    rw[if_neg (by omega)]
    rw[hq] at hb
    have:=oD hp
    rw[this]
    have e:=hb.1
    simp only[List.length_cons,List.length_nil,Nat.zero_add] at e ⊢
    rw[e,List.append_assoc]
  ·cases h
 ·split at h
  ·rename_i hr
   cases h
   exact⟨by omega,by omega,by simp[hr]⟩
  ·cases h
theorem q0 {s:List UInt8}{n:Int}(h:bP s=(n,0)):∃ (y:Int) (m:Nat) (d:Int) (hh mi sec ms:Nat),DateOk y m d∧hh≤23∧mi≤59∧sec≤59∧ms≤999 ∧
  n=(iO y m d - 719162)*86400000+(((60*(hh:Int)+mi)*60+sec)*1000+ms)∧s=fJ (cG y m d) hh mi sec ms:=by
 unfold bP at h
 split at h
 ·rename_i y m d hh mi sec r hn
  split at h
  ·rename_i ms ht
   obtain⟨hb,hpos⟩:=oG _ _ _ _ _ hn
   obtain⟨t1,t2,t3⟩:=uI ht
   unfold uG at h
   split at h
   ·simp at h
   ·rename_i hc
    have hz:(lu y m d).2=0:=Decidable.of_not_not fun h=>hc (Or.inl h)
    have b1:¬ 23<hh:=fun h=>hc (Or.inr (Or.inl h))
    have b2:¬ 59<mi:=fun h=>hc (Or.inr (Or.inr (Or.inl h)))
    have b3:¬ 59<sec:=fun h=>hc (Or.inr (Or.inr (Or.inr h)))
    have p1:=hpos hh (by simp)
    have p2:=hpos mi (by simp)
    have p3:=hpos sec (by simp)
    obtain⟨d1,d2⟩:=BJ (y:=y) (m:=m) (d:=d) (n:=(lu y m d).1) (by rw[← hz])
    have e:=congrArg Prod.fst h
    simp only at e
    refine⟨y,m.toNat,d,hh.toNat,mi.toNat,sec.toNat,ms.toNat,d1,by omega,by omega,by omega,by omega,?_,?_⟩
    ·rw[← e,d2];omega
    ·rw[hb,t3]
     simp[Cj,msT,ksT,fJ,cG]
  ·simp at h
 ·simp at h
end Go.Proofs.YtamoeblcphjbaaaGreatDoor
namespace Go.Proofs.YtamoeblcphjbaaaGreatDoor
open Go Go.Ab
attribute [local irreducible] vc
def bf (v:Val):List Val:=if v.kind=8∨v.kind=10 then v.lst else if v.kind=9 then v.fields.map Fld.value else []
theorem bW {v:Val}(h:v.kind=8∨v.kind=10):bf v=v.lst:=if_pos h
theorem d7 {v:Val}(h:v.kind=9):bf v=v.fields.map Fld.value:=by unfold bf;rw[if_neg (by omega),if_pos h]
theorem vq {v:Val}(h:¬ (v.kind=8∨v.kind=10))(h9:¬ v.kind=9):bf v=[]:=by unfold bf;rw[if_neg h,if_neg h9]
theorem EM (v:Val)(hf:v.fields.length*104≤140737488351232):aq Tryz.prog aF 149 [v.pv] (.list ((bf v).map Val.pv)):=by
 obtain⟨k,n,s,t,l,fs⟩:=v
 simp only[Val.fields] at hf
 by_cases h8:k=8∨k=10
 ·rw[bW (v:=.mk k n s t l fs) h8]
  simp only[Val.lst]
  rcases h8 with rfl | rfl
  ·refine aq.intro nJ (by simp[Gy]) ?_
   simp(disch:=try exact dI) only[Gy,Val.pv_mk,push_cast,seval]
  ·refine aq.intro nJ (by simp[Gy]) ?_
   simp(disch:=try exact dI) only[Gy,Val.pv_mk,push_cast,seval]
 ·by_cases h9:k=9
  ·subst h9
   rw[d7 (v:=.mk 9 n s t l fs) rfl]
   simp only[Val.fields]
   refine aq.intro nJ (by simp[Gy]) ?_
   simp(disch:=try exact dI) only[Gy,Val.pv_mk,push_cast,seval]
   refine be ([(3,0,25,6)]) (fun i:Nat=>[(3,.olist 0 6 (((fs.take i).map Fld.value).map Val.pv)),(18,.pv (.int .i64 (i:Int)))]) (fun _=>[]) (fun i=>i≤fs.length) (fun i=>fs.length - i) (0) ?_;intro e0 σ0 n0 h0;simp(disch:=try exact dI) only[push_cast,seval] at h0;obtain⟨rfl,rfl,rfl⟩:=h0;refine⟨?_,?_,?_⟩
   ·simp(disch:=try exact dI) only[push_cast,seval]
   ·omega
   rintro i hi
   by_cases hlt:i<fs.length
   ·have hltI:(i:Int)<(fs.length:Int):=by omega
    obtain⟨c,hc⟩:∃ c,fs[i]? = some c:=⟨_,List.getElem?_eq_getElem hlt⟩
    have hts:=bh hc
    obtain⟨nm,⟨k',n',s',t',l',f'⟩⟩:=c
    have hcp:(fs.map Fld.pv)[i]? = some (.agg [.str nm,.int .i64 k',.int .i64 n',.int .i64 s',.str t',.list (l'.map Val.pv),.list (f'.map Fld.pv)]):=by simp[hc,Fld.pv_mk,Val.pv_mk,cZ]
    simp(disch:=try exact dI) only[hcp,push_cast,seval]
    exact⟨i+1,bT (by simp(disch:=try exact dI) only[hts,List.map_append,Fld.value,Val.pv_mk,push_cast,seval]),by omega,by omega⟩
   ·have he:i=fs.length:=by omega
    subst he
    simp(disch:=try exact dI) only[List.take_length,zZ,push_cast,seval]
  ·rw[vq (v:=.mk k n s t l fs) h8 h9]
   refine aq.intro nJ (by simp[Gy]) ?_
   have e1:¬ k=8:=by omega
   have e2:¬ k=10:=by omega
   simp(disch:=try exact dI) only[Gy,Val.pv_mk,push_cast,seval]
end Go.Proofs.YtamoeblcphjbaaaGreatDoor
