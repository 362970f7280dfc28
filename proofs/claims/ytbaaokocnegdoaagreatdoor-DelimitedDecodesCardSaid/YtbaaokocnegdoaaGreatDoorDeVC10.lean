/- A part of the proof. -/
import Derived.Test.YtbaaokocnegdoaaGreatDoorDeVC5
set_option linter.unusedVariables false
set_option linter.unusedSimpArgs false
set_option maxHeartbeats 16000000
set_option maxRecDepth 100000
namespace Go.Proofs.YtbaaokocnegdoaaGreatDoor
open Go Go.Ab
attribute [local irreducible] vc
def pat:List (List UInt8)->List Nat->List UInt8
 | m::ms,k::ks=>m++(List.replicate k 48++pat ms ks)
 | _,_=>[]
theorem uz (s:List UInt8):gI [] s=true:=by simp[gI]
theorem Cs (x c:UInt8)(m s:List UInt8):gI (x::m) (c::s)=(decide (c=x)&&gI m s):=by
 simp only[gI,List.length_cons,List.take_succ_cons,List.cons.injEq,Nat.add_le_add_iff_right]
 by_cases h:c=x<;>simp[h]
theorem HH (x:UInt8)(m:List UInt8):gI (x::m) []=false:=by simp[gI]
theorem fU:∀ (m s p:List UInt8),(∀ x,x∈m->x≠48)->aT s (m++p)=(gI m s&&aT (s.drop m.length) p)
 | [],s,p,_=>by simp[uz]
 | x::m,[],p,_=>by simp[HH,aT]
 | x::m,c::s,p,h=>by
   have ih:=fU m s p fun y hy=>h y (by simp[hy])
   have hx:x≠48:=h x (by simp)
   simp only[List.cons_append,aT,ih,Cs,List.length_cons,List.drop_succ_cons,uE,if_neg hx,Bool.and_assoc]
theorem ii:∀ (k:Nat) (s p:List UInt8),aT s (List.replicate k 48++p)=(decide (k<=s.length/\(s.take k).all isD=true)&&aT (s.drop k) p)
 | 0,s,p=>by simp
 | k+1,[],p=>by simp[List.replicate_succ,aT]
 | k+1,c::s,p=>by
   have ih:=ii k s p
   simp only[List.replicate_succ,List.cons_append,aT,ih,List.drop_succ_cons,List.take_succ_cons,List.all_cons,List.length_cons,Nat.add_le_add_iff_right,uE,if_true]
   cases isD c<;>simp
theorem ig:∀ (ms:List (List UInt8)) (ks:List Nat) (s q:List UInt8),ms.length=ks.length->(∀ m,m∈ms->∀ x,x∈m->x≠48) ->
  (aT s (pat ms ks++q)=true↔∃ p,bV ms ks s=some p/\aT p.2 q=true)
 | [],[],s,q,_,_=>by simp[pat,bV]
 | [],_::_,s,q,h,_=>by simp at h
 | _::_,[],s,q,h,_=>by simp at h
 | m::ms,k::ks,s,q,h,hm=>by
   have ih:=ig ms ks ((s.drop m.length).drop k) q (by simpa using h) fun m' h'=>hm m' (by simp[h'])
   have e:pat (m::ms) (k::ks)++q=m++(List.replicate k 48++(pat ms ks++q)):=by simp[pat]
   rw[e,fU m s _ (hm m (by simp)),ii]
   simp only[bV,mj]
   cases hp:gI m s with
   | false=>simp
   | true=>
     by_cases hd:k<=(s.drop m.length).length/\((s.drop m.length).take k).all isD=true
     ·rw[if_pos rfl,if_pos hd,decide_eq_true hd,Bool.true_and,Bool.true_and,ih]
      constructor
      ·rintro⟨p,h1,h2⟩
       exact⟨(fw 0 ((s.drop m.length).take k)::p.1,p.2),by simp only[Option.map_eq_some_iff];exact⟨p,h1,rfl⟩,h2⟩
      ·rintro⟨p,h1,h2⟩
       simp only[Option.map_eq_some_iff] at h1
       obtain⟨a,ha,rfl⟩:=h1
       exact⟨a,ha,h2⟩
     ·rw[if_pos rfl,if_neg hd,decide_eq_false hd]
      simp
theorem a8 {m:List UInt8}{ms:List (List UInt8)}{k:Nat}{ks:List Nat}{s:List UInt8}{v:Int}{l:List Int}{r:List UInt8}(h:bV (m::ms) (k::ks) s=some (v::l,r)) :
  k<=(s.drop m.length).length/\((s.drop m.length).take k).all isD=true/\v=fw 0 ((s.drop m.length).take k)/\bV ms ks ((s.drop m.length).drop k)=some (l,r):=by
 simp only[bV] at h
 split at h
 ·unfold mj at h
  split at h
  ·rename_i hc
   split at hc
   ·rename_i hd
    cases hc
    simp only[Option.map_eq_some_iff] at h
    obtain⟨a,ha,he⟩:=h
    cases he
    exact⟨hd.1,hd.2,rfl,ha⟩
   ·cases hc
  ·cases h
 ·cases h
def P1:List UInt8:=[48,48,48,48,45,48,48,45,48,48]
theorem MJ:P1=pat [[],[45],[45]] [4,2,2]++[]:=rfl
theorem um (s:List UInt8):ak Tryz.prog aq 83 [.str s] (.tup [.int .i64 (bK s).1,.int .i64 (bK s).2]):=by
 have hf:=tn s P1 (by decide)
 have hiff:=ig [[],[45],[45]] [4,2,2] s [] rfl (by simp)
 rw[<- MJ] at hiff
 cases hb:aT s P1 with
 | false=>
   rw[hb] at hf hiff
   have hp:bK s=(0,13):=by
    unfold bK
    split
    ·rename_i hn
     have:=hiff.2 ⟨_,hn,rfl⟩
     cases this
    ·rfl
   rw[hp]
   refine ak.intro Q83.2 (by simp[Q83]) ?_
   simp only[P1] at hf
   simp(disch:=try exact dI) only[Q83,push_cast,seval]
   refine ab.pure hf rfl ?_
   exact qsZ
 | true=>
   have hlen:=fu hb
   rw[hb] at hf hiff
   obtain⟨⟨l,r⟩,hn,hr⟩:=hiff.1 rfl
   have hr0:r=[]:=by cases r with | nil=>rfl | cons c r=>simp[aT] at hr
   subst hr0
   have hl:=fk hn
   simp only at hl
   obtain⟨y,m,d,rfl⟩:∃ y m d,l=[y,m,d]:=by
    match l,hl with
    | [y,m,d],_=>exact⟨y,m,d,rfl⟩
   have hp:bK s=gC y m d:=by unfold bK;rw[hn]
   rw[hp]
   obtain⟨a1,a2,a3,h2⟩:=a8 hn
   obtain⟨b1,b2,b3,h3⟩:=a8 h2
   obtain⟨c1,c2,c3,h4⟩:=a8 h3
   simp only[List.length_nil,List.length_cons,List.drop_zero,List.drop_drop,Nat.reduceAdd] at a1 a2 a3 b1 b2 b3 c1 c2 c3
   have hl10:s.length=10:=hlen
   have e8:(s.drop 8).take 2=s.drop 8:=List.take_of_length_le (by simp;omega)
   rw[e8] at c2 c3
   have n1:=kW (s.take 4) (by simp;omega) a2
   have n2:=kW ((s.drop 5).take 2) (by simp;omega) b2
   have n3:=kW (s.drop 8) (by simp;omega) c2
   rw[<- a3] at n1
   rw[<- b3] at n2
   rw[<- c3] at n3
   have e57:List.drop 5 (List.take 7 s)=(s.drop 5).take 2:=by rw[List.drop_take]
   have hd:=Hb y m d
   simp only[P1] at hf
   refine ak.intro Q83.2 (by simp[Q83]) ?_
   have hee:=vF y m d
   have hz:(gC y m d).2=17->(gC y m d).1=0:=by unfold gC;split<;>simp
   generalize gC y m d=R at *
   obtain⟨R1,R2⟩:=R
   simp only at hd hee hz ⊢
   rcases hee with h0 | h17
   ·subst h0
    rw[show decide ((0:Int)=0)=true from rfl] at hd
    simp(disch:=try exact dI) only[Q83,push_cast,seval]
    refine ab.pure hf rfl ?_
    simp(disch:=try exact dI) only[e57,push_cast,seval]
    refine ae n1 rfl ?_
    simp(disch:=try exact dI) only[e57,List.take_length,push_cast,seval]
    refine ae n2 rfl ?_
    simp(disch:=try exact dI) only[List.take_length,push_cast,seval]
    refine ae n3 rfl ?_
    refine zgZ ?_
    refine ae hd rfl ?_
    exact qsZ
   ·subst h17
    rw[show decide ((17:Int)=0)=false from rfl] at hd
    have hR1:R1=0:=hz rfl
    subst hR1
    simp(disch:=try exact dI) only[Q83,push_cast,seval]
    refine ab.pure hf rfl ?_
    simp(disch:=try exact dI) only[e57,push_cast,seval]
    refine ae n1 rfl ?_
    simp(disch:=try exact dI) only[e57,List.take_length,push_cast,seval]
    refine ae n2 rfl ?_
    simp(disch:=try exact dI) only[List.take_length,push_cast,seval]
    refine ae n3 rfl ?_
    refine zgZ ?_
    refine ae hd rfl ?_
    exact qsZ
def wA (y m d h mi s ms:Int):Int×Int:=if (gC y m d).2≠0\/23<h\/59<mi\/59<s then (0,17) else ((gC y m d).1*86400000+(((60*h+mi)*60+s)*1000+ms),0)
def rK (r:List UInt8):Option Int:=
 if gI [46] r=true then (match mj 3 (r.drop 1) with
  | some p=>if p.1=0\/p.2≠[90] then none else some p.1
  | none=>none) else if r=[90] then some 0 else none
def msT:List (List UInt8):=[[],[45],[45],[84],[58],[58]]
def ksT:List Nat:=[4,2,2,2,2,2]
def bZ (s:List UInt8):Int×Int:=
 match bV msT ksT s with
 | some ([y,m,d,h,mi,sec],r)=>(match rK r with
   | some ms=>wA y m d h mi sec ms
   | none=>(0,13))
 | _=>(0,13)
theorem jd {y m d:Int}(h:(gC y m d).2=0):-719162<=(gC y m d).1/\(gC y m d).1<=2932896:=by
 unfold gC at h ⊢
 split
 ·rename_i hd
  have:=iw (oz hd).1
  simp only
  omega
 ·rename_i hd
  rw[if_neg hd] at h;simp at h
theorem Kz {d r:Int}(h1:-719162<=d/\d<=2932896)(h2:0<=r/\r<=86399999):ak Tryz.prog aq 78 [.int .i64 d,.int .i64 r] (.tup [.int .i64 (d*86400000+r),.int .i64 0]):=by
 have hi1:=fp h1
 have hi2:=fp h2
 refine ak.intro Q78.2 (by simp[Q78]) ?_
 simp(disch:=try exact dI) only[Q78,push_cast,seval]
 refine ab.pure hi1 rfl ?_
 refine zgZ ?_
 refine ab.pure hi2 rfl ?_
 exact qsZ
theorem mF {l:List UInt8}(h:(l.take 2).all isD=true):0<=fw 0 (l.take 2)/\fw 0 (l.take 2)<=99:=by
 have:=di _ 0 (by omega) h
 have hp:10 ^ (l.take 2).length<=10 ^ 2:=Nat.pow_le_pow_right (by omega) (by simp;omega)
 omega
theorem nF {l:List UInt8}(h:(l.take 3).all isD=true):0<=fw 0 (l.take 3)/\fw 0 (l.take 3)<=999:=by
 have:=di _ 0 (by omega) h
 have hp:10 ^ (l.take 3).length<=10 ^ 3:=Nat.pow_le_pow_right (by omega) (by simp;omega)
 omega
theorem rE3 (sz:Nat)(l:List PV):eA sz l 3=dE sz l 3 l[3]?:=rfl
theorem rE4 (sz:Nat)(l:List PV):eA sz l 4=dE sz l 4 l[4]?:=rfl
theorem rE5 (sz:Nat)(l:List PV):eA sz l 5=dE sz l 5 l[5]?:=rfl
theorem sC (s:List UInt8):ak Tryz.prog aq 36 [.str s] (.tup [.int .i64 (bZ s).1,.int .i64 (bZ s).2]):=by
 have hn:=pS s msT ksT rfl (by simp[msT]) (by simp[ksT])
 unfold bZ
 cases hv:bV msT ksT s with
 | none=>
   rw[hv] at hn
   simp only[pR,msT,ksT,List.map_cons,List.map_nil,fO] at hn
   refine ak.intro Q36.2 (by simp[Q36]) ?_
   simp(disch:=try exact dI) only[Q36,push_cast,seval]
   refine ab.pure hn rfl ?_
   exact qsZ
 | some p=>
   have hl:=fk hv
   obtain⟨l,r⟩:=p
   simp only[msT] at hl
   obtain⟨y,m,d,h,mi,sec,rfl⟩:∃ y m d h mi sec,l=[y,m,d,h,mi,sec]:=by
    match l,hl with
    | [y,m,d,h,mi,sec],_=>exact⟨y,m,d,h,mi,sec,rfl⟩
   have hv':=hv
   simp only[msT,ksT] at hv'
   obtain⟨_,_,_,n1⟩:=a8 hv'
   obtain⟨_,_,_,n2⟩:=a8 n1
   obtain⟨_,_,_,n3⟩:=a8 n2
   obtain⟨_,g4,v4,n4⟩:=a8 n3
   obtain⟨_,g5,v5,n5⟩:=a8 n4
   obtain⟨_,g6,v6,n6⟩:=a8 n5
   have b4:=mF g4
   have b5:=mF g5
   have b6:=mF g6
   rw[<- v4] at b4
   rw[<- v5] at b5
   rw[<- v6] at b6
   clear g4 g5 g6 v4 v5 v6 n1 n2 n3 n4 n5 n6 hv'
   rw[hv] at hn
   simp only[pR,msT,ksT,List.map_cons,List.map_nil,fO] at hn
   have hc:=vG r [46]
   have hd:=KN y m d
   have hrg:=fun h=>jd (y:=y) (m:=m) (d:=d) h
   have hee:=vF y m d
   have main:∀ ms:Int,0<=ms->ms<=999->True:=fun _ _ _=>trivial
   simp only
   cases hb:gI [46] r with
   | true=>
     rw[hb] at hc
     simp only[if_true,List.length_cons,List.length_nil,Nat.zero_add] at hc
     have h3:=uH (r.drop 1) 3 (by omega)
     unfold rK
     rw[hb,if_pos rfl]
     cases hq:mj 3 (r.drop 1) with
     | none=>
       rw[hq] at h3
       simp only[Kx] at h3
       refine ak.intro Q36.2 (by simp[Q36]) ?_
       simp(disch:=try exact dI) only[Q36,push_cast,seval]
       refine ab.pure hn rfl ?_
       refine zgZ ?_
       refine ab.pure hc rfl ?_
       refine zgZ ?_
       refine ab.pure h3 rfl ?_
       exact qsZ
     | some q=>
       rw[hq] at h3
       simp only[Kx] at h3
       obtain⟨ms,q⟩:=q
       simp only at h3 ⊢
       have hms:0<=ms/\ms<=999:=by
        unfold mj at hq
        split at hq
        ·rename_i hh
         cases hq
         exact nF hh.2
        ·cases hq
       by_cases hm0:ms=0
       ·rw[if_pos (Or.inl hm0)]
        subst hm0
        refine ak.intro Q36.2 (by simp[Q36]) ?_
        simp(disch:=try exact dI) only[Q36,push_cast,seval]
        refine ab.pure hn rfl ?_
        refine zgZ ?_
        refine ab.pure hc rfl ?_
        refine zgZ ?_
        refine ab.pure h3 rfl ?_
        exact qsZ
       ·by_cases hq90:q=[90]
        ·subst hq90
         rw[if_neg (by simp[hm0])]
         simp only
         unfold wA
         generalize gC y m d=R at *
         obtain⟨R1,R2⟩:=R
         simp only at hd hrg hee ⊢
         rcases hee with hz | hz
         ·have hrg':=hrg hz
          subst hz
          by_cases c1:23<h
          ·rw[if_pos (Or.inr (Or.inl c1))]
           refine ak.intro Q36.2 (by simp[Q36]) ?_
           simp(disch:=try exact dI) only[Q36,push_cast,seval]
           refine ab.pure hn rfl ?_
           refine zgZ ?_
           refine ab.pure hc rfl ?_
           refine zgZ ?_
           refine ab.pure h3 rfl ?_
           simp(disch:=try exact dI) only[az,rE1,rE2,rE3,rE4,rE5,push_cast,seval]
           refine ae hd rfl ?_
           simp(disch:=try exact dI) only[az,rE1,rE2,rE3,rE4,rE5,push_cast,seval]
          by_cases c2:59<mi
          ·rw[if_pos (Or.inr (Or.inr (Or.inl c2)))]
           refine ak.intro Q36.2 (by simp[Q36]) ?_
           simp(disch:=try exact dI) only[Q36,push_cast,seval]
           refine ab.pure hn rfl ?_
           refine zgZ ?_
           refine ab.pure hc rfl ?_
           refine zgZ ?_
           refine ab.pure h3 rfl ?_
           simp(disch:=try exact dI) only[az,rE1,rE2,rE3,rE4,rE5,push_cast,seval]
           refine ae hd rfl ?_
           simp(disch:=try exact dI) only[az,rE1,rE2,rE3,rE4,rE5,push_cast,seval]
          by_cases c3:59<sec
          ·rw[if_pos (Or.inr (Or.inr (Or.inr c3)))]
           refine ak.intro Q36.2 (by simp[Q36]) ?_
           simp(disch:=try exact dI) only[Q36,push_cast,seval]
           refine ab.pure hn rfl ?_
           refine zgZ ?_
           refine ab.pure hc rfl ?_
           refine zgZ ?_
           refine ab.pure h3 rfl ?_
           simp(disch:=try exact dI) only[az,rE1,rE2,rE3,rE4,rE5,push_cast,seval]
           refine ae hd rfl ?_
           simp(disch:=try exact dI) only[az,rE1,rE2,rE3,rE4,rE5,push_cast,seval]
          rw[if_neg (by simp;omega)]
          have hj:=Kz hrg' (r:=((60*h+mi)*60+sec)*1000+ms) (by omega)
          refine ak.intro Q36.2 (by simp[Q36]) ?_
          simp(disch:=try exact dI) only[Q36,push_cast,seval]
          refine ab.pure hn rfl ?_
          refine zgZ ?_
          refine ab.pure hc rfl ?_
          refine zgZ ?_
          refine ab.pure h3 rfl ?_
          simp(disch:=try exact dI) only[az,rE1,rE2,rE3,rE4,rE5,push_cast,seval]
          refine ae hd rfl ?_
          simp(disch:=try exact dI) only[az,rE1,rE2,rE3,rE4,rE5,push_cast,seval]
          refine ae hj rfl ?_
          exact qsZ
         ·subst hz
          rw[if_pos (Or.inl (by decide))]
          refine ak.intro Q36.2 (by simp[Q36]) ?_
          simp(disch:=try exact dI) only[Q36,push_cast,seval]
          refine ab.pure hn rfl ?_
          refine zgZ ?_
          refine ab.pure hc rfl ?_
          refine zgZ ?_
          refine ab.pure h3 rfl ?_
          simp(disch:=try exact dI) only[az,rE1,rE2,rE3,rE4,rE5,push_cast,seval]
          refine ae hd rfl ?_
          simp(disch:=try exact dI) only[az,rE1,rE2,rE3,rE4,rE5,push_cast,seval]
        ·rw[if_pos (Or.inr hq90)]
         have hqd:(!decide (q=[90]))=true:=by simp[hq90]
         refine ak.intro Q36.2 (by simp[Q36]) ?_
         simp(disch:=try exact dI) only[Q36,push_cast,seval]
         refine ab.pure hn rfl ?_
         refine zgZ ?_
         refine ab.pure hc rfl ?_
         refine zgZ ?_
         refine ab.pure h3 rfl ?_
         simp(disch:=try exact dI) only[hqd,push_cast,seval]
   | false=>
     rw[hb] at hc
     simp only[Bool.false_eq_true,if_false] at hc
     unfold rK
     rw[hb,if_neg (by simp)]
     by_cases hr90:r=[90]
     ·subst hr90
      rw[if_pos rfl]
      simp only
      unfold wA
      generalize gC y m d=R at *
      obtain⟨R1,R2⟩:=R
      simp only at hd hrg hee ⊢
      rcases hee with hz | hz
      ·have hrg':=hrg hz
       subst hz
       by_cases c1:23<h
       ·rw[if_pos (Or.inr (Or.inl c1))]
        refine ak.intro Q36.2 (by simp[Q36]) ?_
        simp(disch:=try exact dI) only[Q36,push_cast,seval]
        refine ab.pure hn rfl ?_
        refine zgZ ?_
        refine ab.pure hc rfl ?_
        simp(disch:=try exact dI) only[az,rE1,rE2,rE3,rE4,rE5,push_cast,seval]
        refine ae hd rfl ?_
        simp(disch:=try exact dI) only[az,rE1,rE2,rE3,rE4,rE5,push_cast,seval]
       by_cases c2:59<mi
       ·rw[if_pos (Or.inr (Or.inr (Or.inl c2)))]
        refine ak.intro Q36.2 (by simp[Q36]) ?_
        simp(disch:=try exact dI) only[Q36,push_cast,seval]
        refine ab.pure hn rfl ?_
        refine zgZ ?_
        refine ab.pure hc rfl ?_
        simp(disch:=try exact dI) only[az,rE1,rE2,rE3,rE4,rE5,push_cast,seval]
        refine ae hd rfl ?_
        simp(disch:=try exact dI) only[az,rE1,rE2,rE3,rE4,rE5,push_cast,seval]
       by_cases c3:59<sec
       ·rw[if_pos (Or.inr (Or.inr (Or.inr c3)))]
        refine ak.intro Q36.2 (by simp[Q36]) ?_
        simp(disch:=try exact dI) only[Q36,push_cast,seval]
        refine ab.pure hn rfl ?_
        refine zgZ ?_
        refine ab.pure hc rfl ?_
        simp(disch:=try exact dI) only[az,rE1,rE2,rE3,rE4,rE5,push_cast,seval]
        refine ae hd rfl ?_
        simp(disch:=try exact dI) only[az,rE1,rE2,rE3,rE4,rE5,push_cast,seval]
       rw[if_neg (by simp;omega)]
       have hj:=Kz hrg' (r:=((60*h+mi)*60+sec)*1000+0) (by omega)
       refine ak.intro Q36.2 (by simp[Q36]) ?_
       simp(disch:=try exact dI) only[Q36,push_cast,seval]
       refine ab.pure hn rfl ?_
       refine zgZ ?_
       refine ab.pure hc rfl ?_
       simp(disch:=try exact dI) only[az,rE1,rE2,rE3,rE4,rE5,push_cast,seval]
       refine ae hd rfl ?_
       simp(disch:=try exact dI) only[az,rE1,rE2,rE3,rE4,rE5,push_cast,seval]
       refine ae hj rfl ?_
       exact qsZ
      ·subst hz
       rw[if_pos (Or.inl (by decide))]
       refine ak.intro Q36.2 (by simp[Q36]) ?_
       simp(disch:=try exact dI) only[Q36,push_cast,seval]
       refine ab.pure hn rfl ?_
       refine zgZ ?_
       refine ab.pure hc rfl ?_
       simp(disch:=try exact dI) only[az,rE1,rE2,rE3,rE4,rE5,push_cast,seval]
       refine ae hd rfl ?_
       simp(disch:=try exact dI) only[az,rE1,rE2,rE3,rE4,rE5,push_cast,seval]
     ·rw[if_neg hr90]
      have hrd:(!decide (r=[90]))=true:=by simp[hr90]
      refine ak.intro Q36.2 (by simp[Q36]) ?_
      simp(disch:=try exact dI) only[Q36,push_cast,seval]
      refine ab.pure hn rfl ?_
      refine zgZ ?_
      refine ab.pure hc rfl ?_
      simp(disch:=try exact dI) only[hrd,push_cast,seval]
theorem qH (r:List UInt8):aT r [90]=decide (r=[90]):=by
 match r with
 | []=>rfl
 | [c]=>simp[aT,uE]
 | c::d::r=>simp[aT]
theorem Ey {l:List UInt8}(hl:l.length=3)(hd:l.all isD=true):fw 0 l=0↔l=[48,48,48]:=by
 match l,hl with
 | [a,b,c],_=>
   simp only[List.all_cons,List.all_nil,Bool.and_true,Bool.and_eq_true] at hd
   have ha:=cD hd.1
   have hb:=cD hd.2.1
   have hc:=cD hd.2.2
   simp only[fw]
   constructor
   ·intro h
    have e1:a=48:=UInt8.toNat_inj.1 (by simpa using (by omega:a.toNat=48))
    have e2:b=48:=UInt8.toNat_inj.1 (by simpa using (by omega:b.toNat=48))
    have e3:c=48:=UInt8.toNat_inj.1 (by simpa using (by omega:c.toNat=48))
    rw[e1,e2,e3]
   ·intro h
    cases h
    rfl
def sy:List UInt8:=[48,48,48,48,45,48,48,45,48,48,84,48,48,58,48,48,58,48,48,46,48,48,48,90]
def sA:List UInt8:=[48,48,48,48,45,48,48,45,48,48,84,48,48,58,48,48,58,48,48,90]
theorem HJ:sy=pat msT ksT++[46,48,48,48,90]:=rfl
theorem HK:sA=pat msT ksT++[90]:=rfl
theorem Gn (r:List UInt8):rK r=if aT r [46,48,48,48,90]=true/\(r.drop 1).take 3≠[48,48,48] then some (fw 0 ((r.drop 1).take 3)) else if r=[90] then some 0 else none:=by
 have e:aT r [46,48,48,48,90]=(gI [46] r&&(decide (3<=(r.drop 1).length/\((r.drop 1).take 3).all isD=true)&&decide ((r.drop 1).drop 3=[90]))):=by
  rw[show ([46,48,48,48,90]:List UInt8)=[46]++(List.replicate 3 48++[90]) from rfl,fU _ _ _ (by simp),ii,qH]
  rfl
 rw[e]
 unfold rK
 cases hb:gI [46] r with
 | false=>simp
 | true=>
   have hr:r≠[90]:=by intro h;subst h;simp[gI] at hb
   rw[if_pos rfl,Bool.true_and,if_neg hr]
   unfold mj
   by_cases hd:3<=(r.drop 1).length/\((r.drop 1).take 3).all isD=true
   ·rw[if_pos hd,decide_eq_true hd,Bool.true_and]
    have hz:=Ey (l:=(r.drop 1).take 3) (by rw[List.length_take];omega) hd.2
    simp only
    by_cases h1:(r.drop 1).drop 3=[90]
    ·rw[decide_eq_true h1]
     by_cases h2:(r.drop 1).take 3=[48,48,48]
     ·rw[if_pos (Or.inl (hz.2 h2)),if_neg fun h=>h.2 h2]
     ·rw[if_neg (by rintro (h | h);exact h2 (hz.1 h);exact h h1),if_pos ⟨rfl,h2⟩]
    ·rw[if_pos (Or.inr h1),decide_eq_false h1,if_neg (by simp)]
   ·rw[if_neg hd,decide_eq_false hd]
    simp
theorem uG {m:List UInt8}{ms:List (List UInt8)}{k:Nat}{ks:List Nat}{s:List UInt8}{p:List Int×List UInt8}(h:bV (m::ms) (k::ks) s=some p):gI m s=true:=by
 simp only[bV] at h
 split at h
 ·rename_i hc;exact hc
 ·cases h
structure NumsT (s:List UInt8)(y m d h mi sec:Int):Prop where
 len:19<=s.length
 day:bK (s.take 10)=gC y m d
 h1:((s.drop 11).take 2).all isD=true
 h2:h=fw 0 ((s.drop 11).take 2)
 m1:((s.drop 14).take 2).all isD=true
 m2:mi=fw 0 ((s.drop 14).take 2)
 s1:((s.drop 17).take 2).all isD=true
 s2:sec=fw 0 ((s.drop 17).take 2)
theorem SR {s:List UInt8}{l:List Int}{r:List UInt8}(hv:bV msT ksT s=some (l,r)):∃ y m d h mi sec,l=[y,m,d,h,mi,sec]/\r=s.drop 19/\NumsT s y m d h mi sec:=by
 have hl:=fk hv
 simp only[msT] at hl
 obtain⟨y,m,d,h,mi,sec,rfl⟩:∃ y m d h mi sec,l=[y,m,d,h,mi,sec]:=by
  match l,hl with
  | [y,m,d,h,mi,sec],_=>exact⟨y,m,d,h,mi,sec,rfl⟩
 simp only[msT,ksT] at hv
 obtain⟨a1,a2,a3,n1⟩:=a8 hv
 obtain⟨b1,b2,b3,n2⟩:=a8 n1
 obtain⟨c1,c2,c3,n3⟩:=a8 n2
 obtain⟨d1,d2,d3,n4⟩:=a8 n3
 obtain⟨e1,e2,e3,n5⟩:=a8 n4
 obtain⟨f1,f2,f3,n6⟩:=a8 n5
 simp only[List.length_nil,List.length_cons,List.drop_zero,List.drop_drop,Nat.reduceAdd,List.length_drop] at a1 a2 a3 b1 b2 b3 c1 c2 c3 d1 d2 d3 e1 e2 e3 f1 f2 f3 n6
 have hr:r=s.drop 19:=by
  simp only[bV,Option.some.injEq,Prod.mk.injEq] at n6
  exact n6.2.symm
 refine⟨y,m,d,h,mi,sec,rfl,hr,⟨by omega,?_,d2,d3,e2,e3,f2,f3⟩⟩
 have hp1:=uG n1
 have hp2:=uG n2
 simp only[List.length_nil,List.drop_zero,List.length_cons,List.drop_drop,Nat.reduceAdd] at hp1 hp2
 have pt:∀ k,k+1<=10->gI [45] (s.drop k)=true->gI [45] ((s.take 10).drop k)=true:=by
  intro k hk hp
  simp only[gI,List.length_cons,List.length_nil,decide_eq_true_eq,List.length_drop,List.length_take] at hp ⊢
  refine⟨?_,by omega⟩
  rw[List.drop_take,List.take_take,show min (0+1) (10 - k)=0+1 by omega]
  exact hp.1
 have tt:∀ k,k+2<=10->((s.take 10).drop k).take 2=(s.drop k).take 2:=by
  intro k hk
  rw[List.drop_take,List.take_take,show min 2 (10 - k)=2 by omega]
 have w0:mj 4 (s.take 10)=some (y,(s.take 10).drop 4):=by
  unfold mj
  have e4:(s.take 10).take 4=s.take 4:=by rw[List.take_take];rfl
  rw[e4,if_pos ⟨by rw[List.length_take];omega,a2⟩,a3]
 have w1:mj 2 ((s.take 10).drop 5)=some (m,(s.take 10).drop 7):=by
  unfold mj
  rw[tt 5 (by omega),if_pos ⟨by rw[List.length_drop,List.length_take];omega,b2⟩,b3,List.drop_drop]
 have w2:mj 2 ((s.take 10).drop 8)=some (d,[]):=by
  unfold mj
  rw[tt 8 (by omega),if_pos ⟨by rw[List.length_drop,List.length_take];omega,c2⟩,c3,List.drop_drop,show List.drop (8+2) (s.take 10)=[] from List.drop_eq_nil_of_le (by rw[List.length_take];omega)]
 have:bV [[],[45],[45]] [4,2,2] (s.take 10)=some ([y,m,d],[]):=by
  simp only[bV,uz,if_true,List.length_nil,List.drop_zero,w0,pt 4 (by omega) hp1,List.length_cons,Nat.zero_add,List.drop_drop,Nat.reduceAdd,w1,pt 7 (by omega) hp2,w2,Option.map_some]
 unfold bK
 rw[this]
end Go.Proofs.YtbaaokocnegdoaaGreatDoor
