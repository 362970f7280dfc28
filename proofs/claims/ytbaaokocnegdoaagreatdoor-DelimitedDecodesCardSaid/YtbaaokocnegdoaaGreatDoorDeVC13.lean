/- A part of the proof. -/
import Derived.Test.YtbaaokocnegdoaaGreatDoorDeVC10
set_option linter.unusedVariables false
set_option linter.unusedSimpArgs false
set_option maxHeartbeats 16000000
set_option maxRecDepth 100000
namespace Go.Proofs.YtbaaokocnegdoaaGreatDoor
open Go Go.Ab
attribute [local irreducible] vc
theorem sB (s:List UInt8):ak Tryz.prog aq 84 [.str s] (.tup [.int .i64 (bZ s).1,.int .i64 (bZ s).2]):=by
 have hf1:=tn s sy (by decide)
 have hf2:=tn s sA (by decide)
 have i1:=ig msT ksT s [46,48,48,48,90] rfl (by simp[msT])
 have i2:=ig msT ksT s [90] rfl (by simp[msT])
 rw[<- HJ] at i1
 rw[<- HK] at i2
 unfold bZ
 cases hv:bV msT ksT s with
 | none=>
   have g1:aT s sy=false:=by
    cases hb:aT s sy with
    | false=>rfl
    | true=>obtain⟨p,hp,_⟩:=i1.1 hb;rw[hv] at hp;cases hp
   have g2:aT s sA=false:=by
    cases hb:aT s sA with
    | false=>rfl
    | true=>obtain⟨p,hp,_⟩:=i2.1 hb;rw[hv] at hp;cases hp
   rw[g1] at hf1
   rw[g2] at hf2
   simp only[sy] at hf1
   simp only[sA] at hf2
   refine ak.intro Q84.2 (by simp[Q84]) ?_
   simp(disch:=try exact dI) only[Q84,push_cast,seval]
   refine ab.pure hf1 rfl ?_
   refine zgZ ?_
   refine ab.pure hf2 rfl ?_
   exact qsZ
 | some p=>
   obtain⟨l,r⟩:=p
   obtain⟨y,m,d,h,mi,sec,rfl,hr,N⟩:=SR hv
   have g1:aT s sy=aT r [46,48,48,48,90]:=by
    rw[Bool.eq_iff_iff,i1,hv]
    constructor
    ·rintro⟨p,hp,h2⟩;cases hp;exact h2
    ·intro h2;exact⟨_,rfl,h2⟩
   have g2:aT s sA=decide (r=[90]):=by
    rw[Bool.eq_iff_iff,i2,hv,<- qH]
    constructor
    ·rintro⟨p,hp,h2⟩;cases hp;exact h2
    ·intro h2;exact⟨_,rfl,h2⟩
   have hlen:=N.len
   have hsl:List.drop 20 (List.take 23 s)=(r.drop 1).take 3:=by rw[hr,List.drop_drop,List.drop_take]
   have e1:List.drop 11 (List.take 13 s)=(s.drop 11).take 2:=by rw[List.drop_take]
   have e2:List.drop 14 (List.take 16 s)=(s.drop 14).take 2:=by rw[List.drop_take]
   have e3:List.drop 17 (List.take 19 s)=(s.drop 17).take 2:=by rw[List.drop_take]
   have n1:=kW ((s.drop 11).take 2) (by rw[List.length_take];omega) N.h1
   have n2:=kW ((s.drop 14).take 2) (by rw[List.length_take];omega) N.m1
   have n3:=kW ((s.drop 17).take 2) (by rw[List.length_take];omega) N.s1
   have b1:=mF N.h1
   have b2:=mF N.m1
   have b3:=mF N.s1
   rw[<- N.h2] at n1 b1
   rw[<- N.m2] at n2 b2
   rw[<- N.s2] at n3 b3
   have hd:=um (s.take 10)
   rw[N.day] at hd
   have hrg:=fun h=>jd (y:=y) (m:=m) (d:=d) h
   have hee:=vF y m d
   simp only
   rw[Gn]
   rw[g1] at hf1
   rw[g2] at hf2
   simp only[sy] at hf1
   simp only[sA] at hf2
   have hr19:r.length=s.length - 19:=by rw[hr,List.length_drop]
   clear i1 i2 g1 g2 N hv hr
   by_cases hA:aT r [46,48,48,48,90]=true/\(r.drop 1).take 3≠[48,48,48]
   ·rw[if_pos hA]
    have hl5:r.length=5:=fu hA.1
    have hall:((r.drop 1).take 3).all isD=true:=by
     have h1:=hA.1
     rw[show ([46,48,48,48,90]:List UInt8)=[46]++(List.replicate 3 48++[90]) from rfl,fU _ _ _ (by simp),ii,Bool.and_eq_true,Bool.and_eq_true] at h1
     exact (of_decide_eq_true h1.2.1).2
    have n0:=kW ((r.drop 1).take 3) (by rw[List.length_take];omega) hall
    have b0:=nF hall
    have hne:(!decide ((r.drop 1).take 3=[48,48,48]))=true:=by simp only[decide_eq_false hA.2,Bool.not_false]
    have hne':(r.drop 1).take 3≠[48,48,48]:=hA.2
    rw[hA.1] at hf1
    generalize ((r.drop 1).take 3)=q at *
    generalize fw 0 q=ms at *
    simp only
    unfold wA
    generalize gC y m d=R at *
    obtain⟨R1,R2⟩:=R
    simp only at hd hrg hee ⊢
    clear hA hall
    rcases hee with hz | hz
    ·have hrg2:=hrg hz
     subst hz
     by_cases c1:23<h
     ·rw[if_pos (Or.inr (Or.inl c1))]
      refine ak.intro Q84.2 (by simp[Q84]) ?_
      simp(disch:=try exact dI) only[Q84,push_cast,seval]
      refine ab.pure hf1 rfl ?_
      simp(disch:=try exact dI) only[hsl,hne,push_cast,seval]
      refine ab.pure n0 rfl ?_
      refine zgZ ?_
      refine ab.pure hd rfl ?_
      simp(disch:=try exact dI) only[e1,e2,e3,push_cast,seval]
      refine ae n1 rfl ?_
      simp(disch:=try exact dI) only[e1,e2,e3,push_cast,seval]
      refine ae n2 rfl ?_
      simp(disch:=try exact dI) only[e1,e2,e3,push_cast,seval]
      refine ab.pure n3 rfl ?_
      simp(disch:=try exact dI) only[e1,e2,e3,push_cast,seval]
     by_cases c2:59<mi
     ·rw[if_pos (Or.inr (Or.inr (Or.inl c2)))]
      refine ak.intro Q84.2 (by simp[Q84]) ?_
      simp(disch:=try exact dI) only[Q84,push_cast,seval]
      refine ab.pure hf1 rfl ?_
      simp(disch:=try exact dI) only[hsl,hne,push_cast,seval]
      refine ab.pure n0 rfl ?_
      refine zgZ ?_
      refine ab.pure hd rfl ?_
      simp(disch:=try exact dI) only[e1,e2,e3,push_cast,seval]
      refine ae n1 rfl ?_
      simp(disch:=try exact dI) only[e1,e2,e3,push_cast,seval]
      refine ae n2 rfl ?_
      simp(disch:=try exact dI) only[e1,e2,e3,push_cast,seval]
      refine ab.pure n3 rfl ?_
      simp(disch:=try exact dI) only[e1,e2,e3,push_cast,seval]
     by_cases c3:59<sec
     ·rw[if_pos (Or.inr (Or.inr (Or.inr c3)))]
      refine ak.intro Q84.2 (by simp[Q84]) ?_
      simp(disch:=try exact dI) only[Q84,push_cast,seval]
      refine ab.pure hf1 rfl ?_
      simp(disch:=try exact dI) only[hsl,hne,push_cast,seval]
      refine ab.pure n0 rfl ?_
      refine zgZ ?_
      refine ab.pure hd rfl ?_
      simp(disch:=try exact dI) only[e1,e2,e3,push_cast,seval]
      refine ae n1 rfl ?_
      simp(disch:=try exact dI) only[e1,e2,e3,push_cast,seval]
      refine ae n2 rfl ?_
      simp(disch:=try exact dI) only[e1,e2,e3,push_cast,seval]
      refine ab.pure n3 rfl ?_
      simp(disch:=try exact dI) only[e1,e2,e3,push_cast,seval]
     rw[if_neg (by simp;omega)]
     have he:(R1*86400000+(((60*h+mi)*60+sec)*1000+ms))=R1*86400000+h*3600000+mi*60000+sec*1000+ms:=by omega
     rw[he]
     refine ak.intro Q84.2 (by simp[Q84]) ?_
     simp(disch:=try exact dI) only[Q84,push_cast,seval]
     refine ab.pure hf1 rfl ?_
     simp(disch:=try exact dI) only[hsl,hne,push_cast,seval]
     refine ab.pure n0 rfl ?_
     refine zgZ ?_
     refine ab.pure hd rfl ?_
     simp(disch:=try exact dI) only[e1,e2,e3,push_cast,seval]
     refine ae n1 rfl ?_
     simp(disch:=try exact dI) only[e1,e2,e3,push_cast,seval]
     refine ae n2 rfl ?_
     simp(disch:=try exact dI) only[e1,e2,e3,push_cast,seval]
     refine ab.pure n3 rfl ?_
     simp(disch:=try exact dI) only[e1,e2,e3,push_cast,seval]
    ·subst hz
     rw[if_pos (Or.inl (by decide))]
     refine ak.intro Q84.2 (by simp[Q84]) ?_
     simp(disch:=try exact dI) only[Q84,push_cast,seval]
     refine ab.pure hf1 rfl ?_
     simp(disch:=try exact dI) only[hsl,hne,push_cast,seval]
     refine ab.pure n0 rfl ?_
     refine zgZ ?_
     refine ab.pure hd rfl ?_
     simp(disch:=try exact dI) only[e1,e2,e3,push_cast,seval]
     refine ae n1 rfl ?_
     simp(disch:=try exact dI) only[e1,e2,e3,push_cast,seval]
     refine ae n2 rfl ?_
     simp(disch:=try exact dI) only[e1,e2,e3,push_cast,seval]
     refine ab.pure n3 rfl ?_
     simp(disch:=try exact dI) only[e1,e2,e3,push_cast,seval]
   ·rw[if_neg hA]
    by_cases hr90:r=[90]
    ·subst hr90
     rw[if_pos rfl]
     rw[show aT [90] [46,48,48,48,90]=false from rfl] at hf1
     rw[decide_eq_true rfl] at hf2
     simp only[List.length_cons,List.length_nil] at hr19
     simp only
     unfold wA
     generalize gC y m d=R at *
     obtain⟨R1,R2⟩:=R
     simp only at hd hrg hee ⊢
     rcases hee with hz | hz
     ·have hrg2:=hrg hz
      subst hz
      by_cases c1:23<h
      ·rw[if_pos (Or.inr (Or.inl c1))]
       refine ak.intro Q84.2 (by simp[Q84]) ?_
       simp(disch:=try exact dI) only[Q84,push_cast,seval]
       refine ab.pure hf1 rfl ?_
       refine zgZ ?_
       refine ab.pure hf2 rfl ?_
       refine zgZ ?_
       refine ab.pure hd rfl ?_
       simp(disch:=try exact dI) only[e1,e2,e3,push_cast,seval]
       refine ae n1 rfl ?_
       simp(disch:=try exact dI) only[e1,e2,e3,push_cast,seval]
       refine ae n2 rfl ?_
       simp(disch:=try exact dI) only[e1,e2,e3,push_cast,seval]
       refine ab.pure n3 rfl ?_
       simp(disch:=try exact dI) only[e1,e2,e3,push_cast,seval]
      by_cases c2:59<mi
      ·rw[if_pos (Or.inr (Or.inr (Or.inl c2)))]
       refine ak.intro Q84.2 (by simp[Q84]) ?_
       simp(disch:=try exact dI) only[Q84,push_cast,seval]
       refine ab.pure hf1 rfl ?_
       refine zgZ ?_
       refine ab.pure hf2 rfl ?_
       refine zgZ ?_
       refine ab.pure hd rfl ?_
       simp(disch:=try exact dI) only[e1,e2,e3,push_cast,seval]
       refine ae n1 rfl ?_
       simp(disch:=try exact dI) only[e1,e2,e3,push_cast,seval]
       refine ae n2 rfl ?_
       simp(disch:=try exact dI) only[e1,e2,e3,push_cast,seval]
       refine ab.pure n3 rfl ?_
       simp(disch:=try exact dI) only[e1,e2,e3,push_cast,seval]
      by_cases c3:59<sec
      ·rw[if_pos (Or.inr (Or.inr (Or.inr c3)))]
       refine ak.intro Q84.2 (by simp[Q84]) ?_
       simp(disch:=try exact dI) only[Q84,push_cast,seval]
       refine ab.pure hf1 rfl ?_
       refine zgZ ?_
       refine ab.pure hf2 rfl ?_
       refine zgZ ?_
       refine ab.pure hd rfl ?_
       simp(disch:=try exact dI) only[e1,e2,e3,push_cast,seval]
       refine ae n1 rfl ?_
       simp(disch:=try exact dI) only[e1,e2,e3,push_cast,seval]
       refine ae n2 rfl ?_
       simp(disch:=try exact dI) only[e1,e2,e3,push_cast,seval]
       refine ab.pure n3 rfl ?_
       simp(disch:=try exact dI) only[e1,e2,e3,push_cast,seval]
      rw[if_neg (by simp;omega)]
      have he:(R1*86400000+(((60*h+mi)*60+sec)*1000+0))=R1*86400000+h*3600000+mi*60000+sec*1000+0:=by omega
      rw[he]
      refine ak.intro Q84.2 (by simp[Q84]) ?_
      simp(disch:=try exact dI) only[Q84,push_cast,seval]
      refine ab.pure hf1 rfl ?_
      refine zgZ ?_
      refine ab.pure hf2 rfl ?_
      refine zgZ ?_
      refine ab.pure hd rfl ?_
      simp(disch:=try exact dI) only[e1,e2,e3,push_cast,seval]
      refine ae n1 rfl ?_
      simp(disch:=try exact dI) only[e1,e2,e3,push_cast,seval]
      refine ae n2 rfl ?_
      simp(disch:=try exact dI) only[e1,e2,e3,push_cast,seval]
      refine ab.pure n3 rfl ?_
      simp(disch:=try exact dI) only[e1,e2,e3,push_cast,seval]
     ·subst hz
      rw[if_pos (Or.inl (by decide))]
      refine ak.intro Q84.2 (by simp[Q84]) ?_
      simp(disch:=try exact dI) only[Q84,push_cast,seval]
      refine ab.pure hf1 rfl ?_
      refine zgZ ?_
      refine ab.pure hf2 rfl ?_
      refine zgZ ?_
      refine ab.pure hd rfl ?_
      simp(disch:=try exact dI) only[e1,e2,e3,push_cast,seval]
      refine ae n1 rfl ?_
      simp(disch:=try exact dI) only[e1,e2,e3,push_cast,seval]
      refine ae n2 rfl ?_
      simp(disch:=try exact dI) only[e1,e2,e3,push_cast,seval]
      refine ab.pure n3 rfl ?_
      simp(disch:=try exact dI) only[e1,e2,e3,push_cast,seval]
    ·rw[if_neg hr90]
     rw[decide_eq_false hr90] at hf2
     cases hb:aT r [46,48,48,48,90] with
     | false=>
       rw[hb] at hf1
       refine ak.intro Q84.2 (by simp[Q84]) ?_
       simp(disch:=try exact dI) only[Q84,push_cast,seval]
       refine ab.pure hf1 rfl ?_
       refine zgZ ?_
       refine ab.pure hf2 rfl ?_
       exact qsZ
     | true=>
       have hl5:r.length=5:=fu hb
       have hq:(r.drop 1).take 3=[48,48,48]:=by
        rw[hb] at hA
        exact Decidable.of_not_not fun h=>hA ⟨rfl,h⟩
       rw[hb] at hf1
       refine ak.intro Q84.2 (by simp[Q84]) ?_
       simp(disch:=try exact dI) only[Q84,push_cast,seval]
       refine ab.pure hf1 rfl ?_
       simp(disch:=try exact dI) only[hsl,hq,push_cast,seval]
       refine ab.pure hf2 rfl ?_
       exact qsZ
noncomputable def mJ:List TabRow:=⟨139,[],gF Tryz.prog 139 []⟩::⟨140,[],gF Tryz.prog 140 []⟩::⟨185,[],gF Tryz.prog 185 []⟩::tab
theorem bC:∀ r∈mJ,cFn Tryz.prog r.muts r.f=some r.fn:=by
 intro r hr
 simp only[mJ,List.mem_cons] at hr
 rcases hr with rfl | rfl | rfl | hr
 ·kernel_rfl
 ·kernel_rfl
 ·kernel_rfl
 ·exact Kd r hr
theorem G1:∀ k:Nat,k<=17->ak Tryz.prog aq 89 [.str [48],.int .i64 (k:Int)] (.str (List.replicate k 48))
 | 0,_=>ak.of_ex bC ci (by kernel_rfl:dt (exF mJ orc aq 5000 60) 89 [.str [48],.int .i64 0]=some (.str (List.replicate 0 48)))
 | 1,_=>ak.of_ex bC ci (by kernel_rfl:dt (exF mJ orc aq 5000 60) 89 [.str [48],.int .i64 1]=some (.str (List.replicate 1 48)))
 | 2,_=>ak.of_ex bC ci (by kernel_rfl:dt (exF mJ orc aq 5000 60) 89 [.str [48],.int .i64 2]=some (.str (List.replicate 2 48)))
 | 3,_=>ak.of_ex bC ci (by kernel_rfl:dt (exF mJ orc aq 5000 60) 89 [.str [48],.int .i64 3]=some (.str (List.replicate 3 48)))
 | 4,_=>ak.of_ex bC ci (by kernel_rfl:dt (exF mJ orc aq 5000 60) 89 [.str [48],.int .i64 4]=some (.str (List.replicate 4 48)))
 | 5,_=>ak.of_ex bC ci (by kernel_rfl:dt (exF mJ orc aq 5000 60) 89 [.str [48],.int .i64 5]=some (.str (List.replicate 5 48)))
 | 6,_=>ak.of_ex bC ci (by kernel_rfl:dt (exF mJ orc aq 5000 60) 89 [.str [48],.int .i64 6]=some (.str (List.replicate 6 48)))
 | 7,_=>ak.of_ex bC ci (by kernel_rfl:dt (exF mJ orc aq 5000 60) 89 [.str [48],.int .i64 7]=some (.str (List.replicate 7 48)))
 | 8,_=>ak.of_ex bC ci (by kernel_rfl:dt (exF mJ orc aq 5000 60) 89 [.str [48],.int .i64 8]=some (.str (List.replicate 8 48)))
 | 9,_=>ak.of_ex bC ci (by kernel_rfl:dt (exF mJ orc aq 5000 60) 89 [.str [48],.int .i64 9]=some (.str (List.replicate 9 48)))
 | 10,_=>ak.of_ex bC ci (by kernel_rfl:dt (exF mJ orc aq 5000 60) 89 [.str [48],.int .i64 10]=some (.str (List.replicate 10 48)))
 | 11,_=>ak.of_ex bC ci (by kernel_rfl:dt (exF mJ orc aq 5000 60) 89 [.str [48],.int .i64 11]=some (.str (List.replicate 11 48)))
 | 12,_=>ak.of_ex bC ci (by kernel_rfl:dt (exF mJ orc aq 5000 60) 89 [.str [48],.int .i64 12]=some (.str (List.replicate 12 48)))
 | 13,_=>ak.of_ex bC ci (by kernel_rfl:dt (exF mJ orc aq 5000 60) 89 [.str [48],.int .i64 13]=some (.str (List.replicate 13 48)))
 | 14,_=>ak.of_ex bC ci (by kernel_rfl:dt (exF mJ orc aq 5000 60) 89 [.str [48],.int .i64 14]=some (.str (List.replicate 14 48)))
 | 15,_=>ak.of_ex bC ci (by kernel_rfl:dt (exF mJ orc aq 5000 60) 89 [.str [48],.int .i64 15]=some (.str (List.replicate 15 48)))
 | 16,_=>ak.of_ex bC ci (by kernel_rfl:dt (exF mJ orc aq 5000 60) 89 [.str [48],.int .i64 16]=some (.str (List.replicate 16 48)))
 | 17,_=>ak.of_ex bC ci (by kernel_rfl:dt (exF mJ orc aq 5000 60) 89 [.str [48],.int .i64 17]=some (.str (List.replicate 17 48)))
 | k+18,h=>absurd h (by omega)
def bv:Nat->Nat->List UInt8
 | 0,_=>[]
 | k+1,n=>bv k (n / 10)++[UInt8.ofNat (48+n % 10)]
theorem cS:∀ (k n:Nat),(bv k n).length=k
 | 0,_=>rfl
 | k+1,n=>by simp[bv,cS k]
theorem pT:∀ k:Nat,bv k 0=List.replicate k 48
 | 0=>rfl
 | k+1=>by rw[bv,show 0 / 10=0 from rfl,pT k,List.replicate_succ'];rfl
theorem gB:∀ (k f n:Nat),n<10 ^ f->n<10 ^ (k+1)->0<f->List.replicate (k+1 - (bP f n).length) 48++bP f n=bv (k+1) n
 | k,0,n,_,_,h=>absurd h (by omega)
 | k,f+1,n,hf,hk,_=>by
   rw[bP]
   by_cases h:n<10
   ·rw[if_pos h,bv,show n / 10=0 by omega,pT,show n % 10=n by omega]
    simp
   ·rw[if_neg h]
    cases k with
    | zero=>simp at hk;omega
    | succ k=>
      have hf':n / 10<10 ^ f:=by rw[Nat.pow_succ] at hf;exact Nat.div_lt_of_lt_mul (by rw[Nat.mul_comm];exact hf)
      have hk':n / 10<10 ^ (k+1):=by rw[Nat.pow_succ] at hk;exact Nat.div_lt_of_lt_mul (by rw[Nat.mul_comm];exact hk)
      have h0:0<f:=by
       cases f with
       | zero=>simp at hf;omega
       | succ f=>omega
      have ih:=gB k f (n / 10) hf' hk' h0
      rw[bv,<- ih,List.length_append,List.append_assoc]
      simp
theorem H0:∀ (l:List UInt8),l.all isD=true->bv l.length (fw 0 l).toNat=l:=by
 intro l
 induction hn:l.length generalizing l with
 | zero=>intro _;simp[List.length_eq_zero_iff.1 hn,bv]
 | succ k ih=>
   intro h
   obtain⟨a,c,rfl⟩:∃ a c,l=a++[c]:=by
    refine⟨l.dropLast,l.getLast (by intro e;simp[e] at hn),(List.dropLast_concat_getLast _).symm⟩
   rw[List.all_append,Bool.and_eq_true] at h
   have hc:=cD (c:=c) (by simpa using h.2)
   have h0:=(di a 0 (by omega) h.1).1
   rw[jY,bv]
   have e1:(10*fw 0 a+((c.toNat:Int) - 48)).toNat / 10=(fw 0 a).toNat:=by omega
   have e2:48+(10*fw 0 a+((c.toNat:Int) - 48)).toNat % 10=c.toNat:=by omega
   rw[e1,e2,ih a (by simpa using hn) h.1]
   simp
def Gm (y:Int)(m:Nat)(d:Int):List UInt8:=bv 4 y.toNat++[45]++bv 2 m++[45]++bv 2 d.toNat
def Lt (t:List UInt8)(h mi s ms:Nat):List UInt8:=t++([84]++bv 2 h++[58]++bv 2 mi++[58]++bv 2 s)++(if ms=0 then [] else [46]++bv 3 ms)++[90]
def Fg:List (List UInt8)->List Nat->List Int->List UInt8
 | m::ms,k::ks,v::l=>m++(bv k v.toNat++Fg ms ks l)
 | _,_,_=>[]
theorem pE {p s:List UInt8}(h:gI p s=true):s=p++s.drop p.length:=by
 have h1:=(of_decide_eq_true h).1
 have h2:=List.take_append_drop p.length s
 rw[h1] at h2
 exact h2.symm
theorem pV {k:Nat}{s:List UInt8}{p:Int×List UInt8}(h:mj k s=some p):s=bv k p.1.toNat++p.2/\0<=p.1:=by
 unfold mj at h
 split at h
 ·rename_i hh
  cases h
  have e:=H0 (s.take k) hh.2
  rw[List.length_take,Nat.min_eq_left hh.1] at e
  simp only
  rw[e,List.take_append_drop]
  exact⟨rfl,(di _ 0 (by omega) hh.2).1⟩
 ·cases h
theorem pQ:∀ (ms:List (List UInt8)) (ks:List Nat) (s:List UInt8) (l:List Int) (r:List UInt8),bV ms ks s=some (l,r)->s=Fg ms ks l++r/\∀ x,x∈l->0<=x
 | [],ks,s,l,r,h=>by
   simp only[bV,Option.some.injEq,Prod.mk.injEq] at h
   obtain⟨rfl,rfl⟩:=h
   exact⟨by simp[Fg],by simp⟩
 | m::ms,[],s,l,r,h=>by simp[bV] at h
 | m::ms,k::ks,s,l,r,h=>by
   simp only[bV] at h
   split at h
   ·rename_i hp
    split at h
    ·rename_i p hn
     simp only[Option.map_eq_some_iff] at h
     obtain⟨q,hq,he⟩:=h
     cases he
     obtain⟨q1,q2⟩:=q
     have ih:=pQ ms ks p.2 q1 q2 hq
     have hb:=pV hn
     refine⟨?_,?_⟩
     ·rw[Fg,List.append_assoc,List.append_assoc,<- ih.1,<- hb.1]
      exact pE hp
     ·intro x hx
      rcases List.mem_cons.1 hx with rfl | hx
      ·exact hb.2
      ·exact ih.2 x hx
    ·cases h
   ·cases h
theorem EJ {y m d n:Int}(h:gC y m d=(n,0)):DateOk y m.toNat d/\n=rz y m.toNat d - 719162:=by
 unfold gC at h
 split at h
 ·rename_i hd
  cases h
  exact⟨(oz hd).1,rfl⟩
 ·simp at h
theorem wD {r:List UInt8}{ms:Int}(h:rK r=some ms):0<=ms/\ms<=999/\r=(if ms.toNat=0 then [] else [46]++bv 3 ms.toNat)++[90]:=by
 unfold rK at h
 split at h
 ·rename_i hp
  split at h
  ·rename_i p hn
   split at h
   ·cases h
   ·rename_i hc
    cases h
    have hb:=pV hn
    have hle:p.1<=999:=by
     unfold mj at hn
     split at hn
     ·rename_i hh
      cases hn
      exact (nF hh.2).2
     ·cases hn
    have hnz:p.1≠0:=fun h=>hc (Or.inl h)
    have hq:p.2=[90]:=Decidable.of_not_not fun h=>hc (Or.inr h)
    refine⟨hb.2,hle,?_⟩
    rw[if_neg (by omega)]
    rw[hq] at hb
    have:=pE hp
    rw[this]
    have e:=hb.1
    simp only[List.length_cons,List.length_nil,Nat.zero_add] at e ⊢
    rw[e,List.append_assoc]
  ·cases h
 ·split at h
  ·rename_i hr
   cases h
   exact⟨by omega,by omega,by simp[hr]⟩
  ·cases h
theorem sD {s:List UInt8}{n:Int}(h:bZ s=(n,0)):∃ (y:Int) (m:Nat) (d:Int) (hh mi sec ms:Nat),DateOk y m d/\hh<=23/\mi<=59/\sec<=59/\ms<=999 /\
  n=(rz y m d - 719162)*86400000+(((60*(hh:Int)+mi)*60+sec)*1000+ms)/\s=Lt (Gm y m d) hh mi sec ms:=by
 unfold bZ at h
 split at h
 ·rename_i y m d hh mi sec r hn
  split at h
  ·rename_i ms ht
   obtain⟨hb,hpos⟩:=pQ _ _ _ _ _ hn
   obtain⟨t1,t2,t3⟩:=wD ht
   unfold wA at h
   split at h
   ·simp at h
   ·rename_i hc
    have hz:(gC y m d).2=0:=Decidable.of_not_not fun h=>hc (Or.inl h)
    have b1:¬ 23<hh:=fun h=>hc (Or.inr (Or.inl h))
    have b2:¬ 59<mi:=fun h=>hc (Or.inr (Or.inr (Or.inl h)))
    have b3:¬ 59<sec:=fun h=>hc (Or.inr (Or.inr (Or.inr h)))
    have p1:=hpos hh (by simp)
    have p2:=hpos mi (by simp)
    have p3:=hpos sec (by simp)
    obtain⟨d1,d2⟩:=EJ (y:=y) (m:=m) (d:=d) (n:=(gC y m d).1) (by rw[<- hz])
    have e:=congrArg Prod.fst h
    simp only at e
    refine⟨y,m.toNat,d,hh.toNat,mi.toNat,sec.toNat,ms.toNat,d1,by omega,by omega,by omega,by omega,?_,?_⟩
    ·rw[<- e,d2];omega
    ·rw[hb,t3]
     simp[Fg,msT,ksT,Lt,Gm]
  ·simp at h
 ·simp at h
def IsN (n:Int)(sc:Nat):Prop:=-999999999999999<=n/\n<=999999999999999/\sc<=12
instance (n:Int) (sc:Nat):Decidable (IsN n sc):=by unfold IsN;infer_instance
def dl (a:Nat):Nat:=(bP 20 a).length
theorem KH:∀ (f a:Nat),a<10 ^ f->0<f->1<=(bP f a).length/\a<10 ^ (bP f a).length
 | 0,a,_,h=>absurd h (by omega)
 | f+1,a,hf,_=>by
   rw[bP]
   by_cases h:a<10
   ·rw[if_pos h];simp;omega
   ·rw[if_neg h]
    have hf':a / 10<10 ^ f:=by rw[Nat.pow_succ] at hf;exact Nat.div_lt_of_lt_mul (by rw[Nat.mul_comm];exact hf)
    have h0:0<f:=by
     cases f with
     | zero=>simp at hf;omega
     | succ f=>omega
    have ih:=KH f (a / 10) hf' h0
    rw[List.length_append,List.length_cons,List.length_nil,Nat.pow_succ]
    omega
theorem lM {a:Nat}(h:a<10 ^ 15):1<=dl a/\dl a<=15/\a<10 ^ dl a:=by
 have h20:a<10 ^ 20:=Nat.lt_of_lt_of_le h (Nat.pow_le_pow_right (by omega) (by omega))
 have h1:=KH 20 a h20 (by omega)
 have h2:=congrArg List.length (gB 14 20 a h20 h (by omega))
 rw[List.length_append,List.length_replicate,cS] at h2
 unfold dl
 exact⟨h1.1,by omega,h1.2⟩
theorem Ex {a K:Nat}(h:a<10 ^ 15)(hK:dl a<=K):List.replicate (K - dl a) 48++bP 20 a=bv K a:=by
 have h20:a<10 ^ 20:=Nat.lt_of_lt_of_le h (Nat.pow_le_pow_right (by omega) (by omega))
 have hs:=lM h
 obtain⟨k,rfl⟩:∃ k,K=k+1:=⟨K - 1,by omega⟩
 exact gB k 20 a h20 (Nat.lt_of_lt_of_le hs.2.2 (Nat.pow_le_pow_right (by omega) hK)) (by omega)
theorem fN (i:Nat):∀ (j a:Nat),bv (i+j) a=bv i (a / 10 ^ j)++bv j a
 | 0,a=>by simp[bv]
 | j+1,a=>by
   rw[<- Nat.add_assoc,bv,fN i j (a / 10),bv,List.append_assoc,Nat.div_div_eq_div_mul,Nat.pow_succ,Nat.mul_comm 10]
def j0 (n:Int)(sc:Nat):List UInt8:=
 (if n<0 then [45] else [])++(bv (max (dl n.natAbs) (sc+1) - sc) (n.natAbs / 10 ^ sc)++(if sc=0 then [] else 46::bv sc n.natAbs))
theorem RI {n:Int}(h:-9223372036854775808<n)(h2:n<=9223372036854775807):ak Tryz.prog aq 88 [.int .i64 n] (.int .i64 (n.natAbs:Int)):=by
 have e:max n (0 - n)=(n.natAbs:Int):=by omega
 refine ak.intro Q88.2 (by simp[Q88]) ?_
 simp(disch:=try exact dI) only[Q88,e,push_cast,seval]
theorem EV {n:Int}(h:-9223372036854775808<n)(h2:n<=9223372036854775807)(sc:Nat):ak Tryz.prog aq 86 [.agg [.int .i64 n,.int .i64 (sc:Int)]] (.int .i64 (if IsN n sc then 0 else 2)):=by
 have ha:=RI h h2
 by_cases h1:(999999999999999:Int)<(n.natAbs:Int)
 ·rw[if_neg (by unfold IsN;omega)]
  refine ak.intro Q86.2 (by simp[Q86]) ?_
  simp(disch:=try exact dI) only[Q86,push_cast,seval]
  refine ab.pure ha rfl ?_
  exact qsZ
 have h2:¬ n < -999999999999999:=by omega
 have h3:¬ (sc:Int)<0:=by omega
 by_cases h4:(12:Int)<(sc:Int)
 ·rw[if_neg (by unfold IsN;omega)]
  refine ak.intro Q86.2 (by simp[Q86]) ?_
  simp(disch:=try exact dI) only[Q86,push_cast,seval]
  refine ab.pure ha rfl ?_
  exact qsZ
 ·rw[if_pos (by unfold IsN;omega)]
  refine ak.intro Q86.2 (by simp[Q86]) ?_
  simp(disch:=try exact dI) only[Q86,push_cast,seval]
  refine ab.pure ha rfl ?_
  exact qsZ
theorem A5 {n:Int}(h:-9223372036854775808<n)(h2:n<=9223372036854775807){sc:Nat}(hn:¬ IsN n sc):ak Tryz.prog aq 42 [.agg [.int .i64 n,.int .i64 (sc:Int)]] (.tup [.str [],.int .i64 2]):=by
 have hc:=EV h h2 sc
 rw[if_neg hn] at hc
 refine ak.intro Q42.2 (by simp[Q42]) ?_
 simp(disch:=try exact dI) only[Q42,push_cast,seval]
 refine ab.pure hc rfl ?_
 exact qsZ
theorem Pi {n:Int}{sc:Nat}(hn:IsN n sc):ak Tryz.prog aq 42 [.agg [.int .i64 n,.int .i64 (sc:Int)]] (.tup [.str (j0 n sc),.int .i64 0]):=by
 obtain⟨hn1,hn2,hn3⟩:=hn
 have hc:=EV (n:=n) (by omega) (by omega) sc
 rw[if_pos ⟨hn1,hn2,hn3⟩] at hc
 have ha:=RI (n:=n) (by omega) (by omega)
 have hi:=DB (n.natAbs:Int) (by omega) (by omega)
 have hlt:n.natAbs<10 ^ 15:=by simp;omega
 have hdl:=lM hlt
 have hL:=Ex hlt (K:=max (dl n.natAbs) (sc+1)) (by omega)
 have hL2:=fN (max (dl n.natAbs) (sc+1) - sc) sc n.natAbs
 rw[show max (dl n.natAbs) (sc+1) - sc+sc=max (dl n.natAbs) (sc+1) by omega] at hL2
 have hr:=G1 (sc+1 - dl n.natAbs) (by omega)
 rw[show max (dl n.natAbs) (sc+1) - dl n.natAbs=sc+1 - dl n.natAbs by omega] at hL
 have e1:mp (n.natAbs:Int)=bP 20 n.natAbs:=by unfold mp;rw[if_neg (by omega),Int.toNat_natCast]
 rw[e1] at hi
 have l1:=cS (max (dl n.natAbs) (sc+1) - sc) (n.natAbs / 10 ^ sc)
 have l2:=cS sc n.natAbs
 have l0:(bP 20 n.natAbs).length=dl n.natAbs:=rfl
 have lZ:(List.replicate (sc+1 - dl n.natAbs) (48:UInt8)).length=sc+1 - dl n.natAbs:=by simp
 unfold j0
 rw[hL2] at hL
 have hm:max (0:Int) ((sc:Int)+1 - ((dl n.natAbs:Nat):Int))=((sc+1 - dl n.natAbs:Nat):Int):=by omega
 rw[<- hm] at hr
 generalize bv (max (dl n.natAbs) (sc+1) - sc) (n.natAbs / 10 ^ sc)=A at *
 generalize bv sc n.natAbs=B at *
 generalize bP 20 n.natAbs=D at *
 generalize dl n.natAbs=k at *
 generalize List.replicate (sc+1 - k) (48:UInt8)=Z at *
 have lA:1<=A.length:=by omega
 clear hL2 e1 hlt
 by_cases hs:sc=0
 ·subst hs
  rw[if_pos rfl,List.append_nil]
  have hB:B=[]:=List.length_eq_zero_iff.1 l2
  have hDA:D=A:=by
   have hz:Z=[]:=by
    have:=congrArg List.length hL
    simp only[List.length_append] at this
    exact List.length_eq_zero_iff.1 (by omega)
   rw[hz,hB] at hL
   simpa using hL
  subst hDA
  by_cases hneg:n<0
  ·rw[if_pos hneg]
   refine ak.intro Q42.2 (by simp[Q42]) ?_
   simp(disch:=try exact dI) only[Q42,push_cast,seval]
   refine ab.pure hc rfl ?_
   refine zgZ ?_
   refine ab.pure ha rfl ?_
   refine zgZ ?_
   refine ab.pure hi rfl ?_
   exact qsZ
  ·rw[if_neg hneg]
   refine ak.intro Q42.2 (by simp[Q42]) ?_
   simp(disch:=try exact dI) only[Q42,push_cast,seval]
   refine ab.pure hc rfl ?_
   refine zgZ ?_
   refine ab.pure ha rfl ?_
   refine zgZ ?_
   refine ab.pure hi rfl ?_
   exact qsZ
 ·rw[if_neg hs]
  have hsI:(0:Int)<(sc:Int):=by omega
  have el:((A.length:Int)+(B.length:Int)) - (sc:Int)=(A.length:Int):=by omega
  have et:(((A++B).length:Int) - (sc:Int)).toNat=A.length:=by rw[List.length_append];omega
  have t1:(A++B).take A.length=A:=by simp
  have t2:(A++B).drop A.length=B:=by simp
  by_cases hneg:n<0
  ·rw[if_pos hneg]
   refine ak.intro Q42.2 (by simp[Q42]) ?_
   simp(disch:=try exact dI) only[Q42,push_cast,seval]
   refine ab.pure hc rfl ?_
   refine zgZ ?_
   refine ab.pure ha rfl ?_
   refine zgZ ?_
   refine ab.pure hi rfl ?_
   simp(disch:=try exact dI) only[l0,push_cast,seval]
   refine ab.pure hr rfl ?_
   simp(disch:=try exact dI) only[hL,el,t1,t2,push_cast,seval]
   rw[et,List.take_length,t1,t2]
  ·rw[if_neg hneg]
   refine ak.intro Q42.2 (by simp[Q42]) ?_
   simp(disch:=try exact dI) only[Q42,push_cast,seval]
   refine ab.pure hc rfl ?_
   refine zgZ ?_
   refine ab.pure ha rfl ?_
   refine zgZ ?_
   refine ab.pure hi rfl ?_
   simp(disch:=try exact dI) only[l0,push_cast,seval]
   refine ab.pure hr rfl ?_
   simp(disch:=try exact dI) only[hL,el,t1,t2,push_cast,seval]
   rw[et,List.take_length,t1,t2]
end Go.Proofs.YtbaaokocnegdoaaGreatDoor
