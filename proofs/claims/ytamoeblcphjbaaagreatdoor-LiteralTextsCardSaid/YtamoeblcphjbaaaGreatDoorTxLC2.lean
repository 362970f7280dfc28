/- A part of the proof for LiteralTextsCardSaid. -/
import Derived.Test.YtamoeblcphjbaaaGreatDoorTxL3
import Derived.Test.YtamoeblcphjbaaaGreatDoorTxF
import Derived.Test.YtamoeblcphjbaaaGreatDoorTxLD2
import Derived.Test.YtamoeblcphjbaaaGreatDoorCore6
set_option maxRecDepth 100000
set_option linter.unusedVariables false
set_option linter.unusedSimpArgs false
-- many steps
namespace Go.Proofs.YtamoeblcphjbaaaGreatDoor
open Go Go.Ab
attribute [local irreducible] vc
theorem Iq (n lo hi:Int):aw Tryz.prog aD 154 [.int .i64 n,.int .i64 lo,.int .i64 hi] (.bool (decide (lo≤n)&&decide (n≤hi))):=by
 refine aw.intro EK (by simp[HL]) ?_
 by_cases h1:lo≤n
 ·by_cases h2:n≤hi
  ·rw[show (decide (lo≤n)&&decide (n≤hi))=true by simp[h1,h2]]
   simp(maxSteps:=9^7) (disch:=first|exact dI|fail) only[HL,push_cast,seval]
  ·rw[show (decide (lo≤n)&&decide (n≤hi))=false by simp[h2]]
   simp(maxSteps:=9^7) (disch:=first|exact dI|fail) only[HL,push_cast,seval]
 ·rw[show (decide (lo≤n)&&decide (n≤hi))=false by simp[h1]]
  simp(maxSteps:=9^7) (disch:=first|exact dI|fail) only[HL,push_cast,seval]
theorem mH {n lo hi:Int}(h:lo≤n∧n≤hi):aw Tryz.prog aD 154 [.int .i64 n,.int .i64 lo,.int .i64 hi] (.bool true):=by
 have:=Iq n lo hi
 rwa [show (decide (lo≤n)&&decide (n≤hi))=true by simp[h]] at this
theorem DP {y:Int}(h1:1≤y)(h2:y≤9999):aw Tryz.prog aD 205 [.int .i64 y] (.bool (eU y)):=by
 have hi:=mH (n:=y) (lo:=1) (hi:=9999) ⟨h1,h2⟩
 have e4:=e8 (a:=y) (b:=4) (by omega)
 have e100:=e8 (a:=y) (b:=100) (by omega)
 have e400:=e8 (a:=y) (b:=400) (by omega)
 refine aw.intro EH (by simp[EX]) ?_
 unfold eU
 by_cases a:y % 4=0
 ·by_cases b:y % 100=0
  ·by_cases c:y % 400=0
   ·simp only[a,b,c,decide_true,Bool.not_true,Bool.or_true,Bool.and_true]
    simp(maxSteps:=9^7) (disch:=first|exact dI|fail) only[EX,e4,e100,e400,push_cast,seval]
    refine ae.pure hi rfl ?_
    simp(maxSteps:=9^7) (disch:=first|exact dI|fail) only[e4,e100,e400,a,b,c,push_cast,seval]
   ·simp only[a,b,c,decide_true,decide_false,Bool.not_true,Bool.or_false,Bool.and_false]
    simp(maxSteps:=9^7) (disch:=first|exact dI|fail) only[EX,e4,e100,e400,push_cast,seval]
    refine ae.pure hi rfl ?_
    simp(maxSteps:=9^7) (disch:=first|exact dI|fail) only[e4,e100,e400,a,b,c,push_cast,seval]
  ·simp only[a,b,decide_true,decide_false,Bool.not_false,Bool.true_or,Bool.and_true]
   simp(maxSteps:=9^7) (disch:=first|exact dI|fail) only[EX,e4,e100,e400,push_cast,seval]
   refine ae.pure hi rfl ?_
   simp(maxSteps:=9^7) (disch:=first|exact dI|fail) only[e4,e100,e400,a,b,push_cast,seval]
 ·simp only[a,decide_false,Bool.false_and]
  simp(maxSteps:=9^7) (disch:=first|exact dI|fail) only[EX,e4,e100,e400,push_cast,seval]
  refine ae.pure hi rfl ?_
  simp(maxSteps:=9^7) (disch:=first|exact dI|fail) only[e4,e100,e400,a,push_cast,seval]
theorem GR {y:Int}(h1:1≤y)(h2:y≤100000):aw Tryz.prog aD 155 [.int .i64 y] (.int .i64 (dE y)):=by
 have e4:=d8 (a:=y - 1) (b:=4) (by omega)
 have e100:=d8 (a:=y - 1) (b:=100) (by omega)
 have e400:=d8 (a:=y - 1) (b:=400) (by omega)
 refine aw.intro EJ (by simp[I6]) ?_
 simp(maxSteps:=9^7) (disch:=first|exact dI|fail) only[I6,dE,e4,e100,e400,push_cast,seval]
end Go.Proofs.YtamoeblcphjbaaaGreatDoor
set_option maxRecDepth 100000
set_option linter.unusedVariables false
set_option linter.unusedSimpArgs false
-- many steps
namespace Go.Proofs.YtamoeblcphjbaaaGreatDoor
open Go Go.Ab
open Nat renaming reduceEqDiff→qa,reduceAdd→qb,reduceMul→qc,reduceLeDiff→qd,reduceLT→qe,reduceBEq→qf,reduceSub→qg
open Int renaming reduceToNat→qh,reduceNeg→qi
attribute [local irreducible] vc
def HP (m:Nat):Int:=if m=2 then 28 else if m=4∨m=6∨m=9∨m=11 then 30 else 31
theorem BH (y:Int)(m:Nat)(h:¬ (m=2∧eU y=true)):mdI y m=HP m:=by
 unfold mdI HP
 by_cases h2:m=2
 ·subst h2
  have:¬ eU y=true:=fun hl=>h ⟨rfl,hl⟩
  simp[this]
 ·have:¬ (m:Int)=2:=by omega
  rw[if_neg this,if_neg h2]
  by_cases h4:m=4∨m=6∨m=9∨m=11
  ·rw[if_pos h4,if_pos (by omega)]
  ·rw[if_neg h4,if_neg (by omega)]
theorem It (m:Nat)(h1:1≤m)(h2:m≤12):dQ false 12 1 (.pv (.agg [.int .i64 31,.int .i64 28,.int .i64 31,.int .i64 30,.int .i64 31,.int .i64 30,.int .i64 31,.int .i64 31,.int .i64 30,.int .i64 31,.int .i64 30,.int .i64 31])) (.pv (.int .i64 ((m:Int) - 1)))=some (.pv (.int .i64 (HP m))):=by
 have h12:m=1∨m=2∨m=3∨m=4∨m=5∨m=6∨m=7∨m=8∨m=9∨m=10∨m=11∨m=12:=by omega
 rcases h12 with rfl | rfl | rfl | rfl | rfl | rfl | rfl | rfl | rfl | rfl | rfl | rfl<;>rfl
theorem Im {y:Int}(h1:1≤y)(h2:y≤9999)(m:Nat)(h3:1≤m)(h4:m≤12):aw Tryz.prog aD 156 [.int .i64 y,.int .i64 (m:Int)] (.int .i64 (mdI y m)):=by
 have hl:=DP h1 h2
 have hx:=It m h3 h4
 refine aw.intro EI (by simp[HK]) ?_
 by_cases h:m=2
 ·subst h
  cases hb:eU y with
  | true=>
    rw[hb] at hl
    rw[show mdI y ((2:Nat):Int)=29 by simp[mdI,hb]]
    simp(maxSteps:=9^7) (disch:=first|exact dI|fail) only[HK,push_cast,↓reduceIte,qa,qb,qc,qd,qe,qf,qg,qh,qi]
    refine ae.pure hl rfl ?_
    simp(maxSteps:=9^7) (disch:=first|exact dI|fail) only[push_cast,↓reduceIte,qa,qb,qc,qd,qe,qf,qg,qh,qi]
  | false=>
    rw[hb] at hl
    rw[BH y 2 (by simp[hb])]
    have hx2:dQ false 12 1 (.pv (.agg [.int .i64 31,.int .i64 28,.int .i64 31,.int .i64 30,.int .i64 31,.int .i64 30,.int .i64 31,.int .i64 31,.int .i64 30,.int .i64 31,.int .i64 30,.int .i64 31])) (.pv (.int .i64 (2 - 1)))=some (.pv (.int .i64 28)):=rfl
    rw[show HP 2=28 from rfl]
    simp(maxSteps:=9^7) (disch:=first|exact dI|fail) only[HK,push_cast,↓reduceIte,qa,qb,qc,qd,qe,qf,qg,qh,qi]
    refine ae.pure hl rfl ?_
    simp(maxSteps:=9^7) (disch:=first|exact dI|fail) only[hx2,push_cast,↓reduceIte,qa,qb,qc,qd,qe,qf,qg,qh,qi]
 ·rw[BH y m (by simp[h])]
  simp(maxSteps:=9^7) (disch:=first|exact dI|fail) only[HK,hx,push_cast,↓reduceIte,qa,qb,qc,qd,qe,qf,qg,qh,qi]
end Go.Proofs.YtamoeblcphjbaaaGreatDoor
set_option maxRecDepth 100000
set_option linter.unusedVariables false
set_option linter.unusedSimpArgs false
-- many steps
namespace Go.Proofs.YtamoeblcphjbaaaGreatDoor
open Go Go.Ab
attribute [local irreducible] vc
theorem Ej {y:Int}{m:Nat}{d:Int}(h:DateOk y m d):aw Tryz.prog aD 89 [.int .i64 (kY y m d - 719162)] (.tup [.int .i64 y,.int .i64 (m:Int),.int .i64 d,.int .i64 0]):=by
 have hdr:=kD h
 have hdb:=kE h
 have hy1:=h.y1
 have hy2:=h.y2
 have hm1:=h.m1
 have hm2:=h.m2
 have hd1:=h.d1
 have hd2:=h.d2
 have hdn:kY y m d=dE y+dG y (m - 1)+d - 1:=rfl
 obtain⟨n,hn⟩:∃ n,n=kY y m d:=⟨_,rfl⟩
 rw[← hn] at hdr hdb hdn ⊢
 have hin:=mH (n:=n - 719162) (lo:=-719162) (hi:=2932896) ⟨by omega,by omega⟩
 have hq:=d8 (a:=n) (b:=365) (by omega)
 have hs0:=cz y (m - 1) 0
 have z:dG y 0=0:=rfl
 simp only[Nat.zero_add] at hs0
 have hbb:=gD hy1 (by omega)
 have hb365:365*(y - 1)≤dE y:=by unfold dE;omega
 have e1:n - 719162 - -719162=n:=by omega
 refine aw.intro G7 (by simp[F89]) ?_
 simp(maxSteps:=9^7) (disch:=first|exact dI|fail) only[F89,push_cast,seval]
 refine ae.pure hin rfl ?_
 have hmin:y≤n / 365+1:=by omega
 have hloop:∀ Y:Int,y≤Y→Y≤9999→(n<dE Y↔y<Y):=by
  intro Y h1 h2
  constructor
  ·intro h3
   by_cases e:Y=y
   ·subst e;omega
   ·omega
  ·intro h3
   have:=GQ h3
   omega
 simp(maxSteps:=9^7) (disch:=first|exact dI|fail) only[e1,hq,push_cast,seval]
 refine be ([]) (fun Y:Int=>[(2,.pv (.int .i64 Y))]) (fun _=>[]) (fun Y=>y≤Y∧Y≤9999) (fun Y=>(Y - y).toNat) (min (n / 365+1) 9999) ?_;intro e0 σ0 n0 h0;simp(maxSteps:=9^7) (disch:=first|exact dI|fail) only[push_cast,seval] at h0;obtain⟨rfl,rfl,rfl⟩:=h0;refine⟨?_,?_,?_⟩
 ·simp(maxSteps:=9^7) (disch:=first|exact dI|fail) only[push_cast,seval]
 ·exact⟨by omega,by omega⟩
 rintro Y ⟨g1,g2⟩
 have hbY:=GR (y:=Y) (by omega) (by omega)
 by_cases hY:y<Y
 ·have hgt:=(hloop Y g1 g2).2 hY
  simp(maxSteps:=9^7) (disch:=first|exact dI|fail) only[push_cast,seval]
  refine ae.pure hbY rfl ?_
  simp(maxSteps:=9^7) (disch:=first|exact dI|fail) only[push_cast,seval]
  exact⟨Y - 1,bX (by simp(maxSteps:=9^7) (disch:=first|exact dI|fail) only[push_cast,seval]),⟨by omega,by omega⟩,by omega⟩
 ·have:Y=y:=by omega
  subst this
  simp(maxSteps:=9^7) (disch:=first|exact dI|fail) only[push_cast,seval]
  refine ae.pure hbY rfl ?_
  simp(maxSteps:=9^7) (disch:=first|exact dI|fail) only[push_cast,seval]
  refine ae.pure hbY rfl ?_
  simp(maxSteps:=9^7) (disch:=first|exact dI|fail) only[push_cast,seval]
  refine be ([]) (fun k:Nat=>[(3,.pv (.int .i64 ((k:Int)+1))),(6,.pv (.int .i64 (n - dE Y - dG Y k)))]) (fun _=>[]) (fun k=>k≤m - 1) (fun k=>m - 1 - k) (0) ?_;intro e0 σ0 n0 h0;simp(maxSteps:=9^7) (disch:=first|exact dI|fail) only[push_cast,seval] at h0;obtain⟨rfl,rfl,rfl⟩:=h0;refine⟨?_,?_,?_⟩
  ·simp(maxSteps:=9^7) (disch:=first|exact dI|fail) only[z,Int.zero_add,Int.sub_zero,push_cast,seval]
  ·omega
  intro k hk
  have hsm:=cz Y (m - 1 - k) k
  rw[show k+(m - 1 - k)=m - 1 by omega] at hsm
  have hs1:=cz Y k 0
  simp only[Nat.zero_add] at hs1
  have hmk:=Im hy1 hy2 (k+1) (by omega) (by omega)
  have hmdk:=f7 Y ((k+1:Nat):Int)
  have hsk:dG Y (k+1)=dG Y k+mdI Y ((k+1:Nat):Int):=rfl
  rw[show ((k+1:Nat):Int)=(k:Int)+1 by omega] at hmk hmdk hsk
  by_cases hlt:k<m - 1
  ·have hge:mdI Y ((k:Int)+1)≤n - dE Y - dG Y k:=by
    have hs2:=cz Y (m - 1 - (k+1)) (k+1)
    rw[show k+1+(m - 1 - (k+1))=m - 1 by omega] at hs2
    omega
   have he:n - dE Y - dG Y (k+1)=n - dE Y - dG Y k - mdI Y ((k:Int)+1):=by omega
   simp(maxSteps:=9^7) (disch:=first|exact dI|fail) only[push_cast,seval]
   refine ae.pure hmk rfl ?_
   simp(maxSteps:=9^7) (disch:=first|exact dI|fail) only[push_cast,seval]
   refine ae.pure hmk rfl ?_
   simp(maxSteps:=9^7) (disch:=first|exact dI|fail) only[push_cast,seval]
   exact⟨k+1,bX (by simp(maxSteps:=9^7) (disch:=first|exact dI|fail) only[he,push_cast,seval]),by omega,by omega⟩
  ·have hkm:k=m - 1:=by omega
   subst hkm
   have em:((m - 1:Nat):Int)+1=(m:Int):=by omega
   have em2:(m:Int) - 1+1=(m:Int):=by omega
   rw[em] at hmk hmdk hsk
   have hnge:¬ mdI Y (m:Int)≤n - dE Y - dG Y (m - 1):=by omega
   have efin:n - dE Y - dG Y (m - 1)+1=d:=by omega
   simp(maxSteps:=9^7) (disch:=first|exact dI|fail) only[em2,push_cast,seval]
   refine ae.pure hmk rfl ?_
   simp(maxSteps:=9^7) (disch:=first|exact dI|fail) only[em2,efin,push_cast,seval]
end Go.Proofs.YtamoeblcphjbaaaGreatDoor
set_option maxRecDepth 100000
set_option linter.unusedVariables false
set_option linter.unusedSimpArgs false
-- many steps
namespace Go.Proofs.YtamoeblcphjbaaaGreatDoor
open Go Go.Ab
attribute [local irreducible] vc
end Go.Proofs.YtamoeblcphjbaaaGreatDoor
set_option maxRecDepth 100000
set_option linter.unusedVariables false
set_option linter.unusedSimpArgs false
namespace Go.Proofs.YtamoeblcphjbaaaGreatDoor
open Go Go.Ab
attribute [local irreducible] vc
theorem jB:∀ k:Nat,Lib.repeatL [48] k=List.replicate k 48
 | 0=>rfl
 | k+1=>by rw[Lib.repeatL,jB k];rfl
theorem nx (k:Nat)(h:k≤17):aw Tryz.prog aD 88 [.str [48],.int .i64 (k:Int)] (.str (List.replicate k 48)):=by
 have h1:=jA [48] (k:Int) (by omega) (by omega) (by simp;omega)
 rw[Int.toNat_natCast,jB] at h1;exact h1
def cY:Nat→Nat→List UInt8
 | 0,_=>[]
 | k+1,n=>cY k (n / 10)++[UInt8.ofNat (48+n % 10)]
theorem aT:∀ (k n:Nat),(cY k n).length=k
 | 0,_=>rfl
 | k+1,n=>by simp[cY,aT k]
theorem jT:∀ k:Nat,cY k 0=List.replicate k 48
 | 0=>rfl
 | k+1=>by rw[cY,show 0 / 10=0 from rfl,jT k,List.replicate_succ'];rfl
theorem cN:∀ (k f n:Nat),n<10 ^ f→n<10 ^ (k+1)→0<f→List.replicate (k+1 - (aP f n).length) 48++aP f n=cY (k+1) n
 | k,0,n,_,_,h=>absurd h (by omega)
 | k,f+1,n,hf,hk,_=>by
   rw[aP]
   by_cases h:n<10
   ·rw[if_pos h,cY,show n / 10=0 by omega,jT,show n % 10=n by omega]
    simp
   ·rw[if_neg h]
    cases k with
    | zero=>simp at hk;omega
    | succ k=>
      have hf':n / 10<10 ^ f:=by rw[Nat.pow_succ] at hf;exact Nat.div_lt_of_lt_mul (by rw[Nat.mul_comm];exact hf)
      have hk':n / 10<10 ^ (k+1):=by rw[Nat.pow_succ] at hk;exact Nat.div_lt_of_lt_mul (by rw[Nat.mul_comm];exact hk)
      have h0:0<f:=by
       cases f with
       | zero=>simp at hf;omega
       | succ f=>omega
      have ih:=cN k f (n / 10) hf' hk' h0
      rw[cY,← ih,List.length_append,List.append_assoc]
      simp
theorem vg {n:Int}{k:Nat}(h0:0≤n)(hk:k≤16)(h1:n.toNat<10 ^ (k+1)):List.replicate (k+1 - (bW n).length) 48++bW n=cY (k+1) n.toNat:=by
 unfold bW
 rw[if_neg (by omega)]
 exact cN k 20 n.toNat (Nat.lt_of_lt_of_le h1 (Nat.pow_le_pow_right (by omega) (by omega))) h1 (by omega)
theorem cE {n:Int}{k:Nat}(h0:0≤n)(hk:k≤8)(h1:n.toNat<10 ^ (k+1)):aw Tryz.prog aD 90 [.int .i64 n,.int .i64 ((k+1:Nat):Int)] (.str (cY (k+1) n.toNat)):=by
 have hp:10 ^ (k+1)≤10 ^ 9:=Nat.pow_le_pow_right (by omega) (by omega)
 have hi:=iQ n (by omega) (by omega)
 have hL:=vg h0 (by omega:k≤16) h1
 have hl:=gh n
 have hr:=nx (k+1 - (bW n).length) (by omega)
 generalize bW n=L at *
 have hm:max (0:Int) ((k:Int)+1 - (L.length:Int))=((k+1 - L.length:Nat):Int):=by omega
 rw[← hm] at hr
 refine aw.intro G6 (by simp[F90]) ?_
 simp(disch:=first|exact dI|fail) only[F90,push_cast,seval]
 refine ae.pure hi rfl ?_
 simp(disch:=first|exact dI|fail) only[push_cast,seval]
 refine ae.pure hr rfl ?_
 simp(disch:=first|exact dI|fail) only[hL,push_cast,seval]
end Go.Proofs.YtamoeblcphjbaaaGreatDoor
set_option maxRecDepth 100000
set_option linter.unusedVariables false
set_option linter.unusedSimpArgs false
-- many steps
namespace Go.Proofs.YtamoeblcphjbaaaGreatDoor
open Go Go.Ab
attribute [local irreducible] vc
def eH (y:Int)(m:Nat)(d:Int):List UInt8:=cY 4 y.toNat++[45]++cY 2 m++[45]++cY 2 d.toNat
theorem r6 (y:Int)(m:Nat)(d:Int):(eH y m d).length=10:=by simp[eH,aT]
theorem Bk {y:Int}{m:Nat}{d:Int}(h:DateOk y m d):aw Tryz.prog aD 43 [.int .i64 (kY y m d - 719162)] (.tup [.str (eH y m d),.int .i64 0]):=by
 have hc:=Ej h
 have hy1:=h.y1
 have hy2:=h.y2
 have hm1:=h.m1
 have hm2:=h.m2
 have hd1:=h.d1
 have hd2:=h.d2
 have hmd:=f7 y m
 have p1:=cE (n:=y) (k:=3) (by omega) (by omega) (by simp;omega)
 have p2:=cE (n:=(m:Int)) (k:=1) (by omega) (by omega) (by simp;omega)
 have p3:=cE (n:=d) (k:=1) (by omega) (by omega) (by simp;omega)
 simp only[Nat.reduceAdd,Int.toNat_natCast] at p1 p2 p3
 have l1:=aT 4 y.toNat
 have l2:=aT 2 m
 have l3:=aT 2 d.toNat
 unfold eH
 generalize cY 4 y.toNat=t1 at *
 generalize cY 2 m=t2 at *
 generalize cY 2 d.toNat=t3 at *
 generalize kY y m d - 719162=n at *
 refine aw.intro Ht (by simp[F43]) ?_
 simp(maxSteps:=9^7) (disch:=first|exact dI|fail) only[F43,push_cast,seval]
 refine ae.pure hc rfl ?_
 simp(maxSteps:=9^7) (disch:=first|exact dI|fail) only[push_cast,seval]
 refine ae.pure p1 rfl ?_
 simp(maxSteps:=9^7) (disch:=first|exact dI|fail) only[push_cast,seval]
 refine ae.pure p2 rfl ?_
 simp(maxSteps:=9^7) (disch:=first|exact dI|fail) only[push_cast,seval]
 refine ae.pure p3 rfl ?_
 simp(maxSteps:=9^7) (disch:=first|exact dI|fail) only[push_cast,seval]
theorem Cv {d r:Int}(h1:-719162≤d∧d≤2932896)(h2:0≤r∧r≤86399999):aw Tryz.prog aD 91 [.int .i64 (d*86400000+r)] (.tup [.int .i64 d,.int .i64 r,.int .i64 0]):=by
 have hin:=mH (n:=d*86400000+r) (lo:=-62135596800000) (hi:=253402300799999) ⟨by omega,by omega⟩
 obtain⟨n,hn⟩:∃ n,n=d*86400000+r:=⟨_,rfl⟩
 have e1:=d8 (a:=n - -62135596800000) (b:=86400000) (by omega)
 have e2:=e8 (a:=n - -62135596800000) (b:=86400000) (by omega)
 have e3:-719162+(n - -62135596800000) / 86400000=d:=by omega
 have e4:(n - -62135596800000) % 86400000=r:=by omega
 rw[← hn] at hin ⊢
 refine aw.intro G5 (by simp[F91]) ?_
 simp(maxSteps:=9^7) (disch:=first|exact dI|fail) only[F91,push_cast,seval]
 refine ae.pure hin rfl ?_
 simp(maxSteps:=9^7) (disch:=first|exact dI|fail) only[e1,e2,e3,e4,push_cast,seval]
def lk (t:List UInt8)(h mi s ms:Nat):List UInt8:=t++([84]++cY 2 h++[58]++cY 2 mi++[58]++cY 2 s)++(if ms=0 then [] else [46]++cY 3 ms)++[90]
theorem oE {y:Int}{m:Nat}{d:Int}(hD:DateOk y m d){h mi s ms:Nat}(h1:h≤23)(h2:mi≤59)(h3:s≤59)(h4:ms≤999) :
  aw Tryz.prog aD 44 [.int .i64 ((kY y m d - 719162)*86400000+((((60*(h:Int)+mi)*60+s)*1000+ms)))] (.tup [.str (lk (eH y m d) h mi s ms),.int .i64 0]):=by
 have hr:=kD hD
 have hs:=Cv (d:=kY y m d - 719162) (r:=((60*(h:Int)+mi)*60+s)*1000+ms) ⟨by omega,by omega⟩ ⟨by omega,by omega⟩
 have ht:=Bk hD
 have htl:=r6 y m d
 have p1:=cE (n:=(h:Int)) (k:=1) (by omega) (by omega) (by simp;omega)
 have p2:=cE (n:=(mi:Int)) (k:=1) (by omega) (by omega) (by simp;omega)
 have p3:=cE (n:=(s:Int)) (k:=1) (by omega) (by omega) (by simp;omega)
 have p4:=cE (n:=(ms:Int)) (k:=2) (by omega) (by omega) (by simp;omega)
 simp only[Nat.reduceAdd,Int.toNat_natCast] at p1 p2 p3 p4
 have l1:=aT 2 h
 have l2:=aT 2 mi
 have l3:=aT 2 s
 have l4:=aT 3 ms
 obtain⟨r,hr⟩:∃ r,r=((60*(h:Int)+mi)*60+s)*1000+ms:=⟨_,rfl⟩
 rw[← hr] at hs ⊢
 have q1:=d8 (a:=r) (b:=1000) (by omega)
 have q2:=d8 (a:=r / 1000) (b:=3600) (by omega)
 have q3:=d8 (a:=r / 1000) (b:=60) (by omega)
 have q4:=e8 (a:=r / 1000 / 60) (b:=60) (by omega)
 have q5:=e8 (a:=r / 1000) (b:=60) (by omega)
 have q6:=e8 (a:=r) (b:=1000) (by omega)
 have g2:r / 1000 / 3600=h:=by omega
 have g3:r / 1000 / 60 % 60=mi:=by omega
 have g4:r / 1000 % 60=s:=by omega
 have g5:r % 1000=ms:=by omega
 have hrb:0≤r∧r≤86399999:=⟨by omega,by omega⟩
 clear hr
 unfold lk
 generalize eH y m d=t0 at *
 generalize cY 2 h=t1 at *
 generalize cY 2 mi=t2 at *
 generalize cY 2 s=t3 at *
 generalize cY 3 ms=t4 at *
 generalize kY y m d - 719162=n at *
 generalize n*86400000+r=N at *
 by_cases hm:ms=0
 ·rw[if_pos hm,List.append_nil]
  subst hm
  refine aw.intro B7 (by simp[F44]) ?_
  simp(maxSteps:=9^7) (disch:=first|exact dI|fail) only[F44,push_cast,seval]
  refine ae.pure hs rfl ?_
  simp(maxSteps:=9^7) (disch:=first|exact dI|fail) only[push_cast,seval]
  refine ae.pure ht rfl ?_
  simp(maxSteps:=9^7) (disch:=first|exact dI|fail) only[q1,q2,g2,push_cast,seval]
  refine ae.pure p1 rfl ?_
  simp(maxSteps:=9^7) (disch:=first|exact dI|fail) only[q3,q4,g3,push_cast,seval]
  refine ae.pure p2 rfl ?_
  simp(maxSteps:=9^7) (disch:=first|exact dI|fail) only[q5,g4,push_cast,seval]
  refine ae.pure p3 rfl ?_
  simp(maxSteps:=9^7) (disch:=first|exact dI|fail) only[q6,g5,push_cast,seval]
 ·rw[if_neg hm]
  refine aw.intro B7 (by simp[F44]) ?_
  simp(maxSteps:=9^7) (disch:=first|exact dI|fail) only[F44,push_cast,seval]
  refine ae.pure hs rfl ?_
  simp(maxSteps:=9^7) (disch:=first|exact dI|fail) only[push_cast,seval]
  refine ae.pure ht rfl ?_
  simp(maxSteps:=9^7) (disch:=first|exact dI|fail) only[q1,q2,g2,push_cast,seval]
  refine ae.pure p1 rfl ?_
  simp(maxSteps:=9^7) (disch:=first|exact dI|fail) only[q3,q4,g3,push_cast,seval]
  refine ae.pure p2 rfl ?_
  simp(maxSteps:=9^7) (disch:=first|exact dI|fail) only[q5,g4,push_cast,seval]
  refine ae.pure p3 rfl ?_
  have hm':¬ (ms:Int)=0:=by omega
  simp(maxSteps:=9^7) (disch:=first|exact dI|fail) only[q6,g5,push_cast,seval]
  refine ae.pure p4 rfl ?_
  simp(maxSteps:=9^7) (disch:=first|exact dI|fail) only[push_cast,seval]
end Go.Proofs.YtamoeblcphjbaaaGreatDoor
