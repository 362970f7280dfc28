/- A part of the proof for LiteralQuotesCardSaid. -/
import Derived.Test.YtamoeblcphjbaaaGreatDoorQuLD2
set_option maxRecDepth 100000
set_option linter.unusedVariables false
set_option linter.unusedSimpArgs false
-- many steps
namespace Go.Proofs.YtamoeblcphjbaaaGreatDoor
open Go Go.Ab
open Nat renaming reduceEqDiff→qa,reduceAdd→qb,reduceMul→qc,reduceLeDiff→qd,reduceLT→qe,reduceBEq→qf,reduceSub→qg
open Int renaming reduceToNat→qh,reduceNeg→qi
attribute [local irreducible] vc
def On (m:Nat):Int:=if m=2 then 28 else if m=4∨m=6∨m=9∨m=11 then 30 else 31
theorem Gy (y:Int)(m:Nat)(h:¬ (m=2∧gW y=true)):mdI y m=On m:=by
 unfold mdI On
 by_cases h2:m=2
 ·subst h2
  have:¬ gW y=true:=fun hl=>h ⟨rfl,hl⟩
  simp[this]
 ·have:¬ (m:Int)=2:=by omega
  rw[if_neg this,if_neg h2]
  by_cases h4:m=4∨m=6∨m=9∨m=11
  ·rw[if_pos h4,if_pos (by omega)]
  ·rw[if_neg h4,if_neg (by omega)]
theorem Pm (m:Nat)(h1:1≤m)(h2:m≤12):fa false 12 1 (.pv (.agg [.int .i64 31,.int .i64 28,.int .i64 31,.int .i64 30,.int .i64 31,.int .i64 30,.int .i64 31,.int .i64 31,.int .i64 30,.int .i64 31,.int .i64 30,.int .i64 31])) (.pv (.int .i64 ((m:Int) - 1)))=some (.pv (.int .i64 (On m))):=by
 have h12:m=1∨m=2∨m=3∨m=4∨m=5∨m=6∨m=7∨m=8∨m=9∨m=10∨m=11∨m=12:=by omega
 rcases h12 with rfl | rfl | rfl | rfl | rfl | rfl | rfl | rfl | rfl | rfl | rfl | rfl<;>rfl
theorem Ms {y:Int}(h1:1≤y)(h2:y≤9999)(m:Nat)(h3:1≤m)(h4:m≤12):aw Tryz.prog aF 156 [.int .i64 y,.int .i64 (m:Int)] (.int .i64 (mdI y m)):=by
 have hl:=IY h1 h2
 have hx:=Pm m h3 h4
 refine aw.intro KD (by simp[Oh]) ?_
 by_cases h:m=2
 ·subst h
  cases hb:gW y with
  | true=>
    rw[hb] at hl
    rw[show mdI y ((2:Nat):Int)=29 by simp[mdI,hb]]
    simp(maxSteps:=9^7) (disch:=first|exact dI|fail) only[Oh,push_cast,↓reduceIte,qa,qb,qc,qd,qe,qf,qg,qh,qi]
    refine ab.pure hl rfl ?_
    simp(maxSteps:=9^7) (disch:=first|exact dI|fail) only[push_cast,↓reduceIte,qa,qb,qc,qd,qe,qf,qg,qh,qi]
  | false=>
    rw[hb] at hl
    rw[Gy y 2 (by simp[hb])]
    have hx2:fa false 12 1 (.pv (.agg [.int .i64 31,.int .i64 28,.int .i64 31,.int .i64 30,.int .i64 31,.int .i64 30,.int .i64 31,.int .i64 31,.int .i64 30,.int .i64 31,.int .i64 30,.int .i64 31])) (.pv (.int .i64 (2 - 1)))=some (.pv (.int .i64 28)):=rfl
    rw[show On 2=28 from rfl]
    simp(maxSteps:=9^7) (disch:=first|exact dI|fail) only[Oh,push_cast,↓reduceIte,qa,qb,qc,qd,qe,qf,qg,qh,qi]
    refine ab.pure hl rfl ?_
    simp(maxSteps:=9^7) (disch:=first|exact dI|fail) only[hx2,push_cast,↓reduceIte,qa,qb,qc,qd,qe,qf,qg,qh,qi]
 ·rw[Gy y m (by simp[h])]
  simp(maxSteps:=9^7) (disch:=first|exact dI|fail) only[Oh,hx,push_cast,↓reduceIte,qa,qb,qc,qd,qe,qf,qg,qh,qi]
theorem i7 {y:Int}(h1:1≤y)(h2:y≤9999)(m:Nat)(h3:1≤m)(h4:m≤12):aw Tryz.prog aF 223 [.int .i64 y,.int .i64 (m:Int)] (.tup [.int .i64 (mdI y m),.int .i64 0]):=by
 have hi1:=ep (n:=y) (lo:=1) (hi:=9999) ⟨h1,h2⟩
 have hi2:=ep (n:=(m:Int)) (lo:=1) (hi:=12) ⟨by omega,by omega⟩
 have hm:=Ms h1 h2 m h3 h4
 refine aw.intro Cc (by simp[K6]) ?_
 simp(maxSteps:=9^7) (disch:=first|exact dI|fail) only[K6,push_cast,↓reduceIte,qa,qb,qc,qd,qe,qf,qg,qh,qi]
 refine ab.pure hi1 rfl ?_
 simp(maxSteps:=9^7) (disch:=first|exact dI|fail) only[push_cast,↓reduceIte,qa,qb,qc,qd,qe,qf,qg,qh,qi]
 refine ab.pure hi2 rfl ?_
 simp(maxSteps:=9^7) (disch:=first|exact dI|fail) only[push_cast,↓reduceIte,qa,qb,qc,qd,qe,qf,qg,qh,qi]
 refine ab.pure hm rfl ?_
 simp(maxSteps:=9^7) (disch:=first|exact dI|fail) only[push_cast,↓reduceIte,qa,qb,qc,qd,qe,qf,qg,qh,qi]
theorem pD {y m:Int}(h:¬ (1≤y∧y≤9999∧1≤m∧m≤12)):aw Tryz.prog aF 223 [.int .i64 y,.int .i64 m] (.tup [.int .i64 0,.int .i64 17]):=by
 refine aw.intro Cc (by simp[K6]) ?_
 by_cases hy:1≤y∧y≤9999
 ·have hi1:=ep (n:=y) (lo:=1) (hi:=9999) hy
  have hi2:=ll (n:=m) (lo:=1) (hi:=12) (by omega)
  simp(maxSteps:=9^7) (disch:=first|exact dI|fail) only[K6,push_cast,↓reduceIte,qa,qb,qc,qd,qe,qf,qg,qh,qi]
  refine ab.pure hi1 rfl ?_
  simp(maxSteps:=9^7) (disch:=first|exact dI|fail) only[push_cast,↓reduceIte,qa,qb,qc,qd,qe,qf,qg,qh,qi]
  refine ab.pure hi2 rfl ?_
  simp(maxSteps:=9^7) (disch:=first|exact dI|fail) only[push_cast,↓reduceIte,qa,qb,qc,qd,qe,qf,qg,qh,qi]
 ·have hi1:=ll (n:=y) (lo:=1) (hi:=9999) hy
  simp(maxSteps:=9^7) (disch:=first|exact dI|fail) only[K6,push_cast,↓reduceIte,qa,qb,qc,qd,qe,qf,qg,qh,qi]
  refine ab.pure hi1 rfl ?_
  simp(maxSteps:=9^7) (disch:=first|exact dI|fail) only[push_cast,↓reduceIte,qa,qb,qc,qd,qe,qf,qg,qh,qi]
theorem MT {y:Int}{m:Nat}{d:Int}(h:DateOk y m d):aw Tryz.prog aF 191 [.int .i64 y,.int .i64 (m:Int),.int .i64 d] (.tup [.int .i64 (A8 y m d - 719162),.int .i64 0]):=by
 have hm:=i7 h.y1 h.y2 m h.m1 h.m2
 have hi:=ep (n:=d) (lo:=1) (hi:=mdI y m) ⟨h.d1,h.d2⟩
 have hb:=Nl h.y1 (by have:=h.y2;omega)
 have hbb:=jG h.y1 (by have:=h.y2;omega)
 have hmd:=jb y m
 have hd1:=h.d1
 have hd2:=h.d2
 have hdr:=jx h
 have hdn:A8 y m d=lY y+iB y (m - 1)+d - 1:=rfl
 refine aw.intro Ce (by simp[K9]) ?_
 simp(maxSteps:=9^7) (disch:=first|exact dI|fail) only[K9,push_cast,↓reduceIte,qa,qb,qc,qd,qe,qf,qg,qh,qi]
 refine ab.pure hm rfl ?_
 simp(maxSteps:=9^7) (disch:=first|exact dI|fail) only[push_cast,↓reduceIte,qa,qb,qc,qd,qe,qf,qg,qh,qi]
 refine ab.pure hi rfl ?_
 simp(maxSteps:=9^7) (disch:=first|exact dI|fail) only[push_cast,↓reduceIte,qa,qb,qc,qd,qe,qf,qg,qh,qi]
 refine ab.pure hb rfl ?_
 simp(maxSteps:=9^7) (disch:=first|exact dI|fail) only[push_cast,↓reduceIte,qa,qb,qc,qd,qe,qf,qg,qh,qi]
 have e0:((0:Nat):Int)+1=1:=rfl
 have e1:-719162+lY y+d - 1+iB y 0 = -719162+lY y+d - 1:=by
  have z:iB y 0=0:=rfl
  omega
 refine bg ([]) (fun k:Nat=>[(10,.pv (.int .i64 (-719162+lY y+d - 1+iB y k))),(11,.pv (.int .i64 ((k:Int)+1)))]) (fun _=>[]) (fun k=>k≤m - 1) (fun k=>m - 1 - k) (0) ?_;intro e0 σ0 n0 h0;simp(maxSteps:=9^7) (disch:=first|exact dI|fail) only[push_cast,↓reduceIte,qa,qb,qc,qd,qe,qf,qg,qh,qi] at h0;obtain⟨rfl,rfl,rfl⟩:=h0;refine⟨?_,?_,?_⟩
 ·simp(maxSteps:=9^7) (disch:=first|exact dI|fail) only[e1,Int.zero_add,push_cast,↓reduceIte,qa,qb,qc,qd,qe,qf,qg,qh,qi]
 ·omega
 intro k hk
 have hs0:=fp y k 0
 have z:iB y 0=0:=rfl
 simp only[Nat.zero_add] at hs0
 have hsm:=fp y (m - 1 - k) k
 rw[show k+(m - 1 - k)=m - 1 by omega] at hsm
 by_cases hlt:k<m - 1
 ·have hmk:=Ms h.y1 h.y2 (k+1) (by omega) (by have:=h.m2;omega)
  have hmdk:=jb y ((k+1:Nat):Int)
  have hsk:iB y (k+1)=iB y k+mdI y ((k+1:Nat):Int):=rfl
  rw[show ((k+1:Nat):Int)=(k:Int)+1 by omega] at hmk hmdk hsk
  have hs2:-719162+lY y+d - 1+iB y (k+1) = -719162+lY y+d - 1+iB y k+mdI y ((k:Int)+1):=by omega
  simp(maxSteps:=9^7) (disch:=first|exact dI|fail) only[push_cast,↓reduceIte,qa,qb,qc,qd,qe,qf,qg,qh,qi]
  refine ab.pure hmk rfl ?_
  simp(maxSteps:=9^7) (disch:=first|exact dI|fail) only[push_cast,↓reduceIte,qa,qb,qc,qd,qe,qf,qg,qh,qi]
  exact⟨k+1,bM (by simp(maxSteps:=9^7) (disch:=first|exact dI|fail) only[hs2,push_cast,↓reduceIte,qa,qb,qc,qd,qe,qf,qg,qh,qi]),by omega,by omega⟩
 ·have:k=m - 1:=by omega
  subst this
  have hfin:-719162+lY y+d - 1+iB y (m - 1)=A8 y m d - 719162:=by omega
  simp(maxSteps:=9^7) (disch:=first|exact dI|fail) only[hfin,push_cast,↓reduceIte,qa,qb,qc,qd,qe,qf,qg,qh,qi]
theorem MU {y m d:Int}(h:∀ k:Nat,m=k→¬ DateOk y k d):aw Tryz.prog aF 191 [.int .i64 y,.int .i64 m,.int .i64 d] (.tup [.int .i64 0,.int .i64 17]):=by
 refine aw.intro Ce (by simp[K9]) ?_
 by_cases hm:1≤y∧y≤9999∧1≤m∧m≤12
 ·obtain⟨k,rfl⟩:∃ k:Nat,m=k:=⟨m.toNat,by omega⟩
  have hmt:=i7 hm.1 hm.2.1 k (by omega) (by omega)
  have hi:=ll (n:=d) (lo:=1) (hi:=mdI y k) (fun hd=>h k rfl ⟨hm.1,hm.2.1,by omega,by omega,hd.1,hd.2⟩)
  simp(maxSteps:=9^7) (disch:=first|exact dI|fail) only[K9,push_cast,↓reduceIte,qa,qb,qc,qd,qe,qf,qg,qh,qi]
  refine ab.pure hmt rfl ?_
  simp(maxSteps:=9^7) (disch:=first|exact dI|fail) only[push_cast,↓reduceIte,qa,qb,qc,qd,qe,qf,qg,qh,qi]
  refine ab.pure hi rfl ?_
  simp(maxSteps:=9^7) (disch:=first|exact dI|fail) only[push_cast,↓reduceIte,qa,qb,qc,qd,qe,qf,qg,qh,qi]
 ·have hmf:=pD hm
  simp(maxSteps:=9^7) (disch:=first|exact dI|fail) only[K9,push_cast,↓reduceIte,qa,qb,qc,qd,qe,qf,qg,qh,qi]
  refine ab.pure hmf rfl ?_
  simp(maxSteps:=9^7) (disch:=first|exact dI|fail) only[push_cast,↓reduceIte,qa,qb,qc,qd,qe,qf,qg,qh,qi]
end Go.Proofs.YtamoeblcphjbaaaGreatDoor
set_option maxRecDepth 100000
set_option linter.unusedVariables false
set_option linter.unusedSimpArgs false
-- many steps
namespace Go.Proofs.YtamoeblcphjbaaaGreatDoor
open Go Go.Ab
attribute [local irreducible] vc
end Go.Proofs.YtamoeblcphjbaaaGreatDoor
set_option maxRecDepth 100000
set_option linter.unusedVariables false
set_option linter.unusedSimpArgs false
-- many steps
namespace Go.Proofs.YtamoeblcphjbaaaGreatDoor
open Go Go.Ab
attribute [local irreducible] vc
def isD (c:UInt8):Bool:=decide (48≤c.toNat)&&decide (c.toNat≤57)
def jw:Int→List UInt8→Int
 | n,[]=>n
 | n,c::r=>jw (10*n+((c.toNat:Int) - 48)) r
theorem lG (c:UInt8):∀ (l:List UInt8) (n:Int),jw n (l++[c])=10*jw n l+((c.toNat:Int) - 48)
 | [],n=>rfl
 | d::l,n=>by simp only[List.cons_append,jw];exact lG c l _
theorem jh {c:UInt8}(h:isD c=true):48≤c.toNat∧c.toNat≤57:=by simpa[isD] using h
theorem cG:∀ (l:List UInt8) (n:Int),0≤n→l.all isD=true→0≤jw n l∧jw n l+1≤(n+1)*((10 ^ l.length:Nat):Int)
 | [],n,h0,_=>by simp[jw];omega
 | c::r,n,h0,hd=>by
   simp only[List.all_cons,Bool.and_eq_true] at hd
   have hc:=jh hd.1
   have ih:=cG r (10*n+((c.toNat:Int) - 48)) (by omega) hd.2
   refine⟨ih.1,Int.le_trans ih.2 ?_⟩
   rw[List.length_cons,Nat.pow_succ]
   have hp:(0:Int)≤((10 ^ r.length:Nat):Int):=Int.natCast_nonneg _
   have h1:(10*n+((c.toNat:Int) - 48)+1)*((10 ^ r.length:Nat):Int)≤((n+1)*10)*((10 ^ r.length:Nat):Int):=Int.mul_le_mul_of_nonneg_right (by omega) hp
   have h2:((n+1)*10)*((10 ^ r.length:Nat):Int)=(n+1)*((10 ^ r.length*10:Nat):Int):=by
    rw[Int.mul_assoc,Int.natCast_mul,Int.mul_comm (10:Int)];rfl
   exact Int.le_trans h1 (Int.le_of_eq h2)
theorem MS {l:List UInt8}(h:l.all isD=true)(hl:l.length≤9):0≤jw 0 l∧jw 0 l≤999999999:=by
 have:=cG l 0 (by omega) h
 have hp:10 ^ l.length≤10 ^ 9:=Nat.pow_le_pow_right (by omega) hl
 omega
def uh (k:Nat)(s:List UInt8):Option (Int×List UInt8):=if k≤s.length∧(s.take k).all isD=true then some (jw 0 (s.take k),s.drop k) else none
def Gu (s:List UInt8):Option (Int×List UInt8)→PV
 | some p=>.tup [.int .i64 p.1,.str p.2,.bool true]
 | none=>.tup [.int .i64 0,.str s,.bool false]
end Go.Proofs.YtamoeblcphjbaaaGreatDoor
set_option maxRecDepth 100000
set_option linter.unusedVariables false
set_option linter.unusedSimpArgs false
namespace Go.Proofs.YtamoeblcphjbaaaGreatDoor
open Go Go.Ab
attribute [local irreducible] vc
theorem mw:∀ k:Nat,Lib.repeatL [48] k=List.replicate k 48
 | 0=>rfl
 | k+1=>by rw[Lib.repeatL,mw k];rfl
theorem Do (k:Nat)(h:k≤17):aw Tryz.prog aF 88 [.str [48],.int .i64 (k:Int)] (.str (List.replicate k 48)):=by
 have h1:=mt [48] (k:Int) (by omega) (by omega) (by simp;omega)
 rw[Int.toNat_natCast,mw] at h1;exact h1
def bO:Nat→Nat→List UInt8
 | 0,_=>[]
 | k+1,n=>bO k (n / 10)++[UInt8.ofNat (48+n % 10)]
theorem eI:∀ (k n:Nat),(bO k n).length=k
 | 0,_=>rfl
 | k+1,n=>by simp[bO,eI k]
theorem mZ:∀ k:Nat,bO k 0=List.replicate k 48
 | 0=>rfl
 | k+1=>by rw[bO,show 0 / 10=0 from rfl,mZ k,List.replicate_succ'];rfl
theorem fh:∀ (k f n:Nat),n<10 ^ f→n<10 ^ (k+1)→0<f→List.replicate (k+1 - (bW f n).length) 48++bW f n=bO (k+1) n
 | k,0,n,_,_,h=>absurd h (by omega)
 | k,f+1,n,hf,hk,_=>by
   rw[bW]
   by_cases h:n<10
   ·rw[if_pos h,bO,show n / 10=0 by omega,mZ,show n % 10=n by omega]
    simp
   ·rw[if_neg h]
    cases k with
    | zero=>simp at hk;omega
    | succ k=>
      have hf':n / 10<10 ^ f:=by rw[Nat.pow_succ] at hf;exact Nat.div_lt_of_lt_mul (by rw[Nat.mul_comm];exact hf)
      have hk':n / 10<10 ^ (k+1):=by rw[Nat.pow_succ] at hk;exact Nat.div_lt_of_lt_mul (by rw[Nat.mul_comm];exact hk)
      have h0:0<f:=by
       cases f with
       | zero=>simp at hf;omega
       | succ f=>omega
      have ih:=fh k f (n / 10) hf' hk' h0
      rw[bO,← ih,List.length_append,List.append_assoc]
      simp
theorem Ei:∀ (l:List UInt8),l.all isD=true→bO l.length (jw 0 l).toNat=l:=by
 intro l
 induction hn:l.length generalizing l with
 | zero=>intro _;simp[List.length_eq_zero_iff.1 hn,bO]
 | succ k ih=>
   intro h
   obtain⟨a,c,rfl⟩:∃ a c,l=a++[c]:=by
    refine⟨l.dropLast,l.getLast (by intro e;simp[e] at hn),(List.dropLast_concat_getLast _).symm⟩
   rw[List.all_append,Bool.and_eq_true] at h
   have hc:=jh (c:=c) (by simpa using h.2)
   have h0:=(cG a 0 (by omega) h.1).1
   rw[lG,bO]
   have e1:(10*jw 0 a+((c.toNat:Int) - 48)).toNat / 10=(jw 0 a).toNat:=by omega
   have e2:48+(10*jw 0 a+((c.toNat:Int) - 48)).toNat % 10=c.toNat:=by omega
   rw[e1,e2,ih a (by simpa using hn) h.1]
   simp
end Go.Proofs.YtamoeblcphjbaaaGreatDoor
set_option maxRecDepth 100000
set_option linter.unusedVariables false
set_option linter.unusedSimpArgs false
-- many steps
namespace Go.Proofs.YtamoeblcphjbaaaGreatDoor
open Go Go.Ab
attribute [local irreducible] vc
def Lj (y:Int)(m:Nat)(d:Int):List UInt8:=bO 4 y.toNat++[45]++bO 2 m++[45]++bO 2 d.toNat
def Li (t:List UInt8)(h mi s ms:Nat):List UInt8:=t++([84]++bO 2 h++[58]++bO 2 mi++[58]++bO 2 s)++(if ms=0 then [] else [46]++bO 3 ms)++[90]
end Go.Proofs.YtamoeblcphjbaaaGreatDoor
