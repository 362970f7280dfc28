/- A part of the proof. -/
import Derived.Test.YtbojpfpliibfbaaGreatDoorMxRD2
set_option maxRecDepth 100000
set_option linter.unusedVariables false
set_option linter.unusedSimpArgs false
namespace Go.Proofs.YtbojpfpliibfbaaGreatDoor
open Go Go.Ab
open Nat renaming reduceEqDiff->qa,reduceAdd->qb,reduceMul->qc,reduceLeDiff->qd,reduceLT->qe,reduceBEq->qf,reduceSub->qg
open Int renaming reduceToNat->qh,reduceNeg->qi
attribute [local irreducible] vc
def QY (m:Nat):Int:=if m=2 then 28 else if m=4\/m=6\/m=9\/m=11 then 30 else 31
theorem Jb (y:Int)(m:Nat)(h:¬ (m=2/\ix y=true)):mdI y m=QY m:=by
 unfold mdI QY
 by_cases h2:m=2
 ·subst h2
  have:¬ ix y=true:=fun hl=>h ⟨rfl,hl⟩
  simp[this]
 ·have:¬ (m:Int)=2:=by omega
  rw[if_neg this,if_neg h2]
  by_cases h4:m=4\/m=6\/m=9\/m=11
  ·rw[if_pos h4,if_pos (by omega)]
  ·rw[if_neg h4,if_neg (by omega)]
theorem RZ (m:Nat)(h1:1<=m)(h2:m<=12):dw false 12 1 (.pv (.agg [.int .i64 31,.int .i64 28,.int .i64 31,.int .i64 30,.int .i64 31,.int .i64 30,.int .i64 31,.int .i64 31,.int .i64 30,.int .i64 31,.int .i64 30,.int .i64 31])) (.pv (.int .i64 ((m:Int) - 1)))=some (.pv (.int .i64 (QY m))):=by
 have h12:m=1\/m=2\/m=3\/m=4\/m=5\/m=6\/m=7\/m=8\/m=9\/m=10\/m=11\/m=12:=by omega
 rcases h12 with rfl | rfl | rfl | rfl | rfl | rfl | rfl | rfl | rfl | rfl | rfl | rfl<;>rfl
theorem LD {y:Int}(h1:1<=y)(h2:y<=9999)(m:Nat)(h3:1<=m)(h4:m<=12):ag Tryz.prog aq 199 [.int .i64 y,.int .i64 (m:Int)] (.int .i64 (mdI y m)):=by
 have hl:=LO h1 h2
 have hx:=RZ m h3 h4
 refine ag.intro QM.2 (by simp[QM]) ?_
 by_cases h:m=2
 ·subst h
  cases hb:ix y with
  | true=>
    rw[hb] at hl
    rw[show mdI y ((2:Nat):Int)=29 by simp[mdI,hb]]
    simp(disch:=try exact dI) only[QM,push_cast,↓reduceIte,qa,qb,qc,qd,qe,qf,qg,qh,qi]
    refine ab.pure hl rfl ?_
    simp(disch:=try exact dI) only[push_cast,↓reduceIte,qa,qb,qc,qd,qe,qf,qg,qh,qi]
  | false=>
    rw[hb] at hl
    rw[Jb y 2 (by simp[hb])]
    have hx2:dw false 12 1 (.pv (.agg [.int .i64 31,.int .i64 28,.int .i64 31,.int .i64 30,.int .i64 31,.int .i64 30,.int .i64 31,.int .i64 31,.int .i64 30,.int .i64 31,.int .i64 30,.int .i64 31])) (.pv (.int .i64 (2 - 1)))=some (.pv (.int .i64 28)):=rfl
    rw[show QY 2=28 from rfl]
    simp(disch:=try exact dI) only[QM,push_cast,↓reduceIte,qa,qb,qc,qd,qe,qf,qg,qh,qi]
    refine ab.pure hl rfl ?_
    simp(disch:=try exact dI) only[hx2,push_cast,↓reduceIte,qa,qb,qc,qd,qe,qf,qg,qh,qi]
 ·rw[Jb y m (by simp[h])]
  simp(disch:=try exact dI) only[QM,hx,push_cast,↓reduceIte,qa,qb,qc,qd,qe,qf,qg,qh,qi]
theorem ki {y:Int}(h1:1<=y)(h2:y<=9999)(m:Nat)(h3:1<=m)(h4:m<=12):ag Tryz.prog aq 251 [.int .i64 y,.int .i64 (m:Int)] (.tup [.int .i64 (mdI y m),.int .i64 0]):=by
 have hi1:=dz (n:=y) (lo:=1) (hi:=9999) ⟨h1,h2⟩
 have hi2:=dz (n:=(m:Int)) (lo:=1) (hi:=12) ⟨by omega,by omega⟩
 have hm:=LD h1 h2 m h3 h4
 refine ag.intro M2.2 (by simp[M2]) ?_
 simp(disch:=try exact dI) only[M2,push_cast,↓reduceIte,qa,qb,qc,qd,qe,qf,qg,qh,qi]
 refine ab.pure hi1 rfl ?_
 simp(disch:=try exact dI) only[push_cast,↓reduceIte,qa,qb,qc,qd,qe,qf,qg,qh,qi]
 refine ab.pure hi2 rfl ?_
 simp(disch:=try exact dI) only[push_cast,↓reduceIte,qa,qb,qc,qd,qe,qf,qg,qh,qi]
 refine ab.pure hm rfl ?_
 simp(disch:=try exact dI) only[push_cast,↓reduceIte,qa,qb,qc,qd,qe,qf,qg,qh,qi]
theorem rG {y m:Int}(h:¬ (1<=y/\y<=9999/\1<=m/\m<=12)):ag Tryz.prog aq 251 [.int .i64 y,.int .i64 m] (.tup [.int .i64 0,.int .i64 17]):=by
 refine ag.intro M2.2 (by simp[M2]) ?_
 by_cases hy:1<=y/\y<=9999
 ·have hi1:=dz (n:=y) (lo:=1) (hi:=9999) hy
  have hi2:=ni (n:=m) (lo:=1) (hi:=12) (by omega)
  simp(disch:=try exact dI) only[M2,push_cast,↓reduceIte,qa,qb,qc,qd,qe,qf,qg,qh,qi]
  refine ab.pure hi1 rfl ?_
  simp(disch:=try exact dI) only[push_cast,↓reduceIte,qa,qb,qc,qd,qe,qf,qg,qh,qi]
  refine ab.pure hi2 rfl ?_
  simp(disch:=try exact dI) only[push_cast,↓reduceIte,qa,qb,qc,qd,qe,qf,qg,qh,qi]
 ·have hi1:=ni (n:=y) (lo:=1) (hi:=9999) hy
  simp(disch:=try exact dI) only[M2,push_cast,↓reduceIte,qa,qb,qc,qd,qe,qf,qg,qh,qi]
  refine ab.pure hi1 rfl ?_
  simp(disch:=try exact dI) only[push_cast,↓reduceIte,qa,qb,qc,qd,qe,qf,qg,qh,qi]
theorem PB {y:Int}{m:Nat}{d:Int}(h:DateOk y m d):ag Tryz.prog aq 211 [.int .i64 y,.int .i64 (m:Int),.int .i64 d] (.tup [.int .i64 (jg y m d - 719162),.int .i64 0]):=by
 have hm:=ki h.y1 h.y2 m h.m1 h.m2
 have hi:=dz (n:=d) (lo:=1) (hi:=mdI y m) ⟨h.d1,h.d2⟩
 have hb:=JE h.y1 (by have:=h.y2;omega)
 have hbb:=gP h.y1 (by have:=h.y2;omega)
 have hmd:=dQ y m
 have hd1:=h.d1
 have hd2:=h.d2
 have hdr:=fi h
 have hdn:jg y m d=dZ y+dE y (m - 1)+d - 1:=rfl
 refine ag.intro M3.2 (by simp[M3]) ?_
 simp(disch:=try exact dI) only[M3,push_cast,↓reduceIte,qa,qb,qc,qd,qe,qf,qg,qh,qi]
 refine ab.pure hm rfl ?_
 simp(disch:=try exact dI) only[push_cast,↓reduceIte,qa,qb,qc,qd,qe,qf,qg,qh,qi]
 refine ab.pure hi rfl ?_
 simp(disch:=try exact dI) only[push_cast,↓reduceIte,qa,qb,qc,qd,qe,qf,qg,qh,qi]
 refine ab.pure hb rfl ?_
 simp(disch:=try exact dI) only[push_cast,↓reduceIte,qa,qb,qc,qd,qe,qf,qg,qh,qi]
 have e0:((0:Nat):Int)+1=1:=rfl
 have e1:-719162+dZ y+d - 1+dE y 0 = -719162+dZ y+d - 1:=by
  have z:dE y 0=0:=rfl
  omega
 refine az ([]) (fun k:Nat=>[(10,.pv (.int .i64 (-719162+dZ y+d - 1+dE y k))),(11,.pv (.int .i64 ((k:Int)+1)))]) (fun _=>[]) (fun k=>k<=m - 1) (fun k=>m - 1 - k) (0) ?_;intro e0 σ0 n0 h0;simp(disch:=try exact dI) only[push_cast,↓reduceIte,qa,qb,qc,qd,qe,qf,qg,qh,qi] at h0;obtain⟨rfl,rfl,rfl⟩:=h0;refine⟨?_,?_,?_⟩
 ·simp(disch:=try exact dI) only[e1,Int.zero_add,push_cast,↓reduceIte,qa,qb,qc,qd,qe,qf,qg,qh,qi]
 ·omega
 intro k hk
 have hs0:=cG y k 0
 have z:dE y 0=0:=rfl
 simp only[Nat.zero_add] at hs0
 have hsm:=cG y (m - 1 - k) k
 rw[show k+(m - 1 - k)=m - 1 by omega] at hsm
 by_cases hlt:k<m - 1
 ·have hmk:=LD h.y1 h.y2 (k+1) (by omega) (by have:=h.m2;omega)
  have hmdk:=dQ y ((k+1:Nat):Int)
  have hsk:dE y (k+1)=dE y k+mdI y ((k+1:Nat):Int):=rfl
  rw[show ((k+1:Nat):Int)=(k:Int)+1 by omega] at hmk hmdk hsk
  have hs2:-719162+dZ y+d - 1+dE y (k+1) = -719162+dZ y+d - 1+dE y k+mdI y ((k:Int)+1):=by omega
  simp(disch:=try exact dI) only[push_cast,↓reduceIte,qa,qb,qc,qd,qe,qf,qg,qh,qi]
  refine ab.pure hmk rfl ?_
  simp(disch:=try exact dI) only[push_cast,↓reduceIte,qa,qb,qc,qd,qe,qf,qg,qh,qi]
  exact⟨k+1,aV (by simp(disch:=try exact dI) only[hs2,push_cast,↓reduceIte,qa,qb,qc,qd,qe,qf,qg,qh,qi]),by omega,by omega⟩
 ·have:k=m - 1:=by omega
  subst this
  have hfin:-719162+dZ y+d - 1+dE y (m - 1)=jg y m d - 719162:=by omega
  simp(disch:=try exact dI) only[hfin,push_cast,↓reduceIte,qa,qb,qc,qd,qe,qf,qg,qh,qi]
theorem PC {y m d:Int}(h:∀ k:Nat,m=k->¬ DateOk y k d):ag Tryz.prog aq 211 [.int .i64 y,.int .i64 m,.int .i64 d] (.tup [.int .i64 0,.int .i64 17]):=by
 refine ag.intro M3.2 (by simp[M3]) ?_
 by_cases hm:1<=y/\y<=9999/\1<=m/\m<=12
 ·obtain⟨k,rfl⟩:∃ k:Nat,m=k:=⟨m.toNat,by omega⟩
  have hmt:=ki hm.1 hm.2.1 k (by omega) (by omega)
  have hi:=ni (n:=d) (lo:=1) (hi:=mdI y k) (fun hd=>h k rfl ⟨hm.1,hm.2.1,by omega,by omega,hd.1,hd.2⟩)
  simp(disch:=try exact dI) only[M3,push_cast,↓reduceIte,qa,qb,qc,qd,qe,qf,qg,qh,qi]
  refine ab.pure hmt rfl ?_
  simp(disch:=try exact dI) only[push_cast,↓reduceIte,qa,qb,qc,qd,qe,qf,qg,qh,qi]
  refine ab.pure hi rfl ?_
  simp(disch:=try exact dI) only[push_cast,↓reduceIte,qa,qb,qc,qd,qe,qf,qg,qh,qi]
 ·have hmf:=rG hm
  simp(disch:=try exact dI) only[M3,push_cast,↓reduceIte,qa,qb,qc,qd,qe,qf,qg,qh,qi]
  refine ab.pure hmf rfl ?_
  simp(disch:=try exact dI) only[push_cast,↓reduceIte,qa,qb,qc,qd,qe,qf,qg,qh,qi]
theorem Mz {y:Int}{m:Nat}{d:Int}(h:DateOk y m d):ag Tryz.prog aq 142 [.int .i64 (jg y m d - 719162)] (.tup [.int .i64 y,.int .i64 (m:Int),.int .i64 d,.int .i64 0]):=by
 have hdr:=fi h
 have hdb:=pK h
 have hy1:=h.y1
 have hy2:=h.y2
 have hm1:=h.m1
 have hm2:=h.m2
 have hd1:=h.d1
 have hd2:=h.d2
 have hdn:jg y m d=dZ y+dE y (m - 1)+d - 1:=rfl
 obtain⟨n,hn⟩:∃ n,n=jg y m d:=⟨_,rfl⟩
 rw[<- hn] at hdr hdb hdn ⊢
 have hin:=dz (n:=n - 719162) (lo:=-719162) (hi:=2932896) ⟨by omega,by omega⟩
 have hq:=eS (a:=n) (b:=365) (by omega)
 have hs0:=cG y (m - 1) 0
 have z:dE y 0=0:=rfl
 simp only[Nat.zero_add] at hs0
 have hbb:=gP hy1 (by omega)
 have hb365:365*(y - 1)<=dZ y:=by unfold dZ;omega
 have e1:n - 719162 - -719162=n:=by omega
 refine ag.intro Ts.2 (by simp[Ts]) ?_
 simp(disch:=try exact dI) only[Ts,push_cast,seval]
 refine ab.pure hin rfl ?_
 have hmin:y<=n / 365+1:=by omega
 have hloop:∀ Y:Int,y<=Y->Y<=9999->(n<dZ Y↔y<Y):=by
  intro Y h1 h2
  constructor
  ·intro h3
   by_cases e:Y=y
   ·subst e;omega
   ·omega
  ·intro h3
   have:=Qq h3
   omega
 simp(disch:=try exact dI) only[e1,hq,push_cast,seval]
 refine az ([]) (fun Y:Int=>[(2,.pv (.int .i64 Y))]) (fun _=>[]) (fun Y=>y<=Y/\Y<=9999) (fun Y=>(Y - y).toNat) (min (n / 365+1) 9999) ?_;intro e0 σ0 n0 h0;simp(disch:=try exact dI) only[push_cast,seval] at h0;obtain⟨rfl,rfl,rfl⟩:=h0;refine⟨?_,?_,?_⟩
 ·exact qsZ
 ·exact⟨by omega,by omega⟩
 rintro Y ⟨g1,g2⟩
 have hbY:=JE (y:=Y) (by omega) (by omega)
 by_cases hY:y<Y
 ·have hgt:=(hloop Y g1 g2).2 hY
  refine zgZ ?_
  refine ab.pure hbY rfl ?_
  refine zgZ ?_
  exact⟨Y - 1,aV qsZ,⟨by omega,by omega⟩,by omega⟩
 ·have:Y=y:=by omega
  subst this
  refine zgZ ?_
  refine ab.pure hbY rfl ?_
  refine zgZ ?_
  refine ab.pure hbY rfl ?_
  refine zgZ ?_
  refine az ([]) (fun k:Nat=>[(3,.pv (.int .i64 ((k:Int)+1))),(6,.pv (.int .i64 (n - dZ Y - dE Y k)))]) (fun _=>[]) (fun k=>k<=m - 1) (fun k=>m - 1 - k) (0) ?_;intro e0 σ0 n0 h0;simp(disch:=try exact dI) only[push_cast,seval] at h0;obtain⟨rfl,rfl,rfl⟩:=h0;refine⟨?_,?_,?_⟩
  ·simp(disch:=try exact dI) only[z,Int.zero_add,Int.sub_zero,push_cast,seval]
  ·omega
  intro k hk
  have hsm:=cG Y (m - 1 - k) k
  rw[show k+(m - 1 - k)=m - 1 by omega] at hsm
  have hs1:=cG Y k 0
  simp only[Nat.zero_add] at hs1
  have hmk:=LD hy1 hy2 (k+1) (by omega) (by omega)
  have hmdk:=dQ Y ((k+1:Nat):Int)
  have hsk:dE Y (k+1)=dE Y k+mdI Y ((k+1:Nat):Int):=rfl
  rw[show ((k+1:Nat):Int)=(k:Int)+1 by omega] at hmk hmdk hsk
  by_cases hlt:k<m - 1
  ·have hge:mdI Y ((k:Int)+1)<=n - dZ Y - dE Y k:=by
    have hs2:=cG Y (m - 1 - (k+1)) (k+1)
    rw[show k+1+(m - 1 - (k+1))=m - 1 by omega] at hs2
    omega
   have he:n - dZ Y - dE Y (k+1)=n - dZ Y - dE Y k - mdI Y ((k:Int)+1):=by omega
   refine zgZ ?_
   refine ab.pure hmk rfl ?_
   refine zgZ ?_
   refine ab.pure hmk rfl ?_
   refine zgZ ?_
   exact⟨k+1,aV (by simp(disch:=try exact dI) only[he,push_cast,seval]),by omega,by omega⟩
  ·have hkm:k=m - 1:=by omega
   subst hkm
   have em:((m - 1:Nat):Int)+1=(m:Int):=by omega
   have em2:(m:Int) - 1+1=(m:Int):=by omega
   rw[em] at hmk hmdk hsk
   have hnge:¬ mdI Y (m:Int)<=n - dZ Y - dE Y (m - 1):=by omega
   have efin:n - dZ Y - dE Y (m - 1)+1=d:=by omega
   simp(disch:=try exact dI) only[em2,push_cast,seval]
   refine ab.pure hmk rfl ?_
   simp(disch:=try exact dI) only[em2,efin,push_cast,seval]
def isD (c:UInt8):Bool:=decide (48<=c.toNat)&&decide (c.toNat<=57)
def gU:Int->List UInt8->Int
 | n,[]=>n
 | n,c::r=>gU (10*n+((c.toNat:Int) - 48)) r
theorem jv (c:UInt8):∀ (l:List UInt8) (n:Int),gU n (l++[c])=10*gU n l+((c.toNat:Int) - 48)
 | [],n=>rfl
 | d::l,n=>by simp only[List.cons_append,gU];exact jv c l _
theorem kv {c:UInt8}(h:isD c=true):48<=c.toNat/\c.toNat<=57:=by simpa[isD] using h
theorem cS:∀ (l:List UInt8) (n:Int),0<=n->l.all isD=true->0<=gU n l/\gU n l+1<=(n+1)*((10 ^ l.length:Nat):Int)
 | [],n,h0,_=>by simp[gU];omega
 | c::r,n,h0,hd=>by
   simp only[List.all_cons,Bool.and_eq_true] at hd
   have hc:=kv hd.1
   have ih:=cS r (10*n+((c.toNat:Int) - 48)) (by omega) hd.2
   refine⟨ih.1,Int.le_trans ih.2 ?_⟩
   rw[List.length_cons,Nat.pow_succ]
   have hp:(0:Int)<=((10 ^ r.length:Nat):Int):=Int.natCast_nonneg _
   have h1:(10*n+((c.toNat:Int) - 48)+1)*((10 ^ r.length:Nat):Int)<=((n+1)*10)*((10 ^ r.length:Nat):Int):=Int.mul_le_mul_of_nonneg_right (by omega) hp
   have h2:((n+1)*10)*((10 ^ r.length:Nat):Int)=(n+1)*((10 ^ r.length*10:Nat):Int):=by
    rw[Int.mul_assoc,Int.natCast_mul,Int.mul_comm (10:Int)];rfl
   exact Int.le_trans h1 (Int.le_of_eq h2)
theorem Pz {l:List UInt8}(h:l.all isD=true)(hl:l.length<=9):0<=gU 0 l/\gU 0 l<=999999999:=by
 have:=cS l 0 (by omega) h
 have hp:10 ^ l.length<=10 ^ 9:=Nat.pow_le_pow_right (by omega) hl
 omega
def rz (k:Nat)(s:List UInt8):Option (Int×List UInt8):=if k<=s.length/\(s.take k).all isD=true then some (gU 0 (s.take k),s.drop k) else none
def I9 (s:List UInt8):Option (Int×List UInt8)->PV
 | some p=>.tup [.int .i64 p.1,.str p.2,.bool true]
 | none=>.tup [.int .i64 0,.str s,.bool false]
theorem ot:∀ k:Nat,Lib.repeatL [48] k=List.replicate k 48
 | 0=>rfl
 | k+1=>by rw[Lib.repeatL,ot k];rfl
theorem tj (k:Nat)(h:k<=17):ag Tryz.prog aq 45 [.str [48],.int .i64 (k:Int)] (.str (List.replicate k 48)):=by
 have h1:=jU [48] (k:Int) (by omega) (by omega) (by simp;omega)
 rw[Int.toNat_natCast,ot] at h1;exact h1
def aQ:Nat->Nat->List UInt8
 | 0,_=>[]
 | k+1,n=>aQ k (n / 10)++[UInt8.ofNat (48+n % 10)]
theorem aT:∀ (k n:Nat),(aQ k n).length=k
 | 0,_=>rfl
 | k+1,n=>by simp[aQ,aT k]
theorem oQ:∀ k:Nat,aQ k 0=List.replicate k 48
 | 0=>rfl
 | k+1=>by rw[aQ,show 0 / 10=0 from rfl,oQ k,List.replicate_succ'];rfl
theorem eu:∀ (k f n:Nat),n<10 ^ f->n<10 ^ (k+1)->0<f->List.replicate (k+1 - (bg f n).length) 48++bg f n=aQ (k+1) n
 | k,0,n,_,_,h=>absurd h (by omega)
 | k,f+1,n,hf,hk,_=>by
   rw[bg]
   by_cases h:n<10
   ·rw[if_pos h,aQ,show n / 10=0 by omega,oQ,show n % 10=n by omega]
    simp
   ·rw[if_neg h]
    cases k with
    | zero=>simp at hk;omega
    | succ k=>
      have hf':n / 10<10 ^ f:=by rw[Nat.pow_succ] at hf;exact Nat.div_lt_of_lt_mul (by rw[Nat.mul_comm];exact hf)
      have hk':n / 10<10 ^ (k+1):=by rw[Nat.pow_succ] at hk;exact Nat.div_lt_of_lt_mul (by rw[Nat.mul_comm];exact hk)
      have h0:0<f:=by
       cases f with
       | zero=>simp at hf;omega
       | succ f=>omega
      have ih:=eu k f (n / 10) hf' hk' h0
      rw[aQ,<- ih,List.length_append,List.append_assoc]
      simp
theorem GJ:∀ (l:List UInt8),l.all isD=true->aQ l.length (gU 0 l).toNat=l:=by
 intro l
 induction hn:l.length generalizing l with
 | zero=>intro _;simp[List.length_eq_zero_iff.1 hn,aQ]
 | succ k ih=>
   intro h
   obtain⟨a,c,rfl⟩:∃ a c,l=a++[c]:=by
    refine⟨l.dropLast,l.getLast (by intro e;simp[e] at hn),(List.dropLast_concat_getLast _).symm⟩
   rw[List.all_append,Bool.and_eq_true] at h
   have hc:=kv (c:=c) (by simpa using h.2)
   have h0:=(cS a 0 (by omega) h.1).1
   rw[jv,aQ]
   have e1:(10*gU 0 a+((c.toNat:Int) - 48)).toNat / 10=(gU 0 a).toNat:=by omega
   have e2:48+(10*gU 0 a+((c.toNat:Int) - 48)).toNat % 10=c.toNat:=by omega
   rw[e1,e2,ih a (by simpa using hn) h.1]
   simp
theorem Cx {n:Int}{k:Nat}(h0:0<=n)(hk:k<=16)(h1:n.toNat<10 ^ (k+1)):List.replicate (k+1 - (fX n).length) 48++fX n=aQ (k+1) n.toNat:=by
 unfold fX
 rw[if_neg (by omega)]
 exact eu k 20 n.toNat (Nat.lt_of_lt_of_le h1 (Nat.pow_le_pow_right (by omega) (by omega))) h1 (by omega)
theorem eh {n:Int}{k:Nat}(h0:0<=n)(hk:k<=8)(h1:n.toNat<10 ^ (k+1)):ag Tryz.prog aq 143 [.int .i64 n,.int .i64 ((k+1:Nat):Int)] (.str (aQ (k+1) n.toNat)):=by
 have hp:10 ^ (k+1)<=10 ^ 9:=Nat.pow_le_pow_right (by omega) (by omega)
 have hi:=r6 n (by omega) (by omega)
 have hL:=Cx h0 (by omega:k<=16) h1
 have hl:=pn n
 have hr:=tj (k+1 - (fX n).length) (by omega)
 generalize fX n=L at *
 have hm:max (0:Int) ((k:Int)+1 - (L.length:Int))=((k+1 - L.length:Nat):Int):=by omega
 rw[<- hm] at hr
 refine ag.intro Tq.2 (by simp[Tq]) ?_
 simp(disch:=try exact dI) only[Tq,push_cast,seval]
 refine ab.pure hi rfl ?_
 refine zgZ ?_
 refine ab.pure hr rfl ?_
 simp(disch:=try exact dI) only[hL,push_cast,seval]
def cE (y:Int)(m:Nat)(d:Int):List UInt8:=aQ 4 y.toNat++[45]++aQ 2 m++[45]++aQ 2 d.toNat
theorem jJ (y:Int)(m:Nat)(d:Int):(cE y m d).length=10:=by simp[cE,aT]
theorem IP {y:Int}{m:Nat}{d:Int}(h:DateOk y m d):ag Tryz.prog aq 88 [.int .i64 (jg y m d - 719162)] (.tup [.str (cE y m d),.int .i64 0]):=by
 have hc:=Mz h
 have hy1:=h.y1
 have hy2:=h.y2
 have hm1:=h.m1
 have hm2:=h.m2
 have hd1:=h.d1
 have hd2:=h.d2
 have hmd:=dQ y m
 have p1:=eh (n:=y) (k:=3) (by omega) (by omega) (by simp;omega)
 have p2:=eh (n:=(m:Int)) (k:=1) (by omega) (by omega) (by simp;omega)
 have p3:=eh (n:=d) (k:=1) (by omega) (by omega) (by simp;omega)
 simp only[Nat.reduceAdd,Int.toNat_natCast] at p1 p2 p3
 have l1:=aT 4 y.toNat
 have l2:=aT 2 m
 have l3:=aT 2 d.toNat
 unfold cE
 generalize aQ 4 y.toNat=t1 at *
 generalize aQ 2 m=t2 at *
 generalize aQ 2 d.toNat=t3 at *
 generalize jg y m d - 719162=n at *
 refine ag.intro Q88.2 (by simp[Q88]) ?_
 simp(disch:=try exact dI) only[Q88,push_cast,seval]
 refine ab.pure hc rfl ?_
 refine zgZ ?_
 refine ab.pure p1 rfl ?_
 refine zgZ ?_
 refine ab.pure p2 rfl ?_
 refine zgZ ?_
 refine ab.pure p3 rfl ?_
 exact qsZ
theorem Ko {d r:Int}(h1:-719162<=d/\d<=2932896)(h2:0<=r/\r<=86399999):ag Tryz.prog aq 144 [.int .i64 (d*86400000+r)] (.tup [.int .i64 d,.int .i64 r,.int .i64 0]):=by
 have hin:=dz (n:=d*86400000+r) (lo:=-62135596800000) (hi:=253402300799999) ⟨by omega,by omega⟩
 obtain⟨n,hn⟩:∃ n,n=d*86400000+r:=⟨_,rfl⟩
 have e1:=eS (a:=n - -62135596800000) (b:=86400000) (by omega)
 have e2:=eD (a:=n - -62135596800000) (b:=86400000) (by omega)
 have e3:-719162+(n - -62135596800000) / 86400000=d:=by omega
 have e4:(n - -62135596800000) % 86400000=r:=by omega
 rw[<- hn] at hin ⊢
 refine ag.intro Tp.2 (by simp[Tp]) ?_
 simp(disch:=try exact dI) only[Tp,push_cast,seval]
 refine ab.pure hin rfl ?_
 simp(disch:=try exact dI) only[e1,e2,e3,e4,push_cast,seval]
def fF (t:List UInt8)(h mi s ms:Nat):List UInt8:=t++([84]++aQ 2 h++[58]++aQ 2 mi++[58]++aQ 2 s)++(if ms=0 then [] else [46]++aQ 3 ms)++[90]
theorem uZ {y:Int}{m:Nat}{d:Int}(hD:DateOk y m d){h mi s ms:Nat}(h1:h<=23)(h2:mi<=59)(h3:s<=59)(h4:ms<=999) :
  ag Tryz.prog aq 90 [.int .i64 ((jg y m d - 719162)*86400000+((((60*(h:Int)+mi)*60+s)*1000+ms)))] (.tup [.str (fF (cE y m d) h mi s ms),.int .i64 0]):=by
 have hr:=fi hD
 have hs:=Ko (d:=jg y m d - 719162) (r:=((60*(h:Int)+mi)*60+s)*1000+ms) ⟨by omega,by omega⟩ ⟨by omega,by omega⟩
 have ht:=IP hD
 have htl:=jJ y m d
 have p1:=eh (n:=(h:Int)) (k:=1) (by omega) (by omega) (by simp;omega)
 have p2:=eh (n:=(mi:Int)) (k:=1) (by omega) (by omega) (by simp;omega)
 have p3:=eh (n:=(s:Int)) (k:=1) (by omega) (by omega) (by simp;omega)
 have p4:=eh (n:=(ms:Int)) (k:=2) (by omega) (by omega) (by simp;omega)
 simp only[Nat.reduceAdd,Int.toNat_natCast] at p1 p2 p3 p4
 have l1:=aT 2 h
 have l2:=aT 2 mi
 have l3:=aT 2 s
 have l4:=aT 3 ms
 obtain⟨r,hr⟩:∃ r,r=((60*(h:Int)+mi)*60+s)*1000+ms:=⟨_,rfl⟩
 rw[<- hr] at hs ⊢
 have q1:=eS (a:=r) (b:=1000) (by omega)
 have q2:=eS (a:=r / 1000) (b:=3600) (by omega)
 have q3:=eS (a:=r / 1000) (b:=60) (by omega)
 have q4:=eD (a:=r / 1000 / 60) (b:=60) (by omega)
 have q5:=eD (a:=r / 1000) (b:=60) (by omega)
 have q6:=eD (a:=r) (b:=1000) (by omega)
 have g2:r / 1000 / 3600=h:=by omega
 have g3:r / 1000 / 60 % 60=mi:=by omega
 have g4:r / 1000 % 60=s:=by omega
 have g5:r % 1000=ms:=by omega
 have hrb:0<=r/\r<=86399999:=⟨by omega,by omega⟩
 clear hr
 unfold fF
 generalize cE y m d=t0 at *
 generalize aQ 2 h=t1 at *
 generalize aQ 2 mi=t2 at *
 generalize aQ 2 s=t3 at *
 generalize aQ 3 ms=t4 at *
 generalize jg y m d - 719162=n at *
 generalize n*86400000+r=N at *
 by_cases hm:ms=0
 ·rw[if_pos hm,List.append_nil]
  subst hm
  refine ag.intro Q90.2 (by simp[Q90]) ?_
  simp(disch:=try exact dI) only[Q90,push_cast,seval]
  refine ab.pure hs rfl ?_
  refine zgZ ?_
  refine ab.pure ht rfl ?_
  simp(disch:=try exact dI) only[q1,q2,g2,push_cast,seval]
  refine ab.pure p1 rfl ?_
  simp(disch:=try exact dI) only[q3,q4,g3,push_cast,seval]
  refine ab.pure p2 rfl ?_
  simp(disch:=try exact dI) only[q5,g4,push_cast,seval]
  refine ab.pure p3 rfl ?_
  simp(disch:=try exact dI) only[q6,g5,push_cast,seval]
 ·rw[if_neg hm]
  refine ag.intro Q90.2 (by simp[Q90]) ?_
  simp(disch:=try exact dI) only[Q90,push_cast,seval]
  refine ab.pure hs rfl ?_
  refine zgZ ?_
  refine ab.pure ht rfl ?_
  simp(disch:=try exact dI) only[q1,q2,g2,push_cast,seval]
  refine ab.pure p1 rfl ?_
  simp(disch:=try exact dI) only[q3,q4,g3,push_cast,seval]
  refine ab.pure p2 rfl ?_
  simp(disch:=try exact dI) only[q5,g4,push_cast,seval]
  refine ab.pure p3 rfl ?_
  have hm':¬ (ms:Int)=0:=by omega
  simp(disch:=try exact dI) only[q6,g5,push_cast,seval]
  refine ab.pure p4 rfl ?_
  exact qsZ
end Go.Proofs.YtbojpfpliibfbaaGreatDoor
