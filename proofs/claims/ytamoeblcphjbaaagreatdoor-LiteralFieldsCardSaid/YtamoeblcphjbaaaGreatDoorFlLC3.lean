/- A part of the proof for LiteralFieldsCardSaid. -/
import Derived.Test.YtamoeblcphjbaaaGreatDoorFlLD
set_option maxRecDepth 100000
set_option linter.unusedVariables false
set_option linter.unusedSimpArgs false
-- many steps
namespace Go.Proofs.YtamoeblcphjbaaaGreatDoor
open Go Go.Ab
open Nat renaming reduceEqDiff→qa,reduceAdd→qb,reduceMul→qc,reduceLeDiff→qd,reduceLT→qe,reduceBEq→qf,reduceSub→qg
open Int renaming reduceToNat→qh,reduceNeg→qi
attribute [local irreducible] vc
def P1 (m:Nat):Int:=if m=2 then 28 else if m=4∨m=6∨m=9∨m=11 then 30 else 31
theorem HL (y:Int)(m:Nat)(h:¬ (m=2∧iy y=true)):mdI y m=P1 m:=by
 unfold mdI P1
 by_cases h2:m=2
 ·subst h2
  have:¬ iy y=true:=fun hl=>h ⟨rfl,hl⟩
  simp[this]
 ·have:¬ (m:Int)=2:=by omega
  rw[if_neg this,if_neg h2]
  by_cases h4:m=4∨m=6∨m=9∨m=11
  ·rw[if_pos h4,if_pos (by omega)]
  ·rw[if_neg h4,if_neg (by omega)]
theorem Q6 (m:Nat)(h1:1≤m)(h2:m≤12):fW false 12 1 (.pv (.agg [.int .i64 31,.int .i64 28,.int .i64 31,.int .i64 30,.int .i64 31,.int .i64 30,.int .i64 31,.int .i64 31,.int .i64 30,.int .i64 31,.int .i64 30,.int .i64 31])) (.pv (.int .i64 ((m:Int) - 1)))=some (.pv (.int .i64 (P1 m))):=by
 have h12:m=1∨m=2∨m=3∨m=4∨m=5∨m=6∨m=7∨m=8∨m=9∨m=10∨m=11∨m=12:=by omega
 rcases h12 with rfl | rfl | rfl | rfl | rfl | rfl | rfl | rfl | rfl | rfl | rfl | rfl<;>rfl
theorem JZ {y:Int}(h1:1≤y)(h2:y≤9999)(m:Nat)(h3:1≤m)(h4:m≤12):aq Tryz.prog aF 156 [.int .i64 y,.int .i64 (m:Int)] (.int .i64 (mdI y m)):=by
 have hl:=Ka h1 h2
 have hx:=Q6 m h3 h4
 refine aq.intro LM (by simp[PO]) ?_
 by_cases h:m=2
 ·subst h
  cases hb:iy y with
  | true=>
    rw[hb] at hl
    rw[show mdI y ((2:Nat):Int)=29 by simp[mdI,hb]]
    simp(disch:=try exact dI) only[PO,push_cast,↓reduceIte,qa,qb,qc,qd,qe,qf,qg,qh,qi]
    refine ab.pure hl rfl ?_
    simp(disch:=try exact dI) only[push_cast,↓reduceIte,qa,qb,qc,qd,qe,qf,qg,qh,qi]
  | false=>
    rw[hb] at hl
    rw[HL y 2 (by simp[hb])]
    have hx2:fW false 12 1 (.pv (.agg [.int .i64 31,.int .i64 28,.int .i64 31,.int .i64 30,.int .i64 31,.int .i64 30,.int .i64 31,.int .i64 31,.int .i64 30,.int .i64 31,.int .i64 30,.int .i64 31])) (.pv (.int .i64 (2 - 1)))=some (.pv (.int .i64 28)):=rfl
    rw[show P1 2=28 from rfl]
    simp(disch:=try exact dI) only[PO,push_cast,↓reduceIte,qa,qb,qc,qd,qe,qf,qg,qh,qi]
    refine ab.pure hl rfl ?_
    simp(disch:=try exact dI) only[hx2,push_cast,↓reduceIte,qa,qb,qc,qd,qe,qf,qg,qh,qi]
 ·rw[HL y m (by simp[h])]
  simp(disch:=try exact dI) only[PO,hx,push_cast,↓reduceIte,qa,qb,qc,qd,qe,qf,qg,qh,qi]
theorem ky {y:Int}(h1:1≤y)(h2:y≤9999)(m:Nat)(h3:1≤m)(h4:m≤12):aq Tryz.prog aF 223 [.int .i64 y,.int .i64 (m:Int)] (.tup [.int .i64 (mdI y m),.int .i64 0]):=by
 have hi1:=dN (n:=y) (lo:=1) (hi:=9999) ⟨h1,h2⟩
 have hi2:=dN (n:=(m:Int)) (lo:=1) (hi:=12) ⟨by omega,by omega⟩
 have hm:=JZ h1 h2 m h3 h4
 refine aq.intro Dm (by simp[Mp]) ?_
 simp(disch:=try exact dI) only[Mp,push_cast,↓reduceIte,qa,qb,qc,qd,qe,qf,qg,qh,qi]
 refine ab.pure hi1 rfl ?_
 simp(disch:=try exact dI) only[push_cast,↓reduceIte,qa,qb,qc,qd,qe,qf,qg,qh,qi]
 refine ab.pure hi2 rfl ?_
 simp(disch:=try exact dI) only[push_cast,↓reduceIte,qa,qb,qc,qd,qe,qf,qg,qh,qi]
 refine ab.pure hm rfl ?_
 simp(disch:=try exact dI) only[push_cast,↓reduceIte,qa,qb,qc,qd,qe,qf,qg,qh,qi]
theorem ru {y m:Int}(h:¬ (1≤y∧y≤9999∧1≤m∧m≤12)):aq Tryz.prog aF 223 [.int .i64 y,.int .i64 m] (.tup [.int .i64 0,.int .i64 17]):=by
 refine aq.intro Dm (by simp[Mp]) ?_
 by_cases hy:1≤y∧y≤9999
 ·have hi1:=dN (n:=y) (lo:=1) (hi:=9999) hy
  have hi2:=nc (n:=m) (lo:=1) (hi:=12) (by omega)
  simp(disch:=try exact dI) only[Mp,push_cast,↓reduceIte,qa,qb,qc,qd,qe,qf,qg,qh,qi]
  refine ab.pure hi1 rfl ?_
  simp(disch:=try exact dI) only[push_cast,↓reduceIte,qa,qb,qc,qd,qe,qf,qg,qh,qi]
  refine ab.pure hi2 rfl ?_
  simp(disch:=try exact dI) only[push_cast,↓reduceIte,qa,qb,qc,qd,qe,qf,qg,qh,qi]
 ·have hi1:=nc (n:=y) (lo:=1) (hi:=9999) hy
  simp(disch:=try exact dI) only[Mp,push_cast,↓reduceIte,qa,qb,qc,qd,qe,qf,qg,qh,qi]
  refine ab.pure hi1 rfl ?_
  simp(disch:=try exact dI) only[push_cast,↓reduceIte,qa,qb,qc,qd,qe,qf,qg,qh,qi]
theorem N9 {y:Int}{m:Nat}{d:Int}(h:DateOk y m d):aq Tryz.prog aF 191 [.int .i64 y,.int .i64 (m:Int),.int .i64 d] (.tup [.int .i64 (iF y m d - 719162),.int .i64 0]):=by
 have hm:=ky h.y1 h.y2 m h.m1 h.m2
 have hi:=dN (n:=d) (lo:=1) (hi:=mdI y m) ⟨h.d1,h.d2⟩
 have hb:=H9 h.y1 (by have:=h.y2;omega)
 have hbb:=gW h.y1 (by have:=h.y2;omega)
 have hmd:=d6 y m
 have hd1:=h.d1
 have hd2:=h.d2
 have hdr:=fk h
 have hdn:iF y m d=ek y+dR y (m - 1)+d - 1:=rfl
 refine aq.intro Do (by simp[Ms]) ?_
 simp(disch:=try exact dI) only[Ms,push_cast,↓reduceIte,qa,qb,qc,qd,qe,qf,qg,qh,qi]
 refine ab.pure hm rfl ?_
 simp(disch:=try exact dI) only[push_cast,↓reduceIte,qa,qb,qc,qd,qe,qf,qg,qh,qi]
 refine ab.pure hi rfl ?_
 simp(disch:=try exact dI) only[push_cast,↓reduceIte,qa,qb,qc,qd,qe,qf,qg,qh,qi]
 refine ab.pure hb rfl ?_
 simp(disch:=try exact dI) only[push_cast,↓reduceIte,qa,qb,qc,qd,qe,qf,qg,qh,qi]
 have e0:((0:Nat):Int)+1=1:=rfl
 have e1:-719162+ek y+d - 1+dR y 0 = -719162+ek y+d - 1:=by
  have z:dR y 0=0:=rfl
  omega
 refine aN ([]) (fun k:Nat=>[(10,.pv (.int .i64 (-719162+ek y+d - 1+dR y k))),(11,.pv (.int .i64 ((k:Int)+1)))]) (fun _=>[]) (fun k=>k≤m - 1) (fun k=>m - 1 - k) (0) ?_;intro e0 σ0 n0 h0;simp(disch:=try exact dI) only[push_cast,↓reduceIte,qa,qb,qc,qd,qe,qf,qg,qh,qi] at h0;obtain⟨rfl,rfl,rfl⟩:=h0;refine⟨?_,?_,?_⟩
 ·simp(disch:=try exact dI) only[e1,Int.zero_add,push_cast,↓reduceIte,qa,qb,qc,qd,qe,qf,qg,qh,qi]
 ·omega
 intro k hk
 have hs0:=cY y k 0
 have z:dR y 0=0:=rfl
 simp only[Nat.zero_add] at hs0
 have hsm:=cY y (m - 1 - k) k
 rw[show k+(m - 1 - k)=m - 1 by omega] at hsm
 by_cases hlt:k<m - 1
 ·have hmk:=JZ h.y1 h.y2 (k+1) (by omega) (by have:=h.m2;omega)
  have hmdk:=d6 y ((k+1:Nat):Int)
  have hsk:dR y (k+1)=dR y k+mdI y ((k+1:Nat):Int):=rfl
  rw[show ((k+1:Nat):Int)=(k:Int)+1 by omega] at hmk hmdk hsk
  have hs2:-719162+ek y+d - 1+dR y (k+1) = -719162+ek y+d - 1+dR y k+mdI y ((k:Int)+1):=by omega
  simp(disch:=try exact dI) only[push_cast,↓reduceIte,qa,qb,qc,qd,qe,qf,qg,qh,qi]
  refine ab.pure hmk rfl ?_
  simp(disch:=try exact dI) only[push_cast,↓reduceIte,qa,qb,qc,qd,qe,qf,qg,qh,qi]
  exact⟨k+1,bz (by simp(disch:=try exact dI) only[hs2,push_cast,↓reduceIte,qa,qb,qc,qd,qe,qf,qg,qh,qi]),by omega,by omega⟩
 ·have:k=m - 1:=by omega
  subst this
  have hfin:-719162+ek y+d - 1+dR y (m - 1)=iF y m d - 719162:=by omega
  simp(disch:=try exact dI) only[hfin,push_cast,↓reduceIte,qa,qb,qc,qd,qe,qf,qg,qh,qi]
theorem Oa {y m d:Int}(h:∀ k:Nat,m=k→¬ DateOk y k d):aq Tryz.prog aF 191 [.int .i64 y,.int .i64 m,.int .i64 d] (.tup [.int .i64 0,.int .i64 17]):=by
 refine aq.intro Do (by simp[Ms]) ?_
 by_cases hm:1≤y∧y≤9999∧1≤m∧m≤12
 ·obtain⟨k,rfl⟩:∃ k:Nat,m=k:=⟨m.toNat,by omega⟩
  have hmt:=ky hm.1 hm.2.1 k (by omega) (by omega)
  have hi:=nc (n:=d) (lo:=1) (hi:=mdI y k) (fun hd=>h k rfl ⟨hm.1,hm.2.1,by omega,by omega,hd.1,hd.2⟩)
  simp(disch:=try exact dI) only[Ms,push_cast,↓reduceIte,qa,qb,qc,qd,qe,qf,qg,qh,qi]
  refine ab.pure hmt rfl ?_
  simp(disch:=try exact dI) only[push_cast,↓reduceIte,qa,qb,qc,qd,qe,qf,qg,qh,qi]
  refine ab.pure hi rfl ?_
  simp(disch:=try exact dI) only[push_cast,↓reduceIte,qa,qb,qc,qd,qe,qf,qg,qh,qi]
 ·have hmf:=ru hm
  simp(disch:=try exact dI) only[Ms,push_cast,↓reduceIte,qa,qb,qc,qd,qe,qf,qg,qh,qi]
  refine ab.pure hmf rfl ?_
  simp(disch:=try exact dI) only[push_cast,↓reduceIte,qa,qb,qc,qd,qe,qf,qg,qh,qi]
end Go.Proofs.YtamoeblcphjbaaaGreatDoor
-- many steps
namespace Go.Proofs.YtamoeblcphjbaaaGreatDoor
open Go Go.Ab
attribute [local irreducible] vc
theorem KP {y:Int}{m:Nat}{d:Int}(h:DateOk y m d):aq Tryz.prog aF 89 [.int .i64 (iF y m d - 719162)] (.tup [.int .i64 y,.int .i64 (m:Int),.int .i64 d,.int .i64 0]):=by
 have hdr:=fk h
 have hdb:=pK h
 have hy1:=h.y1
 have hy2:=h.y2
 have hm1:=h.m1
 have hm2:=h.m2
 have hd1:=h.d1
 have hd2:=h.d2
 have hdn:iF y m d=ek y+dR y (m - 1)+d - 1:=rfl
 obtain⟨n,hn⟩:∃ n,n=iF y m d:=⟨_,rfl⟩
 rw[← hn] at hdr hdb hdn ⊢
 have hin:=dN (n:=n - 719162) (lo:=-719162) (hi:=2932896) ⟨by omega,by omega⟩
 have hq:=gl (a:=n) (b:=365) (by omega)
 have hs0:=cY y (m - 1) 0
 have z:dR y 0=0:=rfl
 simp only[Nat.zero_add] at hs0
 have hbb:=gW hy1 (by omega)
 have hb365:365*(y - 1)≤ek y:=by unfold ek;omega
 have e1:n - 719162 - -719162=n:=by omega
 refine aq.intro OZ (by simp[F89]) ?_
 simp(disch:=try exact dI) only[F89,push_cast,seval]
 refine ab.pure hin rfl ?_
 have hmin:y≤n / 365+1:=by omega
 have hloop:∀ Y:Int,y≤Y→Y≤9999→(n<ek Y↔y<Y):=by
  intro Y h1 h2
  constructor
  ·intro h3
   by_cases e:Y=y
   ·subst e;omega
   ·omega
  ·intro h3
   have:=OB h3
   omega
 simp(disch:=try exact dI) only[e1,hq,push_cast,seval]
 refine aN ([]) (fun Y:Int=>[(2,.pv (.int .i64 Y))]) (fun _=>[]) (fun Y=>y≤Y∧Y≤9999) (fun Y=>(Y - y).toNat) (min (n / 365+1) 9999) ?_;intro e0 σ0 n0 h0;simp(disch:=try exact dI) only[push_cast,seval] at h0;obtain⟨rfl,rfl,rfl⟩:=h0;refine⟨?_,?_,?_⟩
 ·simp(disch:=try exact dI) only[push_cast,seval]
 ·exact⟨by omega,by omega⟩
 rintro Y ⟨g1,g2⟩
 have hbY:=H9 (y:=Y) (by omega) (by omega)
 by_cases hY:y<Y
 ·have hgt:=(hloop Y g1 g2).2 hY
  simp(disch:=try exact dI) only[push_cast,seval]
  refine ab.pure hbY rfl ?_
  simp(disch:=try exact dI) only[push_cast,seval]
  exact⟨Y - 1,bz qsZ,⟨by omega,by omega⟩,by omega⟩
 ·have:Y=y:=by omega
  subst this
  simp(disch:=try exact dI) only[push_cast,seval]
  refine ab.pure hbY rfl ?_
  simp(disch:=try exact dI) only[push_cast,seval]
  refine ab.pure hbY rfl ?_
  simp(disch:=try exact dI) only[push_cast,seval]
  refine aN ([]) (fun k:Nat=>[(3,.pv (.int .i64 ((k:Int)+1))),(6,.pv (.int .i64 (n - ek Y - dR Y k)))]) (fun _=>[]) (fun k=>k≤m - 1) (fun k=>m - 1 - k) (0) ?_;intro e0 σ0 n0 h0;simp(disch:=try exact dI) only[push_cast,seval] at h0;obtain⟨rfl,rfl,rfl⟩:=h0;refine⟨?_,?_,?_⟩
  ·simp(disch:=try exact dI) only[z,Int.zero_add,Int.sub_zero,push_cast,seval]
  ·omega
  intro k hk
  have hsm:=cY Y (m - 1 - k) k
  rw[show k+(m - 1 - k)=m - 1 by omega] at hsm
  have hs1:=cY Y k 0
  simp only[Nat.zero_add] at hs1
  have hmk:=JZ hy1 hy2 (k+1) (by omega) (by omega)
  have hmdk:=d6 Y ((k+1:Nat):Int)
  have hsk:dR Y (k+1)=dR Y k+mdI Y ((k+1:Nat):Int):=rfl
  rw[show ((k+1:Nat):Int)=(k:Int)+1 by omega] at hmk hmdk hsk
  by_cases hlt:k<m - 1
  ·have hge:mdI Y ((k:Int)+1)≤n - ek Y - dR Y k:=by
    have hs2:=cY Y (m - 1 - (k+1)) (k+1)
    rw[show k+1+(m - 1 - (k+1))=m - 1 by omega] at hs2
    omega
   have he:n - ek Y - dR Y (k+1)=n - ek Y - dR Y k - mdI Y ((k:Int)+1):=by omega
   simp(disch:=try exact dI) only[push_cast,seval]
   refine ab.pure hmk rfl ?_
   simp(disch:=try exact dI) only[push_cast,seval]
   refine ab.pure hmk rfl ?_
   simp(disch:=try exact dI) only[push_cast,seval]
   exact⟨k+1,bz (by simp(disch:=try exact dI) only[he,push_cast,seval]),by omega,by omega⟩
  ·have hkm:k=m - 1:=by omega
   subst hkm
   have em:((m - 1:Nat):Int)+1=(m:Int):=by omega
   have em2:(m:Int) - 1+1=(m:Int):=by omega
   rw[em] at hmk hmdk hsk
   have hnge:¬ mdI Y (m:Int)≤n - ek Y - dR Y (m - 1):=by omega
   have efin:n - ek Y - dR Y (m - 1)+1=d:=by omega
   simp(disch:=try exact dI) only[em2,push_cast,seval]
   refine ab.pure hmk rfl ?_
   simp(disch:=try exact dI) only[em2,efin,push_cast,seval]
end Go.Proofs.YtamoeblcphjbaaaGreatDoor
-- many steps
namespace Go.Proofs.YtamoeblcphjbaaaGreatDoor
open Go Go.Ab
attribute [local irreducible] vc
def isD (c:UInt8):Bool:=decide (48≤c.toNat)&&decide (c.toNat≤57)
def jf:Int→List UInt8→Int
 | n,[]=>n
 | n,c::r=>jf (10*n+((c.toNat:Int) - 48)) r
theorem jB (c:UInt8):∀ (l:List UInt8) (n:Int),jf n (l++[c])=10*jf n l+((c.toNat:Int) - 48)
 | [],n=>rfl
 | d::l,n=>by simp only[List.cons_append,jf];exact jB c l _
theorem gG {c:UInt8}(h:isD c=true):48≤c.toNat∧c.toNat≤57:=by simpa[isD] using h
theorem dd:∀ (l:List UInt8) (n:Int),0≤n→l.all isD=true→0≤jf n l∧jf n l+1≤(n+1)*((10 ^ l.length:Nat):Int)
 | [],n,h0,_=>by simp[jf];omega
 | c::r,n,h0,hd=>by
   simp only[List.all_cons,Bool.and_eq_true] at hd
   have hc:=gG hd.1
   have ih:=dd r (10*n+((c.toNat:Int) - 48)) (by omega) hd.2
   refine⟨ih.1,Int.le_trans ih.2 ?_⟩
   rw[List.length_cons,Nat.pow_succ]
   have hp:(0:Int)≤((10 ^ r.length:Nat):Int):=Int.natCast_nonneg _
   have h1:(10*n+((c.toNat:Int) - 48)+1)*((10 ^ r.length:Nat):Int)≤((n+1)*10)*((10 ^ r.length:Nat):Int):=Int.mul_le_mul_of_nonneg_right (by omega) hp
   have h2:((n+1)*10)*((10 ^ r.length:Nat):Int)=(n+1)*((10 ^ r.length*10:Nat):Int):=by
    rw[Int.mul_assoc,Int.natCast_mul,Int.mul_comm (10:Int)];rfl
   exact Int.le_trans h1 (Int.le_of_eq h2)
theorem N8 {l:List UInt8}(h:l.all isD=true)(hl:l.length≤9):0≤jf 0 l∧jf 0 l≤999999999:=by
 have:=dd l 0 (by omega) h
 have hp:10 ^ l.length≤10 ^ 9:=Nat.pow_le_pow_right (by omega) hl
 omega
def rn (k:Nat)(s:List UInt8):Option (Int×List UInt8):=if k≤s.length∧(s.take k).all isD=true then some (jf 0 (s.take k),s.drop k) else none
def HH (s:List UInt8):Option (Int×List UInt8)→PV
 | some p=>.tup [.int .i64 p.1,.str p.2,.bool true]
 | none=>.tup [.int .i64 0,.str s,.bool false]
end Go.Proofs.YtamoeblcphjbaaaGreatDoor
namespace Go.Proofs.YtamoeblcphjbaaaGreatDoor
open Go Go.Ab
attribute [local irreducible] vc
theorem ot:∀ k:Nat,Lib.repeatL [48] k=List.replicate k 48
 | 0=>rfl
 | k+1=>by rw[Lib.repeatL,ot k];rfl
theorem s9 (k:Nat)(h:k≤17):aq Tryz.prog aF 88 [.str [48],.int .i64 (k:Int)] (.str (List.replicate k 48)):=by
 have h1:=oq [48] (k:Int) (by omega) (by omega) (by simp;omega)
 rw[Int.toNat_natCast,ot] at h1;exact h1
def aX:Nat→Nat→List UInt8
 | 0,_=>[]
 | k+1,n=>aX k (n / 10)++[UInt8.ofNat (48+n % 10)]
theorem aV:∀ (k n:Nat),(aX k n).length=k
 | 0,_=>rfl
 | k+1,n=>by simp[aX,aV k]
theorem oS:∀ k:Nat,aX k 0=List.replicate k 48
 | 0=>rfl
 | k+1=>by rw[aX,show 0 / 10=0 from rfl,oS k,List.replicate_succ'];rfl
theorem eL:∀ (k f n:Nat),n<10 ^ f→n<10 ^ (k+1)→0<f→List.replicate (k+1 - (bl f n).length) 48++bl f n=aX (k+1) n
 | k,0,n,_,_,h=>absurd h (by omega)
 | k,f+1,n,hf,hk,_=>by
   rw[bl]
   by_cases h:n<10
   ·rw[if_pos h,aX,show n / 10=0 by omega,oS,show n % 10=n by omega]
    simp
   ·rw[if_neg h]
    cases k with
    | zero=>simp at hk;omega
    | succ k=>
      have hf':n / 10<10 ^ f:=by rw[Nat.pow_succ] at hf;exact Nat.div_lt_of_lt_mul (by rw[Nat.mul_comm];exact hf)
      have hk':n / 10<10 ^ (k+1):=by rw[Nat.pow_succ] at hk;exact Nat.div_lt_of_lt_mul (by rw[Nat.mul_comm];exact hk)
      have h0:0<f:=by
       cases f with
       | zero=>simp at hf;omega
       | succ f=>omega
      have ih:=eL k f (n / 10) hf' hk' h0
      rw[aX,← ih,List.length_append,List.append_assoc]
      simp
theorem FG:∀ (l:List UInt8),l.all isD=true→aX l.length (jf 0 l).toNat=l:=by
 intro l
 induction hn:l.length generalizing l with
 | zero=>intro _;simp[List.length_eq_zero_iff.1 hn,aX]
 | succ k ih=>
   intro h
   obtain⟨a,c,rfl⟩:∃ a c,l=a++[c]:=by
    refine⟨l.dropLast,l.getLast (by intro e;simp[e] at hn),(List.dropLast_concat_getLast _).symm⟩
   rw[List.all_append,Bool.and_eq_true] at h
   have hc:=gG (c:=c) (by simpa using h.2)
   have h0:=(dd a 0 (by omega) h.1).1
   rw[jB,aX]
   have e1:(10*jf 0 a+((c.toNat:Int) - 48)).toNat / 10=(jf 0 a).toNat:=by omega
   have e2:48+(10*jf 0 a+((c.toNat:Int) - 48)).toNat % 10=c.toNat:=by omega
   rw[e1,e2,ih a (by simpa using hn) h.1]
   simp
theorem Bl {n:Int}{k:Nat}(h0:0≤n)(hk:k≤16)(h1:n.toNat<10 ^ (k+1)):List.replicate (k+1 - (cR n).length) 48++cR n=aX (k+1) n.toNat:=by
 unfold cR
 rw[if_neg (by omega)]
 exact eL k 20 n.toNat (Nat.lt_of_lt_of_le h1 (Nat.pow_le_pow_right (by omega) (by omega))) h1 (by omega)
theorem eA {n:Int}{k:Nat}(h0:0≤n)(hk:k≤8)(h1:n.toNat<10 ^ (k+1)):aq Tryz.prog aF 90 [.int .i64 n,.int .i64 ((k+1:Nat):Int)] (.str (aX (k+1) n.toNat)):=by
 have hp:10 ^ (k+1)≤10 ^ 9:=Nat.pow_le_pow_right (by omega) (by omega)
 have hi:=na n (by omega) (by omega)
 have hL:=Bl h0 (by omega:k≤16) h1
 have hl:=kG n
 have hr:=s9 (k+1 - (cR n).length) (by omega)
 generalize cR n=L at *
 have hm:max (0:Int) ((k:Int)+1 - (L.length:Int))=((k+1 - L.length:Nat):Int):=by omega
 rw[← hm] at hr
 refine aq.intro OY (by simp[F90]) ?_
 simp(disch:=try exact dI) only[F90,push_cast,seval]
 refine ab.pure hi rfl ?_
 simp(disch:=try exact dI) only[push_cast,seval]
 refine ab.pure hr rfl ?_
 simp(disch:=try exact dI) only[hL,push_cast,seval]
end Go.Proofs.YtamoeblcphjbaaaGreatDoor
