/- A part of the proof. -/
import Derived.Test.YtbaaokocnegdoaaGreatDoorDeVSh2
set_option linter.unusedVariables false
set_option linter.unusedSimpArgs false
set_option maxRecDepth 100000
namespace Go.Proofs.YtbaaokocnegdoaaGreatDoor
open Go Go.Ab
open Nat renaming reduceEqDiff->qa,reduceAdd->qb,reduceMul->qc,reduceLeDiff->qd,reduceLT->qe,reduceBEq->qf,reduceSub->qg
open Int renaming reduceToNat->qh,reduceNeg->qi
attribute [local irreducible] vc
theorem Nf {y:Int}(h1:1<=y)(h2:y<=9999):ak Tryz.prog aq 233 [.int .i64 y] (.bool (gx y)):=by
 have e4:=fc (a:=y) (b:=4) (by omega)
 have e100:=fc (a:=y) (b:=100) (by omega)
 have e400:=fc (a:=y) (b:=400) (by omega)
 refine ak.intro OW.2 (by simp[OW]) ?_
 unfold gx
 by_cases a:y % 4=0
 ·by_cases b:y % 100=0
  ·by_cases c:y % 400=0
   ·simp only[a,b,c,decide_true,Bool.not_true,Bool.or_true,Bool.and_true]
    simp(disch:=try exact dI) only[OW,e4,e100,e400,a,b,c,push_cast,↓reduceIte,qa,qb,qc,qd,qe,qf,qg,qh,qi]
   ·simp only[a,b,c,decide_true,decide_false,Bool.not_true,Bool.or_false,Bool.and_false]
    simp(disch:=try exact dI) only[OW,e4,e100,e400,a,b,c,push_cast,↓reduceIte,qa,qb,qc,qd,qe,qf,qg,qh,qi]
  ·simp only[a,b,decide_true,decide_false,Bool.not_false,Bool.true_or,Bool.and_true]
   simp(disch:=try exact dI) only[OW,e4,e100,e400,a,b,push_cast,↓reduceIte,qa,qb,qc,qd,qe,qf,qg,qh,qi]
 ·have c:¬ y % 400=0:=by omega
  simp only[a,decide_false,Bool.false_and]
  simp(disch:=try exact dI) only[OW,e4,e100,e400,a,c,push_cast,↓reduceIte,qa,qb,qc,qd,qe,qf,qg,qh,qi]
theorem QK (m:Nat)(h1:1<=m)(h2:m<=12):eA 1 [.int .i64 31,.int .i64 28,.int .i64 31,.int .i64 30,.int .i64 31,.int .i64 30,.int .i64 31,.int .i64 31,.int .i64 30,.int .i64 31,.int .i64 30,.int .i64 31] ((m:Int) - 1)=dE 1 [.int .i64 31,.int .i64 28,.int .i64 31,.int .i64 30,.int .i64 31,.int .i64 30,.int .i64 31,.int .i64 31,.int .i64 30,.int .i64 31,.int .i64 30,.int .i64 31] (m - 1) (some (.int .i64 (Lw m))):=by
 rw[B4 _ _ (by omega),show ((m:Int) - 1).toNat=m - 1 by omega]
 have h12:m=1\/m=2\/m=3\/m=4\/m=5\/m=6\/m=7\/m=8\/m=9\/m=10\/m=11\/m=12:=by omega
 rcases h12 with rfl | rfl | rfl | rfl | rfl | rfl | rfl | rfl | rfl | rfl | rfl | rfl<;>rfl
theorem NO (m:Nat)(h1:1<=m)(h2:m<=12):([.int .i64 31,.int .i64 28,.int .i64 31,.int .i64 30,.int .i64 31,.int .i64 30,.int .i64 31,.int .i64 31,.int .i64 30,.int .i64 31,.int .i64 30,.int .i64 31]:List PV)[m - 1]? = some (.int .i64 (Lw m)):=by
 have h12:m=1\/m=2\/m=3\/m=4\/m=5\/m=6\/m=7\/m=8\/m=9\/m=10\/m=11\/m=12:=by omega
 rcases h12 with rfl | rfl | rfl | rfl | rfl | rfl | rfl | rfl | rfl | rfl | rfl | rfl<;>rfl
theorem nZ {y:Int}(h1:1<=y)(h2:y<=9999)(m:Nat)(h3:1<=m)(h4:m<=12):ak Tryz.prog aq 182 [.int .i64 y,.int .i64 (m:Int)] (.int .i64 (mdI y m)):=by
 have hl:=Nf h1 h2
 refine ak.intro FF.2 (by simp[FF]) ?_
 by_cases h:m=2
 ·subst h
  cases hb:gx y with
  | true=>
    rw[hb] at hl
    rw[show mdI y ((2:Nat):Int)=29 by simp[mdI,hb]]
    simp(disch:=try exact dI) only[FF,push_cast,↓reduceIte,qa,qb,qc,qd,qe,qf,qg,qh,qi]
    refine ab.pure hl rfl ?_
    simp(disch:=try exact dI) only[push_cast,↓reduceIte,qa,qb,qc,qd,qe,qf,qg,qh,qi]
  | false=>
    rw[hb] at hl
    rw[uN y 2 (by simp[hb])]
    rw[show Lw 2=28 from rfl]
    have hx2:eA 1 [.int .i64 31,.int .i64 28,.int .i64 31,.int .i64 30,.int .i64 31,.int .i64 30,.int .i64 31,.int .i64 31,.int .i64 30,.int .i64 31,.int .i64 30,.int .i64 31] (2 - 1)=dE 1 [.int .i64 31,.int .i64 28,.int .i64 31,.int .i64 30,.int .i64 31,.int .i64 30,.int .i64 31,.int .i64 31,.int .i64 30,.int .i64 31,.int .i64 30,.int .i64 31] 1 (some (.int .i64 28)):=rfl
    simp(disch:=try exact dI) only[FF,push_cast,↓reduceIte,qa,qb,qc,qd,qe,qf,qg,qh,qi]
    refine ab.pure hl rfl ?_
    simp(disch:=try exact dI) only[hx2,push_cast,↓reduceIte,qa,qb,qc,qd,qe,qf,qg,qh,qi]
 ·rw[uN y m (by simp[h])]
  simp(disch:=try exact dI) only[FF,QK m h3 h4,NO m h3 h4,push_cast,↓reduceIte,qa,qb,qc,qd,qe,qf,qg,qh,qi]
theorem xS {y m:Int}(h:¬ (1<=y/\y<=9999/\1<=m/\m<=12)):ak Tryz.prog aq 182 [.int .i64 y,.int .i64 m] (.int .i64 0):=by
 refine ak.intro FF.2 (by simp[FF]) ?_
 by_cases h1:y<1
 ·simp(disch:=try exact dI) only[FF,push_cast,↓reduceIte,qa,qb,qc,qd,qe,qf,qg,qh,qi]
 by_cases h2:9999<y
 ·simp(disch:=try exact dI) only[FF,push_cast,↓reduceIte,qa,qb,qc,qd,qe,qf,qg,qh,qi]
 by_cases h3:m<1
 ·simp(disch:=try exact dI) only[FF,push_cast,↓reduceIte,qa,qb,qc,qd,qe,qf,qg,qh,qi]
 ·have h4:12<m:=by omega
  simp(disch:=try exact dI) only[FF,push_cast,↓reduceIte,qa,qb,qc,qd,qe,qf,qg,qh,qi]
theorem Mk {y:Int}{m:Nat}{d:Int}(h:DateOk y m d):ak Tryz.prog aq 136 [.int .i64 y,.int .i64 (m:Int),.int .i64 d] (.tup [.int .i64 (rz y m d - 719162),.bool true]):=by
 have hm:=nZ h.y1 h.y2 m h.m1 h.m2
 have hbb:=iA h.y1 (by have:=h.y2;omega)
 have hmd:=fl y m
 have hy1:=h.y1
 have hy2:=h.y2
 have hm2:=h.m2
 have hd1:=h.d1
 have hd2:=h.d2
 have hdr:=iw h
 have hdn:rz y m d=j4 y+gu y (m - 1)+d - 1:=rfl
 have e4:=gK (a:=y - 1) (b:=4) (by omega)
 have e100:=gK (a:=y - 1) (b:=100) (by omega)
 have e400:=gK (a:=y - 1) (b:=400) (by omega)
 have hbf:365*(y - 1)+(y - 1) / 4 - (y - 1) / 100+(y - 1) / 400=j4 y:=rfl
 have z:gu y 0=0:=rfl
 refine ak.intro K5.2 (by simp[K5]) ?_
 simp(disch:=try exact dI) only[K5,push_cast,↓reduceIte,qa,qb,qc,qd,qe,qf,qg,qh,qi]
 refine ab.pure hm rfl ?_
 simp(disch:=try exact dI) only[e4,e100,e400,push_cast,↓reduceIte,qa,qb,qc,qd,qe,qf,qg,qh,qi]
 refine ap ([]) (fun k:Nat=>[(6,.pv (.int .i64 (j4 y+gu y k))),(9,.pv (.int .i64 ((k:Int)+1)))]) (fun _=>[]) (fun k=>k<=m - 1) (fun k=>m - 1 - k) (0) ?_;intro e0 σ0 n0 h0;simp(disch:=try exact dI) only[push_cast,↓reduceIte,qa,qb,qc,qd,qe,qf,qg,qh,qi] at h0;obtain⟨rfl,rfl,rfl⟩:=h0;refine⟨?_,?_,?_⟩
 ·simp(disch:=try exact dI) only[hbf,z,Int.zero_add,Int.add_zero,push_cast,↓reduceIte,qa,qb,qc,qd,qe,qf,qg,qh,qi]
 ·omega
 intro k hk
 have hs0:=en y k 0
 simp only[Nat.zero_add] at hs0
 have hsm:=en y (m - 1 - k) k
 rw[show k+(m - 1 - k)=m - 1 by omega] at hsm
 by_cases hlt:k<m - 1
 ·have hmk:=nZ hy1 hy2 (k+1) (by omega) (by omega)
  have hmdk:=fl y ((k+1:Nat):Int)
  have hsk:gu y (k+1)=gu y k+mdI y ((k+1:Nat):Int):=rfl
  rw[show ((k+1:Nat):Int)=(k:Int)+1 by omega] at hmk hmdk hsk
  have hs2:j4 y+gu y (k+1)=j4 y+gu y k+mdI y ((k:Int)+1):=by omega
  simp(disch:=try exact dI) only[push_cast,↓reduceIte,qa,qb,qc,qd,qe,qf,qg,qh,qi]
  refine ab.pure hmk rfl ?_
  simp(disch:=try exact dI) only[push_cast,↓reduceIte,qa,qb,qc,qd,qe,qf,qg,qh,qi]
  exact⟨k+1,aK (by simp(disch:=try exact dI) only[hs2,push_cast,↓reduceIte,qa,qb,qc,qd,qe,qf,qg,qh,qi]),by omega,by omega⟩
 ·have:k=m - 1:=by omega
  subst this
  have hfin:j4 y+gu y (m - 1)+d - 1 + -719162=rz y m d - 719162:=by omega
  simp(disch:=try exact dI) only[hfin,push_cast,↓reduceIte,qa,qb,qc,qd,qe,qf,qg,qh,qi]
theorem Ml {y m d:Int}(h:∀ k:Nat,m=k->¬ DateOk y k d):ak Tryz.prog aq 136 [.int .i64 y,.int .i64 m,.int .i64 d] (.tup [.int .i64 0,.bool false]):=by
 refine ak.intro K5.2 (by simp[K5]) ?_
 by_cases hd:d<1
 ·simp(disch:=try exact dI) only[K5,push_cast,↓reduceIte,qa,qb,qc,qd,qe,qf,qg,qh,qi]
 ·by_cases hm:1<=y/\y<=9999/\1<=m/\m<=12
  ·obtain⟨k,rfl⟩:∃ k:Nat,m=k:=⟨m.toNat,by omega⟩
   have hmt:=nZ hm.1 hm.2.1 k (by omega) (by omega)
   have hgt:mdI y k<d:=by
    by_cases hle:d<=mdI y k
    ·exact absurd ⟨hm.1,hm.2.1,by omega,by omega,by omega,hle⟩ (h k rfl)
    ·omega
   simp(disch:=try exact dI) only[K5,push_cast,↓reduceIte,qa,qb,qc,qd,qe,qf,qg,qh,qi]
   refine ab.pure hmt rfl ?_
   simp(disch:=try exact dI) only[push_cast,↓reduceIte,qa,qb,qc,qd,qe,qf,qg,qh,qi]
  ·have hmf:=xS hm
   simp(disch:=try exact dI) only[K5,push_cast,↓reduceIte,qa,qb,qc,qd,qe,qf,qg,qh,qi]
   refine ab.pure hmf rfl ?_
   simp(disch:=try exact dI) only[push_cast,↓reduceIte,qa,qb,qc,qd,qe,qf,qg,qh,qi]
def isD (c:UInt8):Bool:=decide (48<=c.toNat)&&decide (c.toNat<=57)
def fw:Int->List UInt8->Int
 | n,[]=>n
 | n,c::r=>fw (10*n+((c.toNat:Int) - 48)) r
theorem jY (c:UInt8):∀ (l:List UInt8) (n:Int),fw n (l++[c])=10*fw n l+((c.toNat:Int) - 48)
 | [],n=>rfl
 | d::l,n=>by simp only[List.cons_append,fw];exact jY c l _
theorem cD {c:UInt8}(h:isD c=true):48<=c.toNat/\c.toNat<=57:=by simpa[isD] using h
theorem di:∀ (l:List UInt8) (n:Int),0<=n->l.all isD=true->0<=fw n l/\fw n l+1<=(n+1)*((10 ^ l.length:Nat):Int)
 | [],n,h0,_=>by simp[fw];omega
 | c::r,n,h0,hd=>by
   simp only[List.all_cons,Bool.and_eq_true] at hd
   have hc:=cD hd.1
   have ih:=di r (10*n+((c.toNat:Int) - 48)) (by omega) hd.2
   refine⟨ih.1,Int.le_trans ih.2 ?_⟩
   rw[List.length_cons,Nat.pow_succ]
   have hp:(0:Int)<=((10 ^ r.length:Nat):Int):=Int.natCast_nonneg _
   have h1:(10*n+((c.toNat:Int) - 48)+1)*((10 ^ r.length:Nat):Int)<=((n+1)*10)*((10 ^ r.length:Nat):Int):=Int.mul_le_mul_of_nonneg_right (by omega) hp
   have h2:((n+1)*10)*((10 ^ r.length:Nat):Int)=(n+1)*((10 ^ r.length*10:Nat):Int):=by
    rw[Int.mul_assoc,Int.natCast_mul,Int.mul_comm (10:Int)];rfl
   exact Int.le_trans h1 (Int.le_of_eq h2)
theorem KI {l:List UInt8}(h:l.all isD=true)(hl:l.length<=9):0<=fw 0 l/\fw 0 l<=999999999:=by
 have:=di l 0 (by omega) h
 have hp:10 ^ l.length<=10 ^ 9:=Nat.pow_le_pow_right (by omega) hl
 omega
def mj (k:Nat)(s:List UInt8):Option (Int×List UInt8):=if k<=s.length/\(s.take k).all isD=true then some (fw 0 (s.take k),s.drop k) else none
def Kx (s:List UInt8):Option (Int×List UInt8)->PV
 | some p=>.tup [.int .i64 p.1,.str p.2,.bool true]
 | none=>.tup [.int .i64 0,.str s,.bool false]
theorem uH (s:List UInt8)(k:Nat)(hk:k<=8):ak Tryz.prog aq 77 [.str s,.int .i64 (k:Int)] (Kx s (mj k s)):=by
 refine ak.intro Q77.2 (by simp[Q77]) ?_
 by_cases hl:s.length<k
 ·rw[show mj k s=none from if_neg (by omega)]
  simp(disch:=try exact dI) only[Q77,Kx,push_cast,seval]
 ·obtain⟨R,hR⟩:∃ R,R=mj k s:=⟨_,rfl⟩
  rw[<- hR]
  simp(disch:=try exact dI) only[Q77,push_cast,seval]
  refine ap ([]) (fun i:Nat=>[(4,.pv (.int .i64 (fw 0 (s.take i)))),(14,.pv (.int .i64 (i:Int)))]) (fun _=>[]) (fun i=>i<=k/\(s.take i).all isD=true) (fun i=>k - i) (0) ?_;intro e0 σ0 n0 h0;simp(disch:=try exact dI) only[push_cast,seval] at h0;obtain⟨rfl,rfl,rfl⟩:=h0;refine⟨?_,?_,?_⟩
  ·refine zgZ ?_
   rfl
  ·exact⟨by omega,by simp⟩
  rintro i ⟨hi,hd⟩
  have hdl:=KI hd (by simp;omega)
  by_cases hlt:i<k
  ·obtain⟨c,hc⟩:∃ c,s[i]? = some c:=⟨_,List.getElem?_eq_getElem (by omega)⟩
   have hcl:=c.toNat_lt
   have hw:=cP (n:=(c.toNat:Int)) (by omega) (by omega)
   have hts:=aD hc
   by_cases hcd:isD c=true
   ·have hb:=cD hcd
    have hin:=fp (n:=(c.toNat:Int)) (lo:=48) (hi:=57) ⟨by omega,by omega⟩
    have hw2:=cP (n:=(c.toNat:Int) - 48) (by omega) (by omega)
    have hdv:fw 0 (s.take (i+1))=10*fw 0 (s.take i)+((c.toNat:Int) - 48):=by rw[hts,jY]
    have hd2:(s.take (i+1)).all isD=true:=by rw[hts,List.all_append,hd];simp[hcd]
    simp(disch:=try exact dI) only[hc,am,hw,push_cast,seval]
    refine ab.pure hin rfl ?_
    simp(disch:=try exact dI) only[hc,am,hw2,push_cast,seval]
    exact⟨i+1,aK (by simp(disch:=try exact dI) only[hdv,push_cast,seval]),⟨by omega,hd2⟩,by omega⟩
   ·have hin:=oe (n:=(c.toNat:Int)) (lo:=48) (hi:=57) (fun h=>hcd (by simp[isD];omega))
    have hnone:R=none:=by
     rw[hR]
     refine if_neg fun h=>hcd ?_
     exact List.all_eq_true.1 h.2 c (List.mem_of_getElem? (i:=i) (by rw[List.getElem?_take_of_lt hlt];exact hc))
    rw[hnone]
    simp(disch:=try exact dI) only[hc,am,hw,push_cast,seval]
    refine ab.pure hin rfl ?_
    simp(disch:=try exact dI) only[Kx,push_cast,seval]
  ·have hik:i=k:=by omega
   subst hik
   have hsome:R=some (fw 0 (s.take i),s.drop i):=by rw[hR];exact if_pos ⟨by omega,hd⟩
   rw[hsome]
   simp(disch:=try exact dI) only[Kx,List.take_length,push_cast,seval]
theorem DU (s p:List UInt8):ak Tryz.prog aq 177 [.str s,.str p] (.bool (decide (s.take p.length=p/\p.length<=s.length))):=by
 refine ak.intro Ot.2 (by simp[Ot]) ?_
 by_cases hl:p.length<=s.length
 ·by_cases he:s.take p.length=p
  ·rw[show decide (s.take p.length=p/\p.length<=s.length)=true from decide_eq_true ⟨he,hl⟩]
   simp(disch:=try exact dI) only[Ot,he,push_cast,seval]
  ·rw[show decide (s.take p.length=p/\p.length<=s.length)=false from decide_eq_false (fun h=>he h.1)]
   simp(disch:=try exact dI) only[Ot,he,push_cast,seval]
 ·rw[show decide (s.take p.length=p/\p.length<=s.length)=false from decide_eq_false (fun h=>hl h.2)]
  simp(disch:=try exact dI) only[Ot,push_cast,seval]
def gI (p s:List UInt8):Bool:=decide (s.take p.length=p/\p.length<=s.length)
theorem EK (s p:List UInt8):ak Tryz.prog aq 128 [.str s,.str p] (.tup [.str (if gI p s=true then s.drop p.length else s),.bool (gI p s)]):=by
 have hp:=DU s p
 have hl:gI p s=true->p.length<=s.length:=fun h=>(of_decide_eq_true h).2
 refine ak.intro Pb.2 (by simp[Pb]) ?_
 change ak Tryz.prog aq 177 [.str s,.str p] (.bool (gI p s)) at hp
 cases hb:gI p s with
 | true=>
   have:=hl hb
   rw[hb] at hp
   simp only[if_true]
   simp(disch:=try exact dI) only[Pb,push_cast,seval]
   refine ab.pure hp rfl ?_
   simp(disch:=try exact dI) only[List.take_length,push_cast,seval]
 | false=>
   rw[hb] at hp
   simp only[Bool.false_eq_true,if_false]
   simp(disch:=try exact dI) only[Pb,push_cast,seval]
   refine ab.pure hp rfl ?_
   exact qsZ
theorem vG (s p:List UInt8):ak Tryz.prog aq 76 [.str s,.str p] (.tup [.str (if gI p s=true then s.drop p.length else s),.bool (gI p s)]):=by
 have h:=EK s p
 generalize (if gI p s=true then s.drop p.length else s)=q at *
 generalize gI p s=b at *
 refine ak.intro Q76.2 (by simp[Q76]) ?_
 simp(disch:=try exact dI) only[Q76,push_cast,seval]
 refine ab.pure h rfl ?_
 exact qsZ
def bV:List (List UInt8)->List Nat->List UInt8->Option (List Int×List UInt8)
 | [],_,s=>some ([],s)
 | _::_,[],_=>none
 | m::ms,k::ks,s=>if gI m s=true then (match mj k (s.drop m.length) with
   | some p=>(bV ms ks p.2).map fun q=>(p.1::q.1,q.2)
   | none=>none) else none
def pR (s:List UInt8):Option (List Int×List UInt8)->PV
 | some p=>.tup [.list (p.1.map (PV.int .i64)),.str p.2,.bool true]
 | none=>.tup [.nils,.str s,.bool false]
theorem pS (s:List UInt8)(ms:List (List UInt8))(ks:List Nat)(hm:ms.length=ks.length)(hl:ms.length<=100)(hk:∀ k,k∈ks->k<=8) :
  ak Tryz.prog aq 74 [.str s,.list (ms.map PV.str),.list (ks.map fO)] (pR s (bV ms ks s)):=by
 obtain⟨R,hR⟩:∃ R,R=bV ms ks s:=⟨_,rfl⟩
 rw[<- hR]
 refine ak.intro Q74.2 (by simp[Q74]) ?_
 simp(disch:=try exact dI) only[Q74,push_cast,seval]
 refine ap ([(6,0,3,1)]) (fun y:Nat×List Int×List UInt8=>[(6,.olist 0 1 (y.2.1.map (PV.int .i64))),(7,.pv (.str y.2.2)),(15,.pv (.int .i64 (y.1:Int)))]) (fun _=>[]) (fun y=>y.1<=ms.length/\y.2.1.length<=y.1/\R=(bV (ms.drop y.1) (ks.drop y.1) y.2.2).map fun q=>(y.2.1++q.1,q.2)) (fun y=>ms.length - y.1) ((0,[],s)) ?_;intro e0 σ0 n0 h0;simp(disch:=try exact dI) only[push_cast,seval] at h0;obtain⟨rfl,rfl,rfl⟩:=h0;refine⟨?_,?_,?_⟩
 ·exact qsZ
 ·exact⟨by simp,by simp,by simp[hR]⟩
 rintro⟨i,L,r⟩ ⟨h1,h2,h3⟩
 simp only at h1 h2 h3
 by_cases hlt:i<ms.length
 ·obtain⟨m,hmi⟩:∃ m,ms[i]? = some m:=⟨_,List.getElem?_eq_getElem hlt⟩
  obtain⟨k,hki⟩:∃ k,ks[i]? = some k:=⟨_,List.getElem?_eq_getElem (by omega)⟩
  have hmp:(ms.map PV.str)[i]? = some (.str m):=by simp[hmi]
  have hkp:(ks.map fO)[i]? = some (.int .i64 (k:Int)):=by simp[hki,fO]
  have hk8:=hk k (List.mem_of_getElem? hki)
  have hc:=vG r m
  rw[ba hmi,ba hki] at h3
  simp only[bV] at h3
  cases hb:gI m r with
  | false=>
    rw[hb] at hc h3
    simp only[Bool.false_eq_true,if_false,Option.map_none] at hc h3
    rw[h3]
    simp(disch:=try exact dI) only[hmp,push_cast,seval]
    refine ab.pure hc rfl ?_
    simp(disch:=try exact dI) only[pR,push_cast,seval]
  | true=>
    rw[hb] at hc h3
    simp only[if_true] at hc h3
    have hn:=uH (r.drop m.length) k hk8
    cases hv:mj k (r.drop m.length) with
    | none=>
      rw[hv] at hn h3
      simp only[Kx,Option.map_none] at hn h3
      rw[h3]
      simp(disch:=try exact dI) only[hmp,push_cast,seval]
      refine ab.pure hc rfl ?_
      simp(disch:=try exact dI) only[hkp,push_cast,seval]
      refine ab.pure hn rfl ?_
      simp(disch:=try exact dI) only[pR,push_cast,seval]
    | some p=>
      rw[hv] at hn h3
      simp only[Kx] at hn h3
      simp(disch:=try exact dI) only[hmp,push_cast,seval]
      refine ab.pure hc rfl ?_
      simp(disch:=try exact dI) only[hkp,push_cast,seval]
      refine ab.pure hn rfl ?_
      refine zgZ ?_
      exact⟨(i+1,L++[p.1],p.2),aK (by simp(disch:=try exact dI) only[List.map_append,push_cast,seval]),⟨by simp only;omega,by simp;omega,by rw[h3,Option.map_map];congr 1;funext q;simp⟩,by simp only;omega⟩
 ·have hi:i=ms.length:=by omega
  have hd1:ms.drop i=[]:=List.drop_eq_nil_of_le (by omega)
  rw[hd1] at h3
  simp only[bV,Option.map_some,List.append_nil] at h3
  rw[h3]
  simp(disch:=try exact dI) only[pR,push_cast,seval]
def gC (y m d:Int):Int×Int:=if 1<=y/\y<=9999/\1<=m/\m<=12/\1<=d/\d<=mdI y m then (rz y m.toNat d - 719162,0) else (0,17)
theorem oz {y m d:Int}(h:1<=y/\y<=9999/\1<=m/\m<=12/\1<=d/\d<=mdI y m):DateOk y m.toNat d/\((m.toNat:Nat):Int)=m:=by
 have e:((m.toNat:Nat):Int)=m:=by omega
 exact⟨⟨h.1,h.2.1,by omega,by omega,h.2.2.2.2.1,by rw[e];exact h.2.2.2.2.2⟩,e⟩
theorem EI {y m d:Int}(h:¬ (1<=y/\y<=9999/\1<=m/\m<=12/\1<=d/\d<=mdI y m))(k:Nat)(hk:m=k):¬ DateOk y k d:=by
 intro hd
 subst hk
 exact h ⟨hd.y1,hd.y2,by have:=hd.m1;omega,by have:=hd.m2;omega,hd.d1,hd.d2⟩
theorem KN (y m d:Int):ak Tryz.prog aq 75 [.int .i64 y,.int .i64 m,.int .i64 d] (.tup [.int .i64 (gC y m d).1,.int .i64 (gC y m d).2]):=by
 unfold gC
 by_cases h:1<=y/\y<=9999/\1<=m/\m<=12/\1<=d/\d<=mdI y m
 ·rw[if_pos h]
  obtain⟨h1,h2⟩:=oz h
  have:=QR h1
  rwa [h2] at this
 ·rw[if_neg h]
  exact QS (EI h)
theorem Hb (y m d:Int):ak Tryz.prog aq 136 [.int .i64 y,.int .i64 m,.int .i64 d] (.tup [.int .i64 (gC y m d).1,.bool (decide ((gC y m d).2=0))]):=by
 unfold gC
 by_cases h:1<=y/\y<=9999/\1<=m/\m<=12/\1<=d/\d<=mdI y m
 ·rw[if_pos h]
  obtain⟨h1,h2⟩:=oz h
  have:=Mk h1
  rwa [h2] at this
 ·rw[if_neg h]
  exact Ml (EI h)
theorem vF (y m d:Int):(gC y m d).2=0\/(gC y m d).2=17:=by unfold gC;split<;>simp
theorem fk:∀ {ms:List (List UInt8)} {ks:List Nat} {s:List UInt8} {p:List Int×List UInt8},bV ms ks s=some p->p.1.length=ms.length
 | [],_,s,p,h=>by simp only[bV] at h;cases h;rfl
 | m::ms,[],s,p,h=>by simp[bV] at h
 | m::ms,k::ks,s,p,h=>by
   simp only[bV] at h
   split at h
   ·cases hn:mj k (s.drop m.length) with
    | none=>rw[hn] at h;cases h
    | some q=>
      rw[hn] at h
      simp only[Option.map_eq_some_iff] at h
      obtain⟨r,hr,rfl⟩:=h
      simp[fk hr]
   ·cases h
def bK (s:List UInt8):Int×Int:=
 match bV [[],[45],[45]] [4,2,2] s with
 | some ([y,m,d],[])=>gC y m d
 | _=>(0,13)
theorem rE1 (sz:Nat)(l:List PV):eA sz l 1=dE sz l 1 l[1]?:=rfl
theorem rE2 (sz:Nat)(l:List PV):eA sz l 2=dE sz l 2 l[2]?:=rfl
theorem MN (s:List UInt8):ak Tryz.prog aq 35 [.str s] (.tup [.int .i64 (bK s).1,.int .i64 (bK s).2]):=by
 have hn:=pS s [[],[45],[45]] [4,2,2] rfl (by simp) (by simp)
 simp only[List.map_cons,List.map_nil,fO] at hn
 unfold bK
 cases hv:bV [[],[45],[45]] [4,2,2] s with
 | none=>
   rw[hv] at hn
   simp only[pR] at hn
   refine ak.intro Q35.2 (by simp[Q35]) ?_
   simp(disch:=try exact dI) only[Q35,push_cast,seval]
   refine ab.pure hn rfl ?_
   exact qsZ
 | some p=>
   have hl:=fk hv
   obtain⟨l,r⟩:=p
   simp only at hl
   obtain⟨y,m,d,rfl⟩:∃ y m d,l=[y,m,d]:=by
    match l,hl with
    | [y,m,d],_=>exact⟨y,m,d,rfl⟩
   rw[hv] at hn
   simp only[pR,List.map_cons,List.map_nil] at hn
   cases r with
   | nil=>
     have hd:=KN y m d
     refine ak.intro Q35.2 (by simp[Q35]) ?_
     simp(disch:=try exact dI) only[Q35,push_cast,seval]
     refine ab.pure hn rfl ?_
     simp(disch:=try exact dI) only[rE1,rE2,push_cast,seval]
     refine ae hd rfl ?_
     exact qsZ
   | cons c r=>
     have hcr:(!decide (c::r=[]))=true:=by simp
     refine ak.intro Q35.2 (by simp[Q35]) ?_
     simp(disch:=try exact dI) only[Q35,push_cast,seval]
     refine ab.pure hn rfl ?_
     simp(disch:=try exact dI) only[hcr,push_cast,seval]
def uE (c x:UInt8):Bool:=if x=48 then isD c else decide (c=x)
def aT:List UInt8->List UInt8->Bool
 | [],[]=>true
 | c::s,x::p=>uE c x&&aT s p
 | _,_=>false
theorem fu:∀ {s p:List UInt8},aT s p=true->s.length=p.length
 | [],[],_=>rfl
 | c::s,x::p,h=>by simp only[aT,Bool.and_eq_true] at h;simp[fu h.2]
 | [],x::p,h=>by simp[aT] at h
 | c::s,[],h=>by simp[aT] at h
theorem Ja:∀ {s p:List UInt8},s.length≠p.length->aT s p=false:=fun h=>by
 cases hb:aT _ _ with
 | false=>rfl
 | true=>exact absurd (fu hb) h
theorem tn (s p:List UInt8)(hp:p.length<=1000):ak Tryz.prog aq 135 [.str s,.str p] (.bool (aT s p)):=by
 refine ak.intro Sj.2 (by simp[Sj]) ?_
 by_cases hl:s.length=p.length
 ·obtain⟨R,hR⟩:∃ R,R=aT s p:=⟨_,rfl⟩
  rw[<- hR]
  simp(disch:=try exact dI) only[Sj,push_cast,seval]
  refine ap ([]) (fun i:Nat=>[(5,.pv (.int .i64 (i:Int)))]) (fun _=>[]) (fun i=>i<=s.length/\R=aT (s.drop i) (p.drop i)) (fun i=>s.length - i) (0) ?_;intro e0 σ0 n0 h0;simp(disch:=try exact dI) only[push_cast,seval] at h0;obtain⟨rfl,rfl,rfl⟩:=h0;refine⟨?_,?_,?_⟩
  ·exact qsZ
  ·exact⟨by omega,by simpa using hR⟩
  rintro i ⟨hi,hf⟩
  by_cases hlt:i<s.length
  ·obtain⟨c,hc⟩:∃ c,s[i]? = some c:=⟨_,List.getElem?_eq_getElem hlt⟩
   obtain⟨x,hx⟩:∃ x,p[i]? = some x:=⟨_,List.getElem?_eq_getElem (by omega)⟩
   rw[ba hc,ba hx] at hf
   simp only[aT] at hf
   by_cases h48:x=48
   ·subst h48
    by_cases h1:c.toNat<48
    ·have hok:uE c 48=false:=by simp[uE,isD];omega
     rw[hok,Bool.false_and] at hf
     subst hf
     have h1I:(c.toNat:Int)<48:=by omega
     simp(disch:=try exact dI) only[hc,hx,am,push_cast,seval]
    ·by_cases h2:57<c.toNat
     ·have hok:uE c 48=false:=by simp[uE,isD];omega
      rw[hok,Bool.false_and] at hf
      subst hf
      have h1I:¬ (c.toNat:Int)<48:=by omega
      have h2I:(57:Int)<(c.toNat:Int):=by omega
      simp(disch:=try exact dI) only[hc,hx,am,push_cast,seval]
     ·have hok:uE c 48=true:=by simp[uE,isD];omega
      rw[hok,Bool.true_and] at hf
      have h1I:¬ (c.toNat:Int)<48:=by omega
      have h2I:¬ (57:Int)<(c.toNat:Int):=by omega
      simp(disch:=try exact dI) only[hc,hx,am,push_cast,seval]
      exact⟨i+1,aK qsZ,⟨by omega,hf⟩,by omega⟩
   ·have n48:¬ (x.toNat:Int)=48:=fun h=>h48 (UInt8.toNat_inj.1 (by simpa using (by omega:x.toNat=48)))
    by_cases hcx:c=x
    ·subst hcx
     have hok:uE c c=true:=by simp[uE,h48]
     rw[hok,Bool.true_and] at hf
     simp(disch:=try exact dI) only[hc,hx,am,n48,push_cast,seval]
     exact⟨i+1,aK qsZ,⟨by omega,hf⟩,by omega⟩
    ·have hok:uE c x=false:=by simp[uE,h48,hcx]
     rw[hok,Bool.false_and] at hf
     subst hf
     have ncx:¬ ((c.toNat:Int)=(x.toNat:Int)):=fun h=>hcx ((u8n c x).1 h)
     simp(disch:=try exact dI) only[hc,hx,am,n48,ncx,push_cast,seval]
  ·rw[List.drop_eq_nil_of_le (by omega),List.drop_eq_nil_of_le (by omega)] at hf
   have:R=true:=hf
   subst this
   exact qsZ
 ·rw[Ja hl]
  have hlI:¬ (s.length:Int)=(p.length:Int):=by omega
  simp(disch:=try exact dI) only[Sj,push_cast,seval]
theorem kW (l:List UInt8)(hl:l.length<=9)(hd:l.all isD=true):ak Tryz.prog aq 137 [.str l] (.int .i64 (fw 0 l)):=by
 refine ak.intro Ug.2 (by simp[Ug]) ?_
 simp(disch:=try exact dI) only[Ug,push_cast,seval]
 refine ap ([]) (fun i:Nat=>[(3,.pv (.int .i64 (fw 0 (l.take i)))),(4,.pv (.int .i64 (i:Int)))]) (fun _=>[]) (fun i=>i<=l.length) (fun i=>l.length - i) (0) ?_;intro e0 σ0 n0 h0;simp(disch:=try exact dI) only[push_cast,seval] at h0;obtain⟨rfl,rfl,rfl⟩:=h0;refine⟨?_,?_,?_⟩
 ·refine zgZ ?_
  rfl
 ·omega
 intro i hi
 have hdi:(l.take i).all isD=true:=by
  rw[List.all_eq_true] at hd ⊢
  exact fun x hx=>hd x (List.mem_of_mem_take hx)
 have hdl:=KI hdi (by simp;omega)
 by_cases hlt:i<l.length
 ·obtain⟨c,hc⟩:∃ c,l[i]? = some c:=⟨_,List.getElem?_eq_getElem hlt⟩
  have hb:=cD (List.all_eq_true.1 hd c (List.mem_of_getElem? hc))
  have hw2:=cP (n:=(c.toNat:Int) - 48) (by omega) (by omega)
  have hdv:fw 0 (l.take (i+1))=10*fw 0 (l.take i)+((c.toNat:Int) - 48):=by rw[aD hc,jY]
  simp(disch:=try exact dI) only[hc,am,hw2,push_cast,seval]
  exact⟨i+1,aK (by simp(disch:=try exact dI) only[hdv,push_cast,seval]),by omega,by omega⟩
 ·have he:l.take i=l:=List.take_of_length_le (by omega)
  simp(disch:=try exact dI) only[he,push_cast,seval]
end Go.Proofs.YtbaaokocnegdoaaGreatDoor
