/- A part of the proof for LiteralAgainCardSaid. -/
import Derived.Test.YtamoeblcphjbaaaGreatDoorAgLC1
import Derived.Test.YtamoeblcphjbaaaGreatDoorAgCore6
import Derived.KernelRfl
import Derived.Test.YtamoeblcphjbaaaGreatDoorProg
import Derived.Test.YtamoeblcphjbaaaGreatDoorAgF
set_option maxRecDepth 100000
set_option linter.unusedVariables false
set_option linter.unusedSimpArgs false
namespace Go.Proofs.YtamoeblcphjbaaaGreatDoor
open Go Go.Ab
attribute [local irreducible] vc
theorem dI {P:Prop}(h:P:=by first | exact Ka | (unfold Chk;decide +kernel) | omega | exact NA (by with_unfolding_all rfl) | (simp[cZ]<;>omega) | fail):P:=h
theorem qsZ{P:Prop}(h:P:=by simp(disch:=try exact dI) only[push_cast,seval]):P:=h
end Go.Proofs.YtamoeblcphjbaaaGreatDoor
namespace Go.Proofs.YtamoeblcphjbaaaGreatDoor
open Go Go.Ab
def I64 (n:Int):Prop:=-9223372036854775808≤n∧n≤9223372036854775807
mutual
inductive Val where
 | mk (kind:Int) (num:Int) (scale:Int) (text:List UInt8) (lst:List Val) (fields:List Fld)
inductive Fld where
 | mk (name:List UInt8) (value:Val)
end
def Val.kind:Val→Int
 | .mk kind _ _ _ _ _=>kind
def Val.num:Val→Int
 | .mk _ num _ _ _ _=>num
def Val.scale:Val→Int
 | .mk _ _ scale _ _ _=>scale
def Val.text:Val→List UInt8
 | .mk _ _ _ text _ _=>text
def Val.lst:Val→List Val
 | .mk _ _ _ _ lst _=>lst
def Val.fields:Val→List Fld
 | .mk _ _ _ _ _ fields=>fields
def Fld.name:Fld→List UInt8
 | .mk name _=>name
def Fld.value:Fld→Val
 | .mk _ value=>value
mutual
def Val.pv:Val→PV
 | .mk kind num scale text lst fields=>.agg ([.int .i64 kind,.int .i64 num,.int .i64 scale,.str text,.list (lst.map Val.pv),.list (fields.map Fld.pv)])
def Fld.pv:Fld→PV
 | .mk name value=>.agg ([.str name]++value.pv.cells)
end
theorem Val.pv_mk (kind:Int)(num:Int)(scale:Int)(text:List UInt8)(lst:List Val)(fields:List Fld):(Val.mk kind num scale text lst fields).pv = .agg ([.int .i64 kind,.int .i64 num,.int .i64 scale,.str text,.list (lst.map Val.pv),.list (fields.map Fld.pv)]):=by rw[Val.pv]
theorem Fld.pv_mk (name:List UInt8)(value:Val):(Fld.mk name value).pv = .agg ([.str name]++value.pv.cells):=by rw[Fld.pv]
theorem Val.cells_len (x:Val):x.pv.cells.length=6:=by
 obtain⟨kind,num,scale,text,lst,fields⟩:=x
 rw[Val.pv_mk];simp only[cZ,List.length_append,List.length_cons,List.length_nil]
theorem Val.isAgg (x:Val):x.pv.isAgg=true:=by
 obtain⟨kind,num,scale,text,lst,fields⟩:=x
 rw[Val.pv_mk];rfl
theorem Val.ones (x:Val):(x.pv.cells.all PV.one)=true:=by
 obtain⟨kind,num,scale,text,lst,fields⟩:=x
 rw[Val.pv_mk];simp only[cZ,List.all_append,List.all_cons,List.all_nil,zG,zH,sZ,sY,Bool.and_true,Bool.and_self]
theorem Val.row (x:Val):∃ cs,x.pv = .agg cs∧cs.length=6∧∀ p∈cs,p.one=true:=by
 have h1:=x.cells_len;have h2:=x.ones;have h3:=x.isAgg
 cases h:x.pv with
 | agg cs=>rw[h] at h1 h2;exact⟨cs,rfl,h1,fun p hp=>List.all_eq_true.1 h2 p hp⟩
 | _=>rw[h] at h3;cases h3
mutual
def Val.ok:Val→Prop
 | .mk kind num scale text lst fields=>I64 kind∧I64 num∧I64 scale∧text.length≤140737488351232∧lst.length*88≤140737488351232∧(∀ x∈lst,x.ok)∧fields.length*104≤140737488351232∧(∀ x∈fields,x.ok)
def Fld.ok:Fld→Prop
 | .mk name value=>name.length≤140737488351232∧value.ok
end
theorem Val.ok_mk (kind:Int)(num:Int)(scale:Int)(text:List UInt8)(lst:List Val)(fields:List Fld):(Val.mk kind num scale text lst fields).ok=(I64 kind∧I64 num∧I64 scale∧text.length≤140737488351232∧lst.length*88≤140737488351232∧(∀ x∈lst,x.ok)∧fields.length*104≤140737488351232∧(∀ x∈fields,x.ok)):=by rw[Val.ok]
theorem Fld.ok_mk (name:List UInt8)(value:Val):(Fld.mk name value).ok=(name.length≤140737488351232∧value.ok):=by rw[Fld.ok]
mutual
inductive Typ where
 | mk (kind:Int) (min:Int) (max:Int) (scale:Int) (words:List (List UInt8)) (elem:List Typ) (fields:List TFd)
inductive TFd where
 | mk (number:Int) (name:List UInt8) (need:Int) (typ:Typ) (dflt:List Val)
end
mutual
def Typ.pv:Typ→PV
 | .mk kind min max scale words elem fields=>.agg ([.int .i64 kind,.int .i64 min,.int .i64 max,.int .i64 scale,.list (words.map PV.str),.list (elem.map Typ.pv),.list (fields.map TFd.pv)])
def TFd.pv:TFd→PV
 | .mk number name need typ dflt=>.agg ([.int .i64 number,.str name,.int .i64 need]++typ.pv.cells++[.list (dflt.map Val.pv)])
end
mutual
def Typ.ok:Typ→Prop
 | .mk kind min max scale words elem fields=>I64 kind∧I64 min∧I64 max∧I64 scale∧words.length*16≤140737488351232∧(∀ x∈words,x.length≤140737488351232)∧elem.length*104≤140737488351232∧(∀ x∈elem,x.ok)∧fields.length*160≤140737488351232∧(∀ x∈fields,x.ok)
def TFd.ok:TFd→Prop
 | .mk number name need typ dflt=>I64 number∧name.length≤140737488351232∧I64 need∧typ.ok∧dflt.length*88≤140737488351232∧(∀ x∈dflt,x.ok)
end
section
variable {t:Nat}{p:PV}
theorem FB (h:HasT Tryz.prog t p)(hu:Tryz.prog.underlying t=some .string):∃ s:List UInt8,p = .str s∧s.length≤140737488351232:=by
 cases h with
 | str _ s hb hs=>exact⟨s,rfl,hs⟩
 | int _ k n hb=>rw[hu] at hb;cases hb
 | bool _ b hb=>rw[hu] at hb;cases hb
 | list _ e l hb=>rw[hu] at hb;cases hb
 | agg _ fs cs hb=>rw[hu] at hb;cases hb
 | arr _ e n cs hb=>rw[hu] at hb;cases hb
end
end Go.Proofs.YtamoeblcphjbaaaGreatDoor
-- many steps
namespace Go.Proofs.YtamoeblcphjbaaaGreatDoor
open Go Go.Ab
attribute [local irreducible] vc
theorem Nc (n lo hi:Int):aq Tryz.prog aF 154 [.int .i64 n,.int .i64 lo,.int .i64 hi] (.bool (decide (lo≤n)&&decide (n≤hi))):=by
 refine aq.intro K8 (by simp[OV]) ?_
 by_cases h1:lo≤n
 ·by_cases h2:n≤hi
  ·rw[show (decide (lo≤n)&&decide (n≤hi))=true by simp[h1,h2]]
   simp(disch:=try exact dI) only[OV,push_cast,seval]
  ·rw[show (decide (lo≤n)&&decide (n≤hi))=false by simp[h2]]
   simp(disch:=try exact dI) only[OV,push_cast,seval]
 ·rw[show (decide (lo≤n)&&decide (n≤hi))=false by simp[h1]]
  simp(disch:=try exact dI) only[OV,push_cast,seval]
theorem dQ {n lo hi:Int}(h:lo≤n∧n≤hi):aq Tryz.prog aF 154 [.int .i64 n,.int .i64 lo,.int .i64 hi] (.bool true):=by
 have:=Nc n lo hi
 rwa [show (decide (lo≤n)&&decide (n≤hi))=true by simp[h]] at this
theorem m4 {n lo hi:Int}(h:¬ (lo≤n∧n≤hi)):aq Tryz.prog aF 154 [.int .i64 n,.int .i64 lo,.int .i64 hi] (.bool false):=by
 have:=Nc n lo hi
 rwa [show (decide (lo≤n)&&decide (n≤hi))=false by rw[← Bool.decide_and];exact decide_eq_false h] at this
theorem Jt {y:Int}(h1:1≤y)(h2:y≤9999):aq Tryz.prog aF 205 [.int .i64 y] (.bool (iI y)):=by
 have hi:=dQ (n:=y) (lo:=1) (hi:=9999) ⟨h1,h2⟩
 have e4:=iX (a:=y) (b:=4) (by omega)
 have e100:=iX (a:=y) (b:=100) (by omega)
 have e400:=iX (a:=y) (b:=400) (by omega)
 refine aq.intro KG (by simp[LG]) ?_
 unfold iI
 by_cases a:y % 4=0
 ·by_cases b:y % 100=0
  ·by_cases c:y % 400=0
   ·simp only[a,b,c,decide_true,Bool.not_true,Bool.or_true,Bool.and_true]
    simp(disch:=try exact dI) only[LG,e4,e100,e400,push_cast,seval]
    refine ab.pure hi rfl ?_
    simp(disch:=try exact dI) only[e4,e100,e400,a,b,c,push_cast,seval]
   ·simp only[a,b,c,decide_true,decide_false,Bool.not_true,Bool.or_false,Bool.and_false]
    simp(disch:=try exact dI) only[LG,e4,e100,e400,push_cast,seval]
    refine ab.pure hi rfl ?_
    simp(disch:=try exact dI) only[e4,e100,e400,a,b,c,push_cast,seval]
  ·simp only[a,b,decide_true,decide_false,Bool.not_false,Bool.true_or,Bool.and_true]
   simp(disch:=try exact dI) only[LG,e4,e100,e400,push_cast,seval]
   refine ab.pure hi rfl ?_
   simp(disch:=try exact dI) only[e4,e100,e400,a,b,push_cast,seval]
 ·simp only[a,decide_false,Bool.false_and]
  simp(disch:=try exact dI) only[LG,e4,e100,e400,push_cast,seval]
  refine ab.pure hi rfl ?_
  simp(disch:=try exact dI) only[e4,e100,e400,a,push_cast,seval]
theorem Ht {y:Int}(h1:1≤y)(h2:y≤100000):aq Tryz.prog aF 155 [.int .i64 y] (.int .i64 (ew y)):=by
 have e4:=gx (a:=y - 1) (b:=4) (by omega)
 have e100:=gx (a:=y - 1) (b:=100) (by omega)
 have e400:=gx (a:=y - 1) (b:=400) (by omega)
 refine aq.intro K7 (by simp[Rg]) ?_
 simp(disch:=try exact dI) only[Rg,ew,e4,e100,e400,push_cast,seval]
end Go.Proofs.YtamoeblcphjbaaaGreatDoor
-- many steps
namespace Go.Proofs.YtamoeblcphjbaaaGreatDoor
open Go Go.Ab
open Nat renaming reduceEqDiff→qa,reduceAdd→qb,reduceMul→qc,reduceLeDiff→qd,reduceLT→qe,reduceBEq→qf,reduceSub→qg
open Int renaming reduceToNat→qh,reduceNeg→qi
attribute [local irreducible] vc
def O8 (m:Nat):Int:=if m=2 then 28 else if m=4∨m=6∨m=9∨m=11 then 30 else 31
theorem G8 (y:Int)(m:Nat)(h:¬ (m=2∧iI y=true)):mdI y m=O8 m:=by
 unfold mdI O8
 by_cases h2:m=2
 ·subst h2
  have:¬ iI y=true:=fun hl=>h ⟨rfl,hl⟩
  simp[this]
 ·have:¬ (m:Int)=2:=by omega
  rw[if_neg this,if_neg h2]
  by_cases h4:m=4∨m=6∨m=9∨m=11
  ·rw[if_pos h4,if_pos (by omega)]
  ·rw[if_neg h4,if_neg (by omega)]
theorem Qe (m:Nat)(h1:1≤m)(h2:m≤12):f7 false 12 1 (.pv (.agg [.int .i64 31,.int .i64 28,.int .i64 31,.int .i64 30,.int .i64 31,.int .i64 30,.int .i64 31,.int .i64 31,.int .i64 30,.int .i64 31,.int .i64 30,.int .i64 31])) (.pv (.int .i64 ((m:Int) - 1)))=some (.pv (.int .i64 (O8 m))):=by
 have h12:m=1∨m=2∨m=3∨m=4∨m=5∨m=6∨m=7∨m=8∨m=9∨m=10∨m=11∨m=12:=by omega
 rcases h12 with rfl | rfl | rfl | rfl | rfl | rfl | rfl | rfl | rfl | rfl | rfl | rfl<;>rfl
theorem Jj {y:Int}(h1:1≤y)(h2:y≤9999)(m:Nat)(h3:1≤m)(h4:m≤12):aq Tryz.prog aF 156 [.int .i64 y,.int .i64 (m:Int)] (.int .i64 (mdI y m)):=by
 have hl:=Jt h1 h2
 have hx:=Qe m h3 h4
 refine aq.intro K6 (by simp[OU]) ?_
 by_cases h:m=2
 ·subst h
  cases hb:iI y with
  | true=>
    rw[hb] at hl
    rw[show mdI y ((2:Nat):Int)=29 by simp[mdI,hb]]
    simp(disch:=try exact dI) only[OU,push_cast,↓reduceIte,qa,qb,qc,qd,qe,qf,qg,qh,qi]
    refine ab.pure hl rfl ?_
    simp(disch:=try exact dI) only[push_cast,↓reduceIte,qa,qb,qc,qd,qe,qf,qg,qh,qi]
  | false=>
    rw[hb] at hl
    rw[G8 y 2 (by simp[hb])]
    have hx2:f7 false 12 1 (.pv (.agg [.int .i64 31,.int .i64 28,.int .i64 31,.int .i64 30,.int .i64 31,.int .i64 30,.int .i64 31,.int .i64 31,.int .i64 30,.int .i64 31,.int .i64 30,.int .i64 31])) (.pv (.int .i64 (2 - 1)))=some (.pv (.int .i64 28)):=rfl
    rw[show O8 2=28 from rfl]
    simp(disch:=try exact dI) only[OU,push_cast,↓reduceIte,qa,qb,qc,qd,qe,qf,qg,qh,qi]
    refine ab.pure hl rfl ?_
    simp(disch:=try exact dI) only[hx2,push_cast,↓reduceIte,qa,qb,qc,qd,qe,qf,qg,qh,qi]
 ·rw[G8 y m (by simp[h])]
  simp(disch:=try exact dI) only[OU,hx,push_cast,↓reduceIte,qa,qb,qc,qd,qe,qf,qg,qh,qi]
theorem kC {y:Int}(h1:1≤y)(h2:y≤9999)(m:Nat)(h3:1≤m)(h4:m≤12):aq Tryz.prog aF 223 [.int .i64 y,.int .i64 (m:Int)] (.tup [.int .i64 (mdI y m),.int .i64 0]):=by
 have hi1:=dQ (n:=y) (lo:=1) (hi:=9999) ⟨h1,h2⟩
 have hi2:=dQ (n:=(m:Int)) (lo:=1) (hi:=12) ⟨by omega,by omega⟩
 have hm:=Jj h1 h2 m h3 h4
 refine aq.intro CH (by simp[LE]) ?_
 simp(disch:=try exact dI) only[LE,push_cast,↓reduceIte,qa,qb,qc,qd,qe,qf,qg,qh,qi]
 refine ab.pure hi1 rfl ?_
 simp(disch:=try exact dI) only[push_cast,↓reduceIte,qa,qb,qc,qd,qe,qf,qg,qh,qi]
 refine ab.pure hi2 rfl ?_
 simp(disch:=try exact dI) only[push_cast,↓reduceIte,qa,qb,qc,qd,qe,qf,qg,qh,qi]
 refine ab.pure hm rfl ?_
 simp(disch:=try exact dI) only[push_cast,↓reduceIte,qa,qb,qc,qd,qe,qf,qg,qh,qi]
theorem rk {y m:Int}(h:¬ (1≤y∧y≤9999∧1≤m∧m≤12)):aq Tryz.prog aF 223 [.int .i64 y,.int .i64 m] (.tup [.int .i64 0,.int .i64 17]):=by
 refine aq.intro CH (by simp[LE]) ?_
 by_cases hy:1≤y∧y≤9999
 ·have hi1:=dQ (n:=y) (lo:=1) (hi:=9999) hy
  have hi2:=m4 (n:=m) (lo:=1) (hi:=12) (by omega)
  simp(disch:=try exact dI) only[LE,push_cast,↓reduceIte,qa,qb,qc,qd,qe,qf,qg,qh,qi]
  refine ab.pure hi1 rfl ?_
  simp(disch:=try exact dI) only[push_cast,↓reduceIte,qa,qb,qc,qd,qe,qf,qg,qh,qi]
  refine ab.pure hi2 rfl ?_
  simp(disch:=try exact dI) only[push_cast,↓reduceIte,qa,qb,qc,qd,qe,qf,qg,qh,qi]
 ·have hi1:=m4 (n:=y) (lo:=1) (hi:=9999) hy
  simp(disch:=try exact dI) only[LE,push_cast,↓reduceIte,qa,qb,qc,qd,qe,qf,qg,qh,qi]
  refine ab.pure hi1 rfl ?_
  simp(disch:=try exact dI) only[push_cast,↓reduceIte,qa,qb,qc,qd,qe,qf,qg,qh,qi]
theorem Nt {y:Int}{m:Nat}{d:Int}(h:DateOk y m d):aq Tryz.prog aF 191 [.int .i64 y,.int .i64 (m:Int),.int .i64 d] (.tup [.int .i64 (iO y m d - 719162),.int .i64 0]):=by
 have hm:=kC h.y1 h.y2 m h.m1 h.m2
 have hi:=dQ (n:=d) (lo:=1) (hi:=mdI y m) ⟨h.d1,h.d2⟩
 have hb:=Ht h.y1 (by have:=h.y2;omega)
 have hbb:=ic h.y1 (by have:=h.y2;omega)
 have hmd:=ed y m
 have hd1:=h.d1
 have hd2:=h.d2
 have hdr:=fq h
 have hdn:iO y m d=ew y+dW y (m - 1)+d - 1:=rfl
 refine aq.intro CJ (by simp[LH]) ?_
 simp(disch:=try exact dI) only[LH,push_cast,↓reduceIte,qa,qb,qc,qd,qe,qf,qg,qh,qi]
 refine ab.pure hm rfl ?_
 simp(disch:=try exact dI) only[push_cast,↓reduceIte,qa,qb,qc,qd,qe,qf,qg,qh,qi]
 refine ab.pure hi rfl ?_
 simp(disch:=try exact dI) only[push_cast,↓reduceIte,qa,qb,qc,qd,qe,qf,qg,qh,qi]
 refine ab.pure hb rfl ?_
 simp(disch:=try exact dI) only[push_cast,↓reduceIte,qa,qb,qc,qd,qe,qf,qg,qh,qi]
 have e0:((0:Nat):Int)+1=1:=rfl
 have e1:-719162+ew y+d - 1+dW y 0 = -719162+ew y+d - 1:=by
  have z:dW y 0=0:=rfl
  omega
 refine be ([]) (fun k:Nat=>[(10,.pv (.int .i64 (-719162+ew y+d - 1+dW y k))),(11,.pv (.int .i64 ((k:Int)+1)))]) (fun _=>[]) (fun k=>k≤m - 1) (fun k=>m - 1 - k) (0) ?_;intro e0 σ0 n0 h0;simp(disch:=try exact dI) only[push_cast,↓reduceIte,qa,qb,qc,qd,qe,qf,qg,qh,qi] at h0;obtain⟨rfl,rfl,rfl⟩:=h0;refine⟨?_,?_,?_⟩
 ·simp(disch:=try exact dI) only[e1,Int.zero_add,push_cast,↓reduceIte,qa,qb,qc,qd,qe,qf,qg,qh,qi]
 ·omega
 intro k hk
 have hs0:=df y k 0
 have z:dW y 0=0:=rfl
 simp only[Nat.zero_add] at hs0
 have hsm:=df y (m - 1 - k) k
 rw[show k+(m - 1 - k)=m - 1 by omega] at hsm
 by_cases hlt:k<m - 1
 ·have hmk:=Jj h.y1 h.y2 (k+1) (by omega) (by have:=h.m2;omega)
  have hmdk:=ed y ((k+1:Nat):Int)
  have hsk:dW y (k+1)=dW y k+mdI y ((k+1:Nat):Int):=rfl
  rw[show ((k+1:Nat):Int)=(k:Int)+1 by omega] at hmk hmdk hsk
  have hs2:-719162+ew y+d - 1+dW y (k+1) = -719162+ew y+d - 1+dW y k+mdI y ((k:Int)+1):=by omega
  simp(disch:=try exact dI) only[push_cast,↓reduceIte,qa,qb,qc,qd,qe,qf,qg,qh,qi]
  refine ab.pure hmk rfl ?_
  simp(disch:=try exact dI) only[push_cast,↓reduceIte,qa,qb,qc,qd,qe,qf,qg,qh,qi]
  exact⟨k+1,bT (by simp(disch:=try exact dI) only[hs2,push_cast,↓reduceIte,qa,qb,qc,qd,qe,qf,qg,qh,qi]),by omega,by omega⟩
 ·have:k=m - 1:=by omega
  subst this
  have hfin:-719162+ew y+d - 1+dW y (m - 1)=iO y m d - 719162:=by omega
  simp(disch:=try exact dI) only[hfin,push_cast,↓reduceIte,qa,qb,qc,qd,qe,qf,qg,qh,qi]
theorem Nu {y m d:Int}(h:∀ k:Nat,m=k→¬ DateOk y k d):aq Tryz.prog aF 191 [.int .i64 y,.int .i64 m,.int .i64 d] (.tup [.int .i64 0,.int .i64 17]):=by
 refine aq.intro CJ (by simp[LH]) ?_
 by_cases hm:1≤y∧y≤9999∧1≤m∧m≤12
 ·obtain⟨k,rfl⟩:∃ k:Nat,m=k:=⟨m.toNat,by omega⟩
  have hmt:=kC hm.1 hm.2.1 k (by omega) (by omega)
  have hi:=m4 (n:=d) (lo:=1) (hi:=mdI y k) (fun hd=>h k rfl ⟨hm.1,hm.2.1,by omega,by omega,hd.1,hd.2⟩)
  simp(disch:=try exact dI) only[LH,push_cast,↓reduceIte,qa,qb,qc,qd,qe,qf,qg,qh,qi]
  refine ab.pure hmt rfl ?_
  simp(disch:=try exact dI) only[push_cast,↓reduceIte,qa,qb,qc,qd,qe,qf,qg,qh,qi]
  refine ab.pure hi rfl ?_
  simp(disch:=try exact dI) only[push_cast,↓reduceIte,qa,qb,qc,qd,qe,qf,qg,qh,qi]
 ·have hmf:=rk hm
  simp(disch:=try exact dI) only[LH,push_cast,↓reduceIte,qa,qb,qc,qd,qe,qf,qg,qh,qi]
  refine ab.pure hmf rfl ?_
  simp(disch:=try exact dI) only[push_cast,↓reduceIte,qa,qb,qc,qd,qe,qf,qg,qh,qi]
end Go.Proofs.YtamoeblcphjbaaaGreatDoor
