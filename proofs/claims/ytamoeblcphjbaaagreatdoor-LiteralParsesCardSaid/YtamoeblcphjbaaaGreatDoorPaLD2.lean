/- A part of the proof. -/
import Derived.KernelRfl
import Derived.Test.YtamoeblcphjbaaaGreatDoorProg
import Derived.Test.YtamoeblcphjbaaaGreatDoorPaLC1
import Derived.Test.YtamoeblcphjbaaaGreatDoorPaF
set_option maxRecDepth 100000
set_option linter.unusedVariables false
set_option linter.unusedSimpArgs false
namespace Go.Proofs.YtamoeblcphjbaaaGreatDoor
open Go Go.Ab
def I64 (n:Int):Prop:=-9223372036854775808≤n∧n≤9223372036854775807
mutual
inductive Val where
 | mk (kind:Int) (num:Int) (scale:Int) (text:List UInt8) (lst:List Val) (fields:List Fld)
inductive Fld where
 | mk (name:List UInt8) (value:Val)
end
def Val.kind:Val→Int
 | .mk kind _ _ _ _ _=>kind
def Val.num:Val→Int
 | .mk _ num _ _ _ _=>num
def Val.scale:Val→Int
 | .mk _ _ scale _ _ _=>scale
def Val.text:Val→List UInt8
 | .mk _ _ _ text _ _=>text
def Val.lst:Val→List Val
 | .mk _ _ _ _ lst _=>lst
def Val.fields:Val→List Fld
 | .mk _ _ _ _ _ fields=>fields
def Fld.name:Fld→List UInt8
 | .mk name _=>name
def Fld.value:Fld→Val
 | .mk _ value=>value
mutual
def Val.pv:Val→PV
 | .mk kind num scale text lst fields=>.agg ([.int .i64 kind,.int .i64 num,.int .i64 scale,.str text,.list (lst.map Val.pv),.list (fields.map Fld.pv)])
def Fld.pv:Fld→PV
 | .mk name value=>.agg ([.str name]++value.pv.cells)
end
theorem Val.pv_mk (kind:Int)(num:Int)(scale:Int)(text:List UInt8)(lst:List Val)(fields:List Fld):(Val.mk kind num scale text lst fields).pv = .agg ([.int .i64 kind,.int .i64 num,.int .i64 scale,.str text,.list (lst.map Val.pv),.list (fields.map Fld.pv)]):=by rw[Val.pv]
theorem Fld.pv_mk (name:List UInt8)(value:Val):(Fld.mk name value).pv = .agg ([.str name]++value.pv.cells):=by rw[Fld.pv]
theorem Val.cells_len (x:Val):x.pv.cells.length=6:=by
 obtain⟨kind,num,scale,text,lst,fields⟩:=x
 rw[Val.pv_mk];simp only[cS,List.length_append,List.length_cons,List.length_nil]
theorem Val.isAgg (x:Val):x.pv.isAgg=true:=by
 obtain⟨kind,num,scale,text,lst,fields⟩:=x
 rw[Val.pv_mk];rfl
theorem Val.ones (x:Val):(x.pv.cells.all PV.one)=true:=by
 obtain⟨kind,num,scale,text,lst,fields⟩:=x
 rw[Val.pv_mk];simp only[cS,List.all_append,List.all_cons,List.all_nil,Ai,Aj,tF,tE,Bool.and_true,Bool.and_self]
theorem Val.row (x:Val):∃ cs,x.pv = .agg cs∧cs.length=6∧∀ p∈cs,p.one=true:=by
 have h1:=x.cells_len;have h2:=x.ones;have h3:=x.isAgg
 cases h:x.pv with
 | agg cs=>rw[h] at h1 h2;exact⟨cs,rfl,h1,fun p hp=>List.all_eq_true.1 h2 p hp⟩
 | _=>rw[h] at h3;cases h3
mutual
def Val.ok:Val→Prop
 | .mk kind num scale text lst fields=>I64 kind∧I64 num∧I64 scale∧text.length≤140737488351232∧lst.length*88≤140737488351232∧(∀ x∈lst,x.ok)∧fields.length*104≤140737488351232∧(∀ x∈fields,x.ok)
def Fld.ok:Fld→Prop
 | .mk name value=>name.length≤140737488351232∧value.ok
end
theorem Val.ok_mk (kind:Int)(num:Int)(scale:Int)(text:List UInt8)(lst:List Val)(fields:List Fld):(Val.mk kind num scale text lst fields).ok=(I64 kind∧I64 num∧I64 scale∧text.length≤140737488351232∧lst.length*88≤140737488351232∧(∀ x∈lst,x.ok)∧fields.length*104≤140737488351232∧(∀ x∈fields,x.ok)):=by rw[Val.ok]
theorem Fld.ok_mk (name:List UInt8)(value:Val):(Fld.mk name value).ok=(name.length≤140737488351232∧value.ok):=by rw[Fld.ok]
mutual
inductive Typ where
 | mk (kind:Int) (min:Int) (max:Int) (scale:Int) (words:List (List UInt8)) (elem:List Typ) (fields:List TFd)
inductive TFd where
 | mk (number:Int) (name:List UInt8) (need:Int) (typ:Typ) (dflt:List Val)
end
mutual
def Typ.pv:Typ→PV
 | .mk kind min max scale words elem fields=>.agg ([.int .i64 kind,.int .i64 min,.int .i64 max,.int .i64 scale,.list (words.map PV.str),.list (elem.map Typ.pv),.list (fields.map TFd.pv)])
def TFd.pv:TFd→PV
 | .mk number name need typ dflt=>.agg ([.int .i64 number,.str name,.int .i64 need]++typ.pv.cells++[.list (dflt.map Val.pv)])
end
mutual
def Typ.ok:Typ→Prop
 | .mk kind min max scale words elem fields=>I64 kind∧I64 min∧I64 max∧I64 scale∧words.length*16≤140737488351232∧(∀ x∈words,x.length≤140737488351232)∧elem.length*104≤140737488351232∧(∀ x∈elem,x.ok)∧fields.length*160≤140737488351232∧(∀ x∈fields,x.ok)
def TFd.ok:TFd→Prop
 | .mk number name need typ dflt=>I64 number∧name.length≤140737488351232∧I64 need∧typ.ok∧dflt.length*88≤140737488351232∧(∀ x∈dflt,x.ok)
end
section
variable {t:Nat}{p:PV}
theorem FG (h:HasT Tryz.prog t p)(hu:Tryz.prog.underlying t=some .string):∃ s:List UInt8,p = .str s∧s.length≤140737488351232:=by
 cases h with
 | str _ s hb hs=>exact⟨s,rfl,hs⟩
 | int _ k n hb=>rw[hu] at hb;cases hb
 | bool _ b hb=>rw[hu] at hb;cases hb
 | list _ e l hb=>rw[hu] at hb;cases hb
 | agg _ fs cs hb=>rw[hu] at hb;cases hb
 | arr _ e n cs hb=>rw[hu] at hb;cases hb
end
end Go.Proofs.YtamoeblcphjbaaaGreatDoor
-- many steps
namespace Go.Proofs.YtamoeblcphjbaaaGreatDoor
open Go Go.Ab
attribute [local irreducible] vc
theorem N6 (n lo hi:Int):au Tryz.prog aM 154 [.int .i64 n,.int .i64 lo,.int .i64 hi] (.bool (decide (lo≤n)&&decide (n≤hi))):=by
 refine au.intro Lt (by simp[P2]) ?_
 by_cases h1:lo≤n
 ·by_cases h2:n≤hi
  ·rw[show (decide (lo≤n)&&decide (n≤hi))=true by simp[h1,h2]]
   simp(disch:=try exact dI) only[P2,push_cast,seval]
  ·rw[show (decide (lo≤n)&&decide (n≤hi))=false by simp[h2]]
   simp(disch:=try exact dI) only[P2,push_cast,seval]
 ·rw[show (decide (lo≤n)&&decide (n≤hi))=false by simp[h1]]
  simp(disch:=try exact dI) only[P2,push_cast,seval]
theorem dU {n lo hi:Int}(h:lo≤n∧n≤hi):au Tryz.prog aM 154 [.int .i64 n,.int .i64 lo,.int .i64 hi] (.bool true):=by
 have:=N6 n lo hi
 rwa [show (decide (lo≤n)&&decide (n≤hi))=true by simp[h]] at this
theorem nk {n lo hi:Int}(h:¬ (lo≤n∧n≤hi)):au Tryz.prog aM 154 [.int .i64 n,.int .i64 lo,.int .i64 hi] (.bool false):=by
 have:=N6 n lo hi
 rwa [show (decide (lo≤n)&&decide (n≤hi))=false by rw[← Bool.decide_and];exact decide_eq_false h] at this
theorem JC {y:Int}(h1:1≤y)(h2:y≤9999):au Tryz.prog aM 205 [.int .i64 y] (.bool (iK y)):=by
 have hi:=dU (n:=y) (lo:=1) (hi:=9999) ⟨h1,h2⟩
 have e4:=iY (a:=y) (b:=4) (by omega)
 have e100:=iY (a:=y) (b:=100) (by omega)
 have e400:=iY (a:=y) (b:=400) (by omega)
 refine au.intro KW (by simp[Mk]) ?_
 unfold iK
 by_cases a:y % 4=0
 ·by_cases b:y % 100=0
  ·by_cases c:y % 400=0
   ·simp only[a,b,c,decide_true,Bool.not_true,Bool.or_true,Bool.and_true]
    simp(disch:=try exact dI) only[Mk,e4,e100,e400,push_cast,seval]
    refine ab.pure hi rfl ?_
    simp(disch:=try exact dI) only[e4,e100,e400,a,b,c,push_cast,seval]
   ·simp only[a,b,c,decide_true,decide_false,Bool.not_true,Bool.or_false,Bool.and_false]
    simp(disch:=try exact dI) only[Mk,e4,e100,e400,push_cast,seval]
    refine ab.pure hi rfl ?_
    simp(disch:=try exact dI) only[e4,e100,e400,a,b,c,push_cast,seval]
  ·simp only[a,b,decide_true,decide_false,Bool.not_false,Bool.true_or,Bool.and_true]
   simp(disch:=try exact dI) only[Mk,e4,e100,e400,push_cast,seval]
   refine ab.pure hi rfl ?_
   simp(disch:=try exact dI) only[e4,e100,e400,a,b,push_cast,seval]
 ·simp only[a,decide_false,Bool.false_and]
  simp(disch:=try exact dI) only[Mk,e4,e100,e400,push_cast,seval]
  refine ab.pure hi rfl ?_
  simp(disch:=try exact dI) only[e4,e100,e400,a,push_cast,seval]
theorem HB {y:Int}(h1:1≤y)(h2:y≤100000):au Tryz.prog aM 155 [.int .i64 y] (.int .i64 (ew y)):=by
 have e4:=gF (a:=y - 1) (b:=4) (by omega)
 have e100:=gF (a:=y - 1) (b:=100) (by omega)
 have e400:=gF (a:=y - 1) (b:=400) (by omega)
 refine au.intro Ls (by simp[So]) ?_
 simp(disch:=try exact dI) only[So,ew,e4,e100,e400,push_cast,seval]
end Go.Proofs.YtamoeblcphjbaaaGreatDoor
-- many steps
namespace Go.Proofs.YtamoeblcphjbaaaGreatDoor
open Go Go.Ab
open Nat renaming reduceEqDiff→qa,reduceAdd→qb,reduceMul→qc,reduceLeDiff→qd,reduceLT→qe,reduceBEq→qf,reduceSub→qg
open Int renaming reduceToNat→qh,reduceNeg→qi
attribute [local irreducible] vc
def Qa (m:Nat):Int:=if m=2 then 28 else if m=4∨m=6∨m=9∨m=11 then 30 else 31
theorem Hc (y:Int)(m:Nat)(h:¬ (m=2∧iK y=true)):mdI y m=Qa m:=by
 unfold mdI Qa
 by_cases h2:m=2
 ·subst h2
  have:¬ iK y=true:=fun hl=>h ⟨rfl,hl⟩
  simp[this]
 ·have:¬ (m:Int)=2:=by omega
  rw[if_neg this,if_neg h2]
  by_cases h4:m=4∨m=6∨m=9∨m=11
  ·rw[if_pos h4,if_pos (by omega)]
  ·rw[if_neg h4,if_neg (by omega)]
theorem Rh (m:Nat)(h1:1≤m)(h2:m≤12):gm false 12 1 (.pv (.agg [.int .i64 31,.int .i64 28,.int .i64 31,.int .i64 30,.int .i64 31,.int .i64 30,.int .i64 31,.int .i64 31,.int .i64 30,.int .i64 31,.int .i64 30,.int .i64 31])) (.pv (.int .i64 ((m:Int) - 1)))=some (.pv (.int .i64 (Qa m))):=by
 have h12:m=1∨m=2∨m=3∨m=4∨m=5∨m=6∨m=7∨m=8∨m=9∨m=10∨m=11∨m=12:=by omega
 rcases h12 with rfl | rfl | rfl | rfl | rfl | rfl | rfl | rfl | rfl | rfl | rfl | rfl<;>rfl
theorem Js {y:Int}(h1:1≤y)(h2:y≤9999)(m:Nat)(h3:1≤m)(h4:m≤12):au Tryz.prog aM 156 [.int .i64 y,.int .i64 (m:Int)] (.int .i64 (mdI y m)):=by
 have hl:=JC h1 h2
 have hx:=Rh m h3 h4
 refine au.intro Lr (by simp[P1]) ?_
 by_cases h:m=2
 ·subst h
  cases hb:iK y with
  | true=>
    rw[hb] at hl
    rw[show mdI y ((2:Nat):Int)=29 by simp[mdI,hb]]
    simp(disch:=try exact dI) only[P1,push_cast,↓reduceIte,qa,qb,qc,qd,qe,qf,qg,qh,qi]
    refine ab.pure hl rfl ?_
    simp(disch:=try exact dI) only[push_cast,↓reduceIte,qa,qb,qc,qd,qe,qf,qg,qh,qi]
  | false=>
    rw[hb] at hl
    rw[Hc y 2 (by simp[hb])]
    have hx2:gm false 12 1 (.pv (.agg [.int .i64 31,.int .i64 28,.int .i64 31,.int .i64 30,.int .i64 31,.int .i64 30,.int .i64 31,.int .i64 31,.int .i64 30,.int .i64 31,.int .i64 30,.int .i64 31])) (.pv (.int .i64 (2 - 1)))=some (.pv (.int .i64 28)):=rfl
    rw[show Qa 2=28 from rfl]
    simp(disch:=try exact dI) only[P1,push_cast,↓reduceIte,qa,qb,qc,qd,qe,qf,qg,qh,qi]
    refine ab.pure hl rfl ?_
    simp(disch:=try exact dI) only[hx2,push_cast,↓reduceIte,qa,qb,qc,qd,qe,qf,qg,qh,qi]
 ·rw[Hc y m (by simp[h])]
  simp(disch:=try exact dI) only[P1,hx,push_cast,↓reduceIte,qa,qb,qc,qd,qe,qf,qg,qh,qi]
theorem kw {y:Int}(h1:1≤y)(h2:y≤9999)(m:Nat)(h3:1≤m)(h4:m≤12):au Tryz.prog aM 223 [.int .i64 y,.int .i64 (m:Int)] (.tup [.int .i64 (mdI y m),.int .i64 0]):=by
 have hi1:=dU (n:=y) (lo:=1) (hi:=9999) ⟨h1,h2⟩
 have hi2:=dU (n:=(m:Int)) (lo:=1) (hi:=12) ⟨by omega,by omega⟩
 have hm:=Js h1 h2 m h3 h4
 refine au.intro CV (by simp[Mi]) ?_
 simp(disch:=try exact dI) only[Mi,push_cast,↓reduceIte,qa,qb,qc,qd,qe,qf,qg,qh,qi]
 refine ab.pure hi1 rfl ?_
 simp(disch:=try exact dI) only[push_cast,↓reduceIte,qa,qb,qc,qd,qe,qf,qg,qh,qi]
 refine ab.pure hi2 rfl ?_
 simp(disch:=try exact dI) only[push_cast,↓reduceIte,qa,qb,qc,qd,qe,qf,qg,qh,qi]
 refine ab.pure hm rfl ?_
 simp(disch:=try exact dI) only[push_cast,↓reduceIte,qa,qb,qc,qd,qe,qf,qg,qh,qi]
theorem rz {y m:Int}(h:¬ (1≤y∧y≤9999∧1≤m∧m≤12)):au Tryz.prog aM 223 [.int .i64 y,.int .i64 m] (.tup [.int .i64 0,.int .i64 17]):=by
 refine au.intro CV (by simp[Mi]) ?_
 by_cases hy:1≤y∧y≤9999
 ·have hi1:=dU (n:=y) (lo:=1) (hi:=9999) hy
  have hi2:=nk (n:=m) (lo:=1) (hi:=12) (by omega)
  simp(disch:=try exact dI) only[Mi,push_cast,↓reduceIte,qa,qb,qc,qd,qe,qf,qg,qh,qi]
  refine ab.pure hi1 rfl ?_
  simp(disch:=try exact dI) only[push_cast,↓reduceIte,qa,qb,qc,qd,qe,qf,qg,qh,qi]
  refine ab.pure hi2 rfl ?_
  simp(disch:=try exact dI) only[push_cast,↓reduceIte,qa,qb,qc,qd,qe,qf,qg,qh,qi]
 ·have hi1:=nk (n:=y) (lo:=1) (hi:=9999) hy
  simp(disch:=try exact dI) only[Mi,push_cast,↓reduceIte,qa,qb,qc,qd,qe,qf,qg,qh,qi]
  refine ab.pure hi1 rfl ?_
  simp(disch:=try exact dI) only[push_cast,↓reduceIte,qa,qb,qc,qd,qe,qf,qg,qh,qi]
theorem OA {y:Int}{m:Nat}{d:Int}(h:DateOk y m d):au Tryz.prog aM 191 [.int .i64 y,.int .i64 (m:Int),.int .i64 d] (.tup [.int .i64 (jM y m d - 719162),.int .i64 0]):=by
 have hm:=kw h.y1 h.y2 m h.m1 h.m2
 have hi:=dU (n:=d) (lo:=1) (hi:=mdI y m) ⟨h.d1,h.d2⟩
 have hb:=HB h.y1 (by have:=h.y2;omega)
 have hbb:=ii h.y1 (by have:=h.y2;omega)
 have hmd:=ft y m
 have hd1:=h.d1
 have hd2:=h.d2
 have hdr:=fv h
 have hdn:jM y m d=ew y+dY y (m - 1)+d - 1:=rfl
 refine au.intro CX (by simp[Ml]) ?_
 simp(disch:=try exact dI) only[Ml,push_cast,↓reduceIte,qa,qb,qc,qd,qe,qf,qg,qh,qi]
 refine ab.pure hm rfl ?_
 simp(disch:=try exact dI) only[push_cast,↓reduceIte,qa,qb,qc,qd,qe,qf,qg,qh,qi]
 refine ab.pure hi rfl ?_
 simp(disch:=try exact dI) only[push_cast,↓reduceIte,qa,qb,qc,qd,qe,qf,qg,qh,qi]
 refine ab.pure hb rfl ?_
 simp(disch:=try exact dI) only[push_cast,↓reduceIte,qa,qb,qc,qd,qe,qf,qg,qh,qi]
 have e0:((0:Nat):Int)+1=1:=rfl
 have e1:-719162+ew y+d - 1+dY y 0 = -719162+ew y+d - 1:=by
  have z:dY y 0=0:=rfl
  omega
 refine bf ([]) (fun k:Nat=>[(10,.pv (.int .i64 (-719162+ew y+d - 1+dY y k))),(11,.pv (.int .i64 ((k:Int)+1)))]) (fun _=>[]) (fun k=>k≤m - 1) (fun k=>m - 1 - k) (0) ?_;intro e0 σ0 n0 h0;simp(disch:=try exact dI) only[push_cast,↓reduceIte,qa,qb,qc,qd,qe,qf,qg,qh,qi] at h0;obtain⟨rfl,rfl,rfl⟩:=h0;refine⟨?_,?_,?_⟩
 ·simp(disch:=try exact dI) only[e1,Int.zero_add,push_cast,↓reduceIte,qa,qb,qc,qd,qe,qf,qg,qh,qi]
 ·omega
 intro k hk
 have hs0:=de y k 0
 have z:dY y 0=0:=rfl
 simp only[Nat.zero_add] at hs0
 have hsm:=de y (m - 1 - k) k
 rw[show k+(m - 1 - k)=m - 1 by omega] at hsm
 by_cases hlt:k<m - 1
 ·have hmk:=Js h.y1 h.y2 (k+1) (by omega) (by have:=h.m2;omega)
  have hmdk:=ft y ((k+1:Nat):Int)
  have hsk:dY y (k+1)=dY y k+mdI y ((k+1:Nat):Int):=rfl
  rw[show ((k+1:Nat):Int)=(k:Int)+1 by omega] at hmk hmdk hsk
  have hs2:-719162+ew y+d - 1+dY y (k+1) = -719162+ew y+d - 1+dY y k+mdI y ((k:Int)+1):=by omega
  simp(disch:=try exact dI) only[push_cast,↓reduceIte,qa,qb,qc,qd,qe,qf,qg,qh,qi]
  refine ab.pure hmk rfl ?_
  simp(disch:=try exact dI) only[push_cast,↓reduceIte,qa,qb,qc,qd,qe,qf,qg,qh,qi]
  exact⟨k+1,bz (by simp(disch:=try exact dI) only[hs2,push_cast,↓reduceIte,qa,qb,qc,qd,qe,qf,qg,qh,qi]),by omega,by omega⟩
 ·have:k=m - 1:=by omega
  subst this
  have hfin:-719162+ew y+d - 1+dY y (m - 1)=jM y m d - 719162:=by omega
  simp(disch:=try exact dI) only[hfin,push_cast,↓reduceIte,qa,qb,qc,qd,qe,qf,qg,qh,qi]
theorem OB {y m d:Int}(h:∀ k:Nat,m=k→¬ DateOk y k d):au Tryz.prog aM 191 [.int .i64 y,.int .i64 m,.int .i64 d] (.tup [.int .i64 0,.int .i64 17]):=by
 refine au.intro CX (by simp[Ml]) ?_
 by_cases hm:1≤y∧y≤9999∧1≤m∧m≤12
 ·obtain⟨k,rfl⟩:∃ k:Nat,m=k:=⟨m.toNat,by omega⟩
  have hmt:=kw hm.1 hm.2.1 k (by omega) (by omega)
  have hi:=nk (n:=d) (lo:=1) (hi:=mdI y k) (fun hd=>h k rfl ⟨hm.1,hm.2.1,by omega,by omega,hd.1,hd.2⟩)
  simp(disch:=try exact dI) only[Ml,push_cast,↓reduceIte,qa,qb,qc,qd,qe,qf,qg,qh,qi]
  refine ab.pure hmt rfl ?_
  simp(disch:=try exact dI) only[push_cast,↓reduceIte,qa,qb,qc,qd,qe,qf,qg,qh,qi]
  refine ab.pure hi rfl ?_
  simp(disch:=try exact dI) only[push_cast,↓reduceIte,qa,qb,qc,qd,qe,qf,qg,qh,qi]
 ·have hmf:=rz hm
  simp(disch:=try exact dI) only[Ml,push_cast,↓reduceIte,qa,qb,qc,qd,qe,qf,qg,qh,qi]
  refine ab.pure hmf rfl ?_
  simp(disch:=try exact dI) only[push_cast,↓reduceIte,qa,qb,qc,qd,qe,qf,qg,qh,qi]
end Go.Proofs.YtamoeblcphjbaaaGreatDoor
-- many steps
namespace Go.Proofs.YtamoeblcphjbaaaGreatDoor
open Go Go.Ab
attribute [local irreducible] vc
theorem Kk {y:Int}{m:Nat}{d:Int}(h:DateOk y m d):au Tryz.prog aM 89 [.int .i64 (jM y m d - 719162)] (.tup [.int .i64 y,.int .i64 (m:Int),.int .i64 d,.int .i64 0]):=by
 have hdr:=fv h
 have hdb:=pN h
 have hy1:=h.y1
 have hy2:=h.y2
 have hm1:=h.m1
 have hm2:=h.m2
 have hd1:=h.d1
 have hd2:=h.d2
 have hdn:jM y m d=ew y+dY y (m - 1)+d - 1:=rfl
 obtain⟨n,hn⟩:∃ n,n=jM y m d:=⟨_,rfl⟩
 rw[← hn] at hdr hdb hdn ⊢
 have hin:=dU (n:=n - 719162) (lo:=-719162) (hi:=2932896) ⟨by omega,by omega⟩
 have hq:=gF (a:=n) (b:=365) (by omega)
 have hs0:=de y (m - 1) 0
 have z:dY y 0=0:=rfl
 simp only[Nat.zero_add] at hs0
 have hbb:=ii hy1 (by omega)
 have hb365:365*(y - 1)≤ew y:=by unfold ew;omega
 have e1:n - 719162 - -719162=n:=by omega
 refine au.intro Pm (by simp[F89]) ?_
 simp(disch:=try exact dI) only[F89,push_cast,seval]
 refine ab.pure hin rfl ?_
 have hmin:y≤n / 365+1:=by omega
 have hloop:∀ Y:Int,y≤Y→Y≤9999→(n<ew Y↔y<Y):=by
  intro Y h1 h2
  constructor
  ·intro h3
   by_cases e:Y=y
   ·subst e;omega
   ·omega
  ·intro h3
   have:=OW h3
   omega
 simp(disch:=try exact dI) only[e1,hq,push_cast,seval]
 refine bf ([]) (fun Y:Int=>[(2,.pv (.int .i64 Y))]) (fun _=>[]) (fun Y=>y≤Y∧Y≤9999) (fun Y=>(Y - y).toNat) (min (n / 365+1) 9999) ?_;intro e0 σ0 n0 h0;simp(disch:=try exact dI) only[push_cast,seval] at h0;obtain⟨rfl,rfl,rfl⟩:=h0;refine⟨?_,?_,?_⟩
 ·exact qsZ
 ·exact⟨by omega,by omega⟩
 rintro Y ⟨g1,g2⟩
 have hbY:=HB (y:=Y) (by omega) (by omega)
 by_cases hY:y<Y
 ·have hgt:=(hloop Y g1 g2).2 hY
  refine zgZ ?_
  refine ab.pure hbY rfl ?_
  refine zgZ ?_
  exact⟨Y - 1,bz qsZ,⟨by omega,by omega⟩,by omega⟩
 ·have:Y=y:=by omega
  subst this
  refine zgZ ?_
  refine ab.pure hbY rfl ?_
  refine zgZ ?_
  refine ab.pure hbY rfl ?_
  refine zgZ ?_
  refine bf ([]) (fun k:Nat=>[(3,.pv (.int .i64 ((k:Int)+1))),(6,.pv (.int .i64 (n - ew Y - dY Y k)))]) (fun _=>[]) (fun k=>k≤m - 1) (fun k=>m - 1 - k) (0) ?_;intro e0 σ0 n0 h0;simp(disch:=try exact dI) only[push_cast,seval] at h0;obtain⟨rfl,rfl,rfl⟩:=h0;refine⟨?_,?_,?_⟩
  ·simp(disch:=try exact dI) only[z,Int.zero_add,Int.sub_zero,push_cast,seval]
  ·omega
  intro k hk
  have hsm:=de Y (m - 1 - k) k
  rw[show k+(m - 1 - k)=m - 1 by omega] at hsm
  have hs1:=de Y k 0
  simp only[Nat.zero_add] at hs1
  have hmk:=Js hy1 hy2 (k+1) (by omega) (by omega)
  have hmdk:=ft Y ((k+1:Nat):Int)
  have hsk:dY Y (k+1)=dY Y k+mdI Y ((k+1:Nat):Int):=rfl
  rw[show ((k+1:Nat):Int)=(k:Int)+1 by omega] at hmk hmdk hsk
  by_cases hlt:k<m - 1
  ·have hge:mdI Y ((k:Int)+1)≤n - ew Y - dY Y k:=by
    have hs2:=de Y (m - 1 - (k+1)) (k+1)
    rw[show k+1+(m - 1 - (k+1))=m - 1 by omega] at hs2
    omega
   have he:n - ew Y - dY Y (k+1)=n - ew Y - dY Y k - mdI Y ((k:Int)+1):=by omega
   refine zgZ ?_
   refine ab.pure hmk rfl ?_
   refine zgZ ?_
   refine ab.pure hmk rfl ?_
   refine zgZ ?_
   exact⟨k+1,bz (by simp(disch:=try exact dI) only[he,push_cast,seval]),by omega,by omega⟩
  ·have hkm:k=m - 1:=by omega
   subst hkm
   have em:((m - 1:Nat):Int)+1=(m:Int):=by omega
   have em2:(m:Int) - 1+1=(m:Int):=by omega
   rw[em] at hmk hmdk hsk
   have hnge:¬ mdI Y (m:Int)≤n - ew Y - dY Y (m - 1):=by omega
   have efin:n - ew Y - dY Y (m - 1)+1=d:=by omega
   simp(disch:=try exact dI) only[em2,push_cast,seval]
   refine ab.pure hmk rfl ?_
   simp(disch:=try exact dI) only[em2,efin,push_cast,seval]
end Go.Proofs.YtamoeblcphjbaaaGreatDoor
-- many steps
namespace Go.Proofs.YtamoeblcphjbaaaGreatDoor
open Go Go.Ab
attribute [local irreducible] vc
def isD (c:UInt8):Bool:=decide (48≤c.toNat)&&decide (c.toNat≤57)
def k9:Int→List UInt8→Int
 | n,[]=>n
 | n,c::r=>k9 (10*n+((c.toNat:Int) - 48)) r
theorem nD (c:UInt8):∀ (l:List UInt8) (n:Int),k9 n (l++[c])=10*k9 n l+((c.toNat:Int) - 48)
 | [],n=>rfl
 | d::l,n=>by simp only[List.cons_append,k9];exact nD c l _
theorem kC {c:UInt8}(h:isD c=true):48≤c.toNat∧c.toNat≤57:=by simpa[isD] using h
theorem dq:∀ (l:List UInt8) (n:Int),0≤n→l.all isD=true→0≤k9 n l∧k9 n l+1≤(n+1)*((10 ^ l.length:Nat):Int)
 | [],n,h0,_=>by simp[k9];omega
 | c::r,n,h0,hd=>by
   simp only[List.all_cons,Bool.and_eq_true] at hd
   have hc:=kC hd.1
   have ih:=dq r (10*n+((c.toNat:Int) - 48)) (by omega) hd.2
   refine⟨ih.1,Int.le_trans ih.2 ?_⟩
   rw[List.length_cons,Nat.pow_succ]
   have hp:(0:Int)≤((10 ^ r.length:Nat):Int):=Int.natCast_nonneg _
   have h1:(10*n+((c.toNat:Int) - 48)+1)*((10 ^ r.length:Nat):Int)≤((n+1)*10)*((10 ^ r.length:Nat):Int):=Int.mul_le_mul_of_nonneg_right (by omega) hp
   have h2:((n+1)*10)*((10 ^ r.length:Nat):Int)=(n+1)*((10 ^ r.length*10:Nat):Int):=by
    rw[Int.mul_assoc,Int.natCast_mul,Int.mul_comm (10:Int)];rfl
   exact Int.le_trans h1 (Int.le_of_eq h2)
theorem Ox {l:List UInt8}(h:l.all isD=true)(hl:l.length≤9):0≤k9 0 l∧k9 0 l≤999999999:=by
 have:=dq l 0 (by omega) h
 have hp:10 ^ l.length≤10 ^ 9:=Nat.pow_le_pow_right (by omega) hl
 omega
def wd (k:Nat)(s:List UInt8):Option (Int×List UInt8):=if k≤s.length∧(s.take k).all isD=true then some (k9 0 (s.take k),s.drop k) else none
def G5 (s:List UInt8):Option (Int×List UInt8)→PV
 | some p=>.tup [.int .i64 p.1,.str p.2,.bool true]
 | none=>.tup [.int .i64 0,.str s,.bool false]
end Go.Proofs.YtamoeblcphjbaaaGreatDoor
