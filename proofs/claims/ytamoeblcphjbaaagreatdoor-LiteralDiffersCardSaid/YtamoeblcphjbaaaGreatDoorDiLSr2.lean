/- A part of the proof for LiteralDiffersCardSaid. -/
import Derived.Shelf.SlSortCmp.NoneTotal
import Derived.Test.YtamoeblcphjbaaaGreatDoorDiLE1
import Derived.Test.YtamoeblcphjbaaaGreatDoorDiLC17
import Derived.Test.YtamoeblcphjbaaaGreatDoorDiLD
import Derived.Test.YtamoeblcphjbaaaGreatDoorCore6
set_option maxRecDepth 100000
set_option linter.unusedVariables false
set_option linter.unusedSimpArgs false
namespace Go.Proofs.YtamoeblcphjbaaaGreatDoor
open Go Go.Ab Go.RowKit
def Ic:Fld:=.mk [] (.mk 0 0 0 [] [] [])
def nmL (l:List Fld)(i:Nat):List UInt8:=(l.getD i Ic).name
def cfL (l:List Fld)(i j:Nat):Int:=Lib.compareBytes (nmL l i) (nmL l j)
def tT (l:List Fld):Array Nat:=Sort.pdq (Go.Proofs.ltOf (cfL l)) (Array.range l.length) 0 (Array.range l.length).size (Lib.bitLen (Array.range l.length).size) true true
def srt (l:List Fld):List Fld:=(tT l).toList.map fun i=>l.getD i Ic
theorem gl:∀ (a b c:List UInt8),Lib.compareBytes a b<0→Lib.compareBytes b c<0→Lib.compareBytes a c<0
 | [],b,[],h1,h2=>by
   cases b with
   | nil=>exact h2
   | cons x q=>simp[Lib.compareBytes] at h2
 | [],b,z::r,h1,h2=>by simp[Lib.compareBytes]
 | x::p,[],c,h1,h2=>by simp[Lib.compareBytes] at h1
 | x::p,y::q,[],h1,h2=>by simp[Lib.compareBytes] at h2
 | x::p,y::q,z::r,h1,h2=>by
   have ih:=gl p q r
   simp only[Lib.compareBytes,UInt8.lt_iff_toNat_lt] at *
   repeat' split at h1
   all_goals repeat' split at h2
   all_goals repeat' split
   all_goals first | omega | exact ih h1 h2 | (exfalso;omega)
theorem lW:∀ (a b c:List UInt8),¬ Lib.compareBytes a b<0→¬ Lib.compareBytes b c<0→¬ Lib.compareBytes a c<0
 | [],[],c,h1,h2=>h2
 | [],y::q,c,h1,h2=>by simp[Lib.compareBytes] at h1
 | x::p,b,[],h1,h2=>by simp[Lib.compareBytes]
 | x::p,[],z::r,h1,h2=>by simp[Lib.compareBytes] at h2
 | x::p,y::q,z::r,h1,h2=>by
   have ih:=lW p q r
   simp only[Lib.compareBytes,UInt8.lt_iff_toNat_lt] at *
   repeat' split at h1
   all_goals repeat' split at h2
   all_goals repeat' split
   all_goals first | omega | exact ih h1 h2 | (exfalso;omega)
theorem j4:∀ a:List UInt8,Lib.compareBytes a a=0
 | []=>rfl
 | x::p=>by
   have:=j4 p
   simp only[Lib.compareBytes,UInt8.lt_iff_toNat_lt]
   rw[if_neg (by omega),if_neg (by omega)];exact this
theorem JM (l:List Fld):Sort.SWO (Go.Proofs.ltOf (cfL l)) where
 irrefl x:=decide_eq_false (by rw[cfL,j4];decide)
 trans x y z h1 h2:=decide_eq_true (gl _ _ _ (of_decide_eq_true h1) (of_decide_eq_true h2))
 ntrans x y z h1 h2:=decide_eq_false (lW _ _ _ (of_decide_eq_false h1) (of_decide_eq_false h2))
theorem kV (l:List Fld):(tT l).toList.Perm (List.range l.length):=by
 have h:=(Sort.pdq_sorts (Go.Proofs.ltOf (cfL l)) (JM l) (Array.range l.length) 0 (Array.range l.length).size (Lib.bitLen (Array.range l.length).size) true true (Nat.zero_le _) (Nat.le_refl _) (Or.inl rfl)).1
 obtain⟨h1,_,h3⟩:=h
 have e1:(tT l).size=(Array.range l.length).size:=h1
 have h4:((tT l).extract 0 (Array.range l.length).size).toList.Perm ((Array.range l.length).extract 0 (Array.range l.length).size).toList:=h3
 simp only[Array.size_range] at e1
 simp only[Array.size_range,Array.toList_extract,List.extract_eq_take_drop,List.drop_zero,Nat.sub_zero,Array.toList_range] at h4
 rw[List.take_of_length_le (by simp[e1]),List.take_of_length_le (by simp)] at h4
 exact h4
theorem mO (l:List Fld):Sort.SortedIn (Go.Proofs.ltOf (cfL l)) 0 (Array.range l.length).size (tT l):=
 (Sort.pdq_sorts (Go.Proofs.ltOf (cfL l)) (JM l) (Array.range l.length) 0 (Array.range l.length).size (Lib.bitLen (Array.range l.length).size) true true (Nat.zero_le _) (Nat.le_refl _) (Or.inl rfl)).2
theorem gN (l:List Fld):(tT l).size=l.length:=by
 have:=(kV l).length_eq
 simpa using this
theorem Cg (l:List Fld):(srt l).length=l.length:=by
 unfold srt;rw[List.length_map,Array.length_toList,gN]
theorem iI:∀ (l:List Fld),(List.range l.length).map (fun i=>l.getD i Ic)=l:=by
 intro l
 apply List.ext_getElem
 ·simp
 ·intro i h1 h2
  simp[List.getD_eq_getElem?_getD,List.getElem?_eq_getElem h2]
theorem nV (l:List Fld):(srt l).Perm l:=by
 have:=(kV l).map fun i=>l.getD i Ic
 rwa [iI] at this
theorem pM (l:List Fld)(i j:Nat)(x y:Fld)(hij:i<j)(hx:(srt l)[i]? = some x)(hy:(srt l)[j]? = some y):¬ Lib.compareBytes y.name x.name<0:=by
 have hj:j<(tT l).size:=by
  have:=(List.getElem?_eq_some_iff.1 hy).1
  rw[Cg] at this;rw[gN];exact this
 have hs:=mO l i j (Nat.zero_le _) hij (by simp;rw[← gN];exact hj)
 unfold srt at hx hy
 rw[List.getElem?_map,Option.map_eq_some_iff] at hx hy
 obtain⟨a,ha,rfl⟩:=hx
 obtain⟨b,hb,rfl⟩:=hy
 have ea:(tT l)[i]! = a:=by
  have:(tT l)[i]? = some a:=by simpa using ha
  rw[getElem!_def,this]
 have eb:(tT l)[j]! = b:=by
  have:(tT l)[j]? = some b:=by simpa using hb
  rw[getElem!_def,this]
 rw[ea,eb] at hs
 simpa[Go.Proofs.ltOf,cfL,nmL] using hs
end Go.Proofs.YtamoeblcphjbaaaGreatDoor
namespace Go.Proofs.YtamoeblcphjbaaaGreatDoor
open Go Go.Ab Go.RowKit
end Go.Proofs.YtamoeblcphjbaaaGreatDoor
namespace Go.Proofs.YtamoeblcphjbaaaGreatDoor
open Go Go.Ab
end Go.Proofs.YtamoeblcphjbaaaGreatDoor
-- many steps
namespace Go.Proofs.YtamoeblcphjbaaaGreatDoor
open Go Go.Ab
attribute [local irreducible] vc
theorem oC {val:Rd→Val×Rd}{k:Nat}{first:Bool}{l:List Val}{R:Rd}(h:¬ (R.e=0∧isT R [93]=false)):g7 val k first l R=(l,R):=by
 cases k with
 | zero=>rfl
 | succ k=>rw[g7];exact if_neg h
theorem oD {val:Rd→Val×Rd}{k:Nat}{first:Bool}{l:List Val}{R:Rd}(h:R.e=0∧isT R [93]=false) :
  g7 val (k+1) first l R=g7 val k false (l++[(val (if first=true then R else ba R [44])).1]) (val (if first=true then R else ba R [44])).2:=by
 rw[g7];exact if_pos h
section
variable {T:Nat}{p:PV}
end
end Go.Proofs.YtamoeblcphjbaaaGreatDoor
-- many steps
namespace Go.Proofs.YtamoeblcphjbaaaGreatDoor
open Go Go.Ab
attribute [local irreducible] vc
theorem tj {val:Rd→Val×Rd}{k:Nat}{first:Bool}{seen:List (List UInt8)}{l:List Fld}{R:Rd}(h:¬ (R.e=0∧isT R [125]=false)):tl val k first seen l R=(l,R):=by
 cases k with
 | zero=>rfl
 | succ k=>rw[tl];exact if_neg h
def x9 (b:Bool)(R:Rd):List UInt8×Rd:=Dr (if b=true then R else ba R [44])
def FG (seen:List (List UInt8))(b:Bool)(R:Rd):Rd:=
 if (x9 b R).2.e=0∧(x9 b R).1∈seen then bK (x9 b R).2 (if b=true then R else ba R [44]).now.pos 7 else (x9 b R).2
theorem tk {val:Rd→Val×Rd}{k:Nat}{b:Bool}{seen:List (List UInt8)}{l:List Fld}{R:Rd}(h:R.e=0∧isT R [125]=false) :
  tl val (k+1) b seen l R=tl val k false (G6 seen (x9 b R).1) (l++[.mk (x9 b R).1 (val (ba (FG seen b R) [58])).1]) (val (ba (FG seen b R) [58])).2:=by
 rw[tl];exact if_pos h
section
variable {T:Nat}{p:PV}
end
end Go.Proofs.YtamoeblcphjbaaaGreatDoor
-- many steps
namespace Go.Proofs.YtamoeblcphjbaaaGreatDoor
open Go Go.Ab
attribute [local irreducible] vc
section
variable {T:Nat}{p:PV}
theorem Dp {val:Rd→Val×Rd}{R:Rd}{t:Tk}{d:Nat}(h0:R.e=0)(hi:isT R [40]=true)(hn:bj t.text=true):fJ val R t d=(.mk 10 0 0 t.text [(val (fE R)).1] [],ba (val (fE R)).2 [41]):=by
 unfold fJ
 rw[if_pos h0,if_pos hi,if_neg (by rw[hn];decide)]
theorem jL {val:Rd→Val×Rd}{R:Rd}{t:Tk}{d:Nat}(h0:R.e=0)(hi:isT R [40]=false):fJ val R t d =
  if t.text=[116,114,117,101] then (.mk 1 1 0 [] [] [],R)
  else if t.text=[102,97,108,115,101] then (.mk 1 0 0 [] [] [],R)
  else if t.text=[100,97,116,101] then (.mk 6 (cC R gQ).1 0 [] [] [],(cC R gQ).2)
  else if t.text=[116,105,109,101] then (.mk 7 (cC R gP).1 0 [] [] [],(cC R gP).2)
  else if t.text=[110,117,108,108]∧d=0 then (du,R)
  else (du,bK R t.pos 13):=by
 unfold fJ
 rw[if_pos h0,if_neg (by rw[hi];decide)]
end
end Go.Proofs.YtamoeblcphjbaaaGreatDoor
-- many steps
namespace Go.Proofs.YtamoeblcphjbaaaGreatDoor
open Go Go.Ab
attribute [local irreducible] vc
def Gk (t:Tk):Prop:=t.kind=2∨t.kind=3∨t.kind=4∨t.kind=1∨t.text=[91]∨t.text=[123]
theorem Ac {t:Tk}(h:Gk t):¬ (t.kind≠2∧t.kind≠3∧t.kind≠4∧t.kind≠1∧t.text≠[91]∧t.text≠[123]):=by
 rintro⟨q1,q2,q3,q4,q5,q6⟩
 rcases h with h | h | h | h | h | h
 ·exact q1 h
 ·exact q2 h
 ·exact q3 h
 ·exact q4 h
 ·exact q5 h
 ·exact q6 h
def d9 (so:List Fld→List Fld)(f d:Nat)(R:Rd):Val×Rd:=
 if R.now.kind=2∧R.now.dec=true then (.mk 3 R.now.num R.now.sc [] [] [],fE R)
 else if R.now.kind=2 then (.mk 2 R.now.num 0 [] [] [],fE R)
 else if R.now.kind=3 then (.mk 4 0 0 R.now.bytes [] [],fE R)
 else if R.now.kind=4 then (.mk 5 0 0 R.now.bytes [] [],fE R)
 else if R.now.text=[91] then (.mk 8 0 0 [] (g7 (bz so f (d+1)) (R.s.length+2) true [] (fE R)).1 [],ba (g7 (bz so f (d+1)) (R.s.length+2) true [] (fE R)).2 [93])
 else if R.now.text=[123] then (.mk 9 0 0 [] [] (so (tl (bz so f (d+1)) (R.s.length+2) true [] [] (fE R)).1),ba (tl (bz so f (d+1)) (R.s.length+2) true [] [] (fE R)).2 [125])
 else fJ (bz so f (d+1)) (fE R) R.now d
theorem eF {so:List Fld→List Fld}{f d:Nat}{R:Rd}(h:R.e=0)(h2:Gk R.now):bz so (f+1) d R=d9 so f d R:=by
 rw[bz,if_pos h];exact if_neg (Ac h2)
section
variable {T:Nat}{p:PV}
end
end Go.Proofs.YtamoeblcphjbaaaGreatDoor
