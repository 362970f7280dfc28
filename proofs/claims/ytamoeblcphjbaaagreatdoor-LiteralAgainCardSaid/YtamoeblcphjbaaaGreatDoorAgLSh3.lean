/- A part of the proof for LiteralAgainCardSaid. -/
import Derived.Shelf.SlGeneric
import Derived.Shelf.SlSortCmp.WholeK
import Derived.Ground.SlsfProg
import Derived.Test.YtamoeblcphjbaaaGreatDoorProg
import Derived.WalkKit
import Derived.WalkMore
import Derived.Deep.Draws
import Derived.Test.YtamoeblcphjbaaaGreatDoorAgLC1
import Derived.Shelf.SlSortCmp.NoneTotal
import Derived.Test.YtamoeblcphjbaaaGreatDoorAgLSh2
import Derived.Test.YtamoeblcphjbaaaGreatDoorAgLD
/-
 DERIVED: THE SHELF's CONTRACTS AT THIS DUMP,IN PLAIN WORDS (tools/lay-plain.mjs out of 'TryzC9.lean',which tools/lay-shelf.mjs wrote): THE SAME DECLARATIONS UNDER THE SAME NAMES: 'import','namespace','open','def','theorem' AND NOTHING ELSE: no command of the shelf's: FOR A HAND-IN. Each laying: the table of numbers ('.._ren') and one theorem,a field a fact of the dump's own or the kernel's comparison;each jK: ONE APPLICATION.
-/
namespace Go.Proofs
open Go.Shelf
def Tryz.sortF_ren:Go.Shelf.Ren:=⟨fun | 6=>167 | 15=>211 | 14=>210 | 28=>245 | 29=>215 | 20=>237 | 21=>238 | 22=>239 | 23=>240 | 24=>241 | 25=>242 | 26=>243 | 27=>244 | 46=>262 | 47=>263 | 48=>264 | 49=>265 | 50=>266 | 57=>276 | n=>n,fun | 22=>23 | 24=>39 | 25=>130 | 3=>3 | 39=>163 | 0=>0 | 53=>206 | 55=>181 | 4=>4 | 46=>233 | 45=>232 | 50=>237 | 5=>5 | 9=>9 | 66=>251 | 70=>104 | 76=>266 | 77=>186 | n=>n,fun | n=>n⟩
theorem Tryz.sortF:Go.Proofs.SlLaysF0.n6 Tryz.prog Tryz.sortF_ren:={
 mixed:=by kernel_rfl
 f6:=⟨Tryz.f167.name,by decide,Tryz.func167.trans (congrArg some (by kernel_rfl))⟩
 f14:=⟨Tryz.f210.name,by decide,Tryz.func210.trans (congrArg some (by kernel_rfl))⟩
 f15:=Tryz.func211.trans (congrArg some (by kernel_rfl))
 f20:=⟨Tryz.f237.name,by decide,Tryz.func237.trans (congrArg some (by kernel_rfl))⟩
 f21:=⟨Tryz.f238.name,by decide,Tryz.func238.trans (congrArg some (by kernel_rfl))⟩
 f22:=⟨Tryz.f239.name,by decide,Tryz.func239.trans (congrArg some (by kernel_rfl))⟩
 f23:=⟨Tryz.f240.name,by decide,Tryz.func240.trans (congrArg some (by kernel_rfl))⟩
 f24:=⟨Tryz.f241.name,by decide,Tryz.func241.trans (congrArg some (by kernel_rfl))⟩
 f25:=⟨Tryz.f242.name,by decide,Tryz.func242.trans (congrArg some (by kernel_rfl))⟩
 f26:=⟨Tryz.f243.name,by decide,Tryz.func243.trans (congrArg some (by kernel_rfl))⟩
 f27:=⟨Tryz.f244.name,by decide,Tryz.func244.trans (congrArg some (by kernel_rfl))⟩
 f28:=Tryz.func245.trans (congrArg some (by kernel_rfl))
 f29:=Tryz.func215.trans (congrArg some (by kernel_rfl))
 f46:=⟨Tryz.f262.name,by decide,Tryz.func262.trans (congrArg some (by kernel_rfl))⟩
 f47:=Tryz.func263.trans (congrArg some (by kernel_rfl))
 f48:=Tryz.func264.trans (congrArg some (by kernel_rfl))
 f49:=⟨Tryz.f265.name,by decide,Tryz.func265.trans (congrArg some (by kernel_rfl))⟩
 f50:=⟨Tryz.f266.name,by decide,Tryz.func266.trans (congrArg some (by kernel_rfl))⟩
 f57:=⟨Tryz.f276.name,by decide,Tryz.func276.trans (congrArg some (by kernel_rfl))⟩
 t0:=Tryz.underlying0
 a0:=Tryz.isAgg0
 z0:=Tryz.sizeOf0
 v0:=Tryz.zeroValue0
 t3:=Tryz.underlying3
 a3:=Tryz.isAgg3
 z3:=Tryz.sizeOf3
 v3:=Tryz.zeroValue3
 t4:=Tryz.underlying4
 a4:=Tryz.isAgg4
 z4:=Tryz.sizeOf4
 v4:=Tryz.zeroValue4
 t5:=Tryz.underlying5
 a5:=Tryz.isAgg5
 z5:=Tryz.sizeOf5
 v5:=Tryz.zeroValue5
 t9:=Tryz.underlying9
 a9:=Tryz.isAgg9
 z9:=Tryz.sizeOf9
 v9:=Tryz.zeroValue9
 t22:=Tryz.underlying23
 a22:=Tryz.isAgg23
 z22:=Tryz.sizeOf23
 v22:=Tryz.zeroValue23
 t25:=Tryz.underlying130
 a25:=Tryz.isAgg130
 z25:=Tryz.sizeOf130
 v25:=Tryz.zeroValue130
 t39:=Tryz.underlying163
 a39:=Tryz.isAgg163
 z39:=Tryz.sizeOf163
 v39:=Tryz.zeroValue163
 t45:=Tryz.underlying232
 a45:=Tryz.isAgg232
 z45:=Tryz.sizeOf232
 v45:=Tryz.zeroValue232
 t46:=Tryz.underlying233
 a46:=Tryz.isAgg233
 z46:=Tryz.sizeOf233
 v46:=Tryz.zeroValue233
 t50:=Tryz.underlying237
 a50:=Tryz.isAgg237
 z50:=Tryz.sizeOf237
 v50:=Tryz.zeroValue237
 t53:=Tryz.underlying206
 a53:=Tryz.isAgg206
 z53:=Tryz.sizeOf206
 v53:=Tryz.zeroValue206
 t55:=Tryz.underlying181
 a55:=Tryz.isAgg181
 z55:=Tryz.sizeOf181
 v55:=Tryz.zeroValue181
 t66:=Tryz.underlying251
 a66:=Tryz.isAgg251
 z66:=Tryz.sizeOf251
 v66:=Tryz.zeroValue251
 t70:=Tryz.underlying104
 a70:=Tryz.isAgg104
 z70:=Tryz.sizeOf104
 v70:=Tryz.zeroValue104
 t76:=Tryz.underlying266
 a76:=Tryz.isAgg266
 z76:=Tryz.sizeOf266
 v76:=Tryz.zeroValue266
 t77:=Tryz.underlying186
 a77:=Tryz.isAgg186
 z77:=Tryz.sizeOf186
 v77:=Tryz.zeroValue186 }
end Go.Proofs
set_option maxRecDepth 100000
set_option linter.unusedVariables false
namespace Go.Proofs.YtamoeblcphjbaaaGreatDoor
open Go Go.Proofs Go.Shelf Go.RowKit Go.Lib Go.Sort
structure FldC where
 name:ByteArray
 c1:Value
 c2:Value
 c3:Value
 c4:Value
 c5:Value
 c6:Value
 one:c1.oneCell'=true∧c2.oneCell'=true∧c3.oneCell'=true∧c4.oneCell'=true∧c5.oneCell'=true∧c6.oneCell'=true
instance:Inhabited FldC:=⟨⟨.empty,.int .i64 0,.int .i64 0,.int .i64 0,.int .i64 0,.int .i64 0,.int .i64 0,by decide⟩⟩
def xb (x:FldC):List Value:=[.string x.name,x.c1,x.c2,x.c3,x.c4,x.c5,x.c6]
def QA (x y:FldC):Int:=Lib.compareBytes x.name.data.toList y.name.data.toList
set_option maxHeartbeats 2000000 in
theorem wz (x y:FldC)(W:World):Calls Tryz.prog 168 #[.agg (xb x).toArray,.agg (xb y).toArray] W fun e w'=>e = .returned (.int .i64 (QA x y))∧∃ q os',w'=grow (W.drewN q) os':=by
 obtain⟨s,a1,a2,a3,a4,a5,a6,ha⟩:=x
 obtain⟨t,b1,b2,b3,b4,b5,b6,hb⟩:=y
 have hcon:=fun W'=>Tryz.strings_Compare s t W'
 simp only[xb,QA]
 generalize Lib.compareBytes s.data.toList t.data.toList=r at hcon ⊢
 go_enter Tryz.func168,Tryz.ntmps168
 go_wp2_with (go_at_call 103;refine (hcon _).mono ?_;rintro e w' ⟨rfl,rfl⟩)
 go_ret
 exact⟨rfl,0,_,by rw[alloc_eq_grow,alloc_eq_grow,grow_grow];rfl⟩
end Go.Proofs.YtamoeblcphjbaaaGreatDoor
set_option linter.unusedSimpArgs false
namespace Go.Proofs.YtamoeblcphjbaaaGreatDoor
open Go Go.Ab Go.RowKit
def LA:Fld:=.mk [] (.mk 0 0 0 [] [] [])
def nmL (l:List Fld)(i:Nat):List UInt8:=(l.getD i LA).name
def cfL (l:List Fld)(i j:Nat):Int:=Lib.compareBytes (nmL l i) (nmL l j)
def ly (l:List Fld):Array Nat:=Sort.pdq (Go.Proofs.ltOf (cfL l)) (Array.range l.length) 0 (Array.range l.length).size (Lib.bitLen (Array.range l.length).size) true true
def srt (l:List Fld):List Fld:=(ly l).toList.map fun i=>l.getD i LA
theorem jM:∀ (a b c:List UInt8),Lib.compareBytes a b<0→Lib.compareBytes b c<0→Lib.compareBytes a c<0
 | [],b,[],h1,h2=>by
   cases b with
   | nil=>exact h2
   | cons x q=>simp[Lib.compareBytes] at h2
 | [],b,z::r,h1,h2=>by simp[Lib.compareBytes]
 | x::p,[],c,h1,h2=>by simp[Lib.compareBytes] at h1
 | x::p,y::q,[],h1,h2=>by simp[Lib.compareBytes] at h2
 | x::p,y::q,z::r,h1,h2=>by
   have ih:=jM p q r
   simp only[Lib.compareBytes,UInt8.lt_iff_toNat_lt] at *
   repeat' split at h1
   all_goals repeat' split at h2
   all_goals repeat' split
   all_goals first | omega | exact ih h1 h2 | (exfalso;omega)
theorem pK:∀ (a b c:List UInt8),¬ Lib.compareBytes a b<0→¬ Lib.compareBytes b c<0→¬ Lib.compareBytes a c<0
 | [],[],c,h1,h2=>h2
 | [],y::q,c,h1,h2=>by simp[Lib.compareBytes] at h1
 | x::p,b,[],h1,h2=>by simp[Lib.compareBytes]
 | x::p,[],z::r,h1,h2=>by simp[Lib.compareBytes] at h2
 | x::p,y::q,z::r,h1,h2=>by
   have ih:=pK p q r
   simp only[Lib.compareBytes,UInt8.lt_iff_toNat_lt] at *
   repeat' split at h1
   all_goals repeat' split at h2
   all_goals repeat' split
   all_goals first | omega | exact ih h1 h2 | (exfalso;omega)
theorem nx:∀ a:List UInt8,Lib.compareBytes a a=0
 | []=>rfl
 | x::p=>by
   have:=nx p
   simp only[Lib.compareBytes,UInt8.lt_iff_toNat_lt]
   rw[if_neg (by omega),if_neg (by omega)];exact this
theorem PB (l:List Fld):Sort.SWO (Go.Proofs.ltOf (cfL l)) where
 irrefl x:=decide_eq_false (by rw[cfL,nx];decide)
 trans x y z h1 h2:=decide_eq_true (jM _ _ _ (of_decide_eq_true h1) (of_decide_eq_true h2))
 ntrans x y z h1 h2:=decide_eq_false (pK _ _ _ (of_decide_eq_false h1) (of_decide_eq_false h2))
theorem kq (l:List Fld):(ly l).toList.Perm (List.range l.length):=by
 have h:=(Sort.pdq_sorts (Go.Proofs.ltOf (cfL l)) (PB l) (Array.range l.length) 0 (Array.range l.length).size (Lib.bitLen (Array.range l.length).size) true true (Nat.zero_le _) (Nat.le_refl _) (Or.inl rfl)).1
 obtain⟨h1,_,h3⟩:=h
 have e1:(ly l).size=(Array.range l.length).size:=h1
 have h4:((ly l).extract 0 (Array.range l.length).size).toList.Perm ((Array.range l.length).extract 0 (Array.range l.length).size).toList:=h3
 simp only[Array.size_range] at e1
 simp only[Array.size_range,Array.toList_extract,List.extract_eq_take_drop,List.drop_zero,Nat.sub_zero,Array.toList_range] at h4
 rw[List.take_of_length_le (by simp[e1]),List.take_of_length_le (by simp)] at h4
 exact h4
theorem qV (l:List Fld):Sort.SortedIn (Go.Proofs.ltOf (cfL l)) 0 (Array.range l.length).size (ly l):=
 (Sort.pdq_sorts (Go.Proofs.ltOf (cfL l)) (PB l) (Array.range l.length) 0 (Array.range l.length).size (Lib.bitLen (Array.range l.length).size) true true (Nat.zero_le _) (Nat.le_refl _) (Or.inl rfl)).2
theorem d6 (l:List Fld):(ly l).size=l.length:=by
 have:=(kq l).length_eq
 simpa using this
theorem ip (l:List Fld):(srt l).length=l.length:=by
 unfold srt;rw[List.length_map,Array.length_toList,d6]
theorem lz:∀ (l:List Fld),(List.range l.length).map (fun i=>l.getD i LA)=l:=by
 intro l
 apply List.ext_getElem
 ·simp
 ·intro i h1 h2
  simp[List.getD_eq_getElem?_getD,List.getElem?_eq_getElem h2]
theorem jx (l:List Fld):(srt l).Perm l:=by
 have:=(kq l).map fun i=>l.getD i LA
 rwa [lz] at this
theorem uQ (l:List Fld)(i j:Nat)(x y:Fld)(hij:i<j)(hx:(srt l)[i]? = some x)(hy:(srt l)[j]? = some y):¬ Lib.compareBytes y.name x.name<0:=by
 have hj:j<(ly l).size:=by
  have:=(List.getElem?_eq_some_iff.1 hy).1
  rw[ip] at this;rw[d6];exact this
 have hs:=qV l i j (Nat.zero_le _) hij (by simp;rw[← d6];exact hj)
 unfold srt at hx hy
 rw[List.getElem?_map,Option.map_eq_some_iff] at hx hy
 obtain⟨a,ha,rfl⟩:=hx
 obtain⟨b,hb,rfl⟩:=hy
 have ea:(ly l)[i]! = a:=by
  have:(ly l)[i]? = some a:=by simpa using ha
  rw[getElem!_def,this]
 have eb:(ly l)[j]! = b:=by
  have:(ly l)[j]? = some b:=by simpa using hb
  rw[getElem!_def,this]
 rw[ea,eb] at hs
 simpa[Go.Proofs.ltOf,cfL,nmL] using hs
end Go.Proofs.YtamoeblcphjbaaaGreatDoor
