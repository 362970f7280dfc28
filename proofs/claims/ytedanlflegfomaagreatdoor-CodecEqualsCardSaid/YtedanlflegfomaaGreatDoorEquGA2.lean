/- A part of the proof for CodecEqualsCardSaid. -/
import Derived.Stop.LaidErr
import Derived.WalkKit
import Derived.Lib.LaidTab
import Derived.SevenTiedAt
import Derived.Test.YtedanlflegfomaaGreatDoorEquG3
import Derived.Test.YtedanlflegfomaaGreatDoorCards
import Derived.Test.YtedanlflegfomaaGreatDoorTie
set_option maxRecDepth 100000
set_option linter.unusedVariables false
set_option linter.unusedSimpArgs false
namespace Go.Proofs.YtedanlflegfomaaGreatDoor.codecEqualsDone
open Go Go.Ab Go.RowKit Go.ChangeShapes Go.WideShapes Go.ChangeAt
theorem own : ownKnob Tryz.prog.godebug = none := by kernel_rfl
theorem laidOut : laidOutB Tryz.prog = true := by kernel_rfl
theorem globs {W : World} (h : laidMetH Tryz.prog Rows.codecEqualsRow.laid W) : GlobOk tabG W (immOf W) := by
 have h' : laidMet Tryz.prog Rows.codecEqualsRow.laid W := h
 exact globs_of (Go.Lib.laidMet.reads h' (n := "unicode/utf8.first") (d := Go.Lib.firstData) (by rw [show Go.Lib.firstData = (Rows.laid_unicode_utf8_first : DataW Unit) by kernel_rfl]; exact List.Mem.tail _ (List.Mem.tail _ (List.Mem.tail _ (List.Mem.tail _ (List.Mem.head _))))))
  (Go.Lib.laidMet.reads h' (n := "unicode/utf8.acceptRanges") (d := Go.Lib.acceptData) (by rw [show Go.Lib.acceptData = (Rows.laid_unicode_utf8_acceptRanges : DataW Unit) by kernel_rfl]; exact List.Mem.tail _ (List.Mem.tail _ (List.Mem.tail _ (List.Mem.head _)))))
  (Go.Lib.laidMet.reads h' (n := "internal/strconv.uint64pow10") (d := (Go.Lib.tabData .u64 Go.Lib.pow10Tab)) (by rw [show (Go.Lib.tabData .u64 Go.Lib.pow10Tab) = (Rows.laid_internal_strconv_uint64pow10 : DataW Unit) by kernel_rfl]; exact List.Mem.tail _ (List.Mem.tail _ (List.Mem.head _))))
theorem hpar : Tryz.f6.params = #[56, 56] := by kernel_rfl
theorem contract (H : Type) (enc : TypeId × Value → H) (W : World) (base : Nat) (args : Array Value) (ds gs : List (DataW H)) (before : List MemPlace)
  (hval : ∀ (j : Nat) t v, Tryz.f6.params[j]? = some t → args[j]? = some v → Value.okWide Tryz.prog W .any base t v)
  (hW : DataW.Whole enc Tryz.prog Tryz.f6.params.toList Rows.codecEqualsSpec.vars false W args.toList ds gs before) (hsz : (DataW.weightsEach Tryz.prog (Tryz.f6.params.toList ++ Rows.codecEqualsSpec.plain.varTypes Tryz.prog) (ds ++ gs)).all (· ≤ reachBytes) = true) (hL : laidMetH Tryz.prog Rows.codecEqualsRow.laid W) :
  Calls Tryz.prog 6 args W fun e W' => ∃ v, e = .returned v ∧ Rows.codecEqualsSpec.post enc Tryz.prog Tryz.f6 false true false false W args v W' := by
 refine law_post (ts := [56, 3, 38, 4]) (tb := 4) (G := tabG) rfl laidOut (by decide +kernel) (by kernel_rfl) (by decide +kernel) (by kernel_rfl) (by kernel_rfl) ?_ hval hW hsz (globs hL) ?_
 ·intro ds hd
  rw [hpar] at hd
  match ds, hd with
  | [d0, d1], _ => rfl
 ·intro ps hp hT
  rw [hpar] at hp hT
  match ps, hp with
  | [p0, p1], _ =>
    exact equals_of p0 p1 (hT 0 56 p0 rfl rfl) (hT 1 56 p1 rfl rfl)
def laidCells1 : DataW Unit → List Value
 | .lit (.int k n) => [Value.int k n]
 | .agg xs => xs.map fun x => match x with
   | .lit (.int k n) => Value.int k n
   | _ => Go.undef
 | _ => []
def laidCells : DataW Unit → Array Value
 | .agg xs => (xs.flatMap laidCells1).toArray
 | _ => #[]
def setTab (d : DataW Unit) : Obj → Obj
 | .cells _ t frozen => .cells (laidCells d) t frozen
 | o => o
noncomputable def laidWorld (os : Os) : World :=
 { World.holding Tryz.prog os ⟨#[], #[], []⟩ with heap := ((((((World.holding Tryz.prog os ⟨#[], #[], []⟩).heap.modify 6 (setTab Rows.laid_math_bits_deBruijn32tab)).modify 7 (setTab Rows.laid_math_bits_deBruijn64tab)).modify 3 (setTab Rows.laid_internal_strconv_uint64pow10)).modify 2 (setTab Rows.laid_unicode_utf8_acceptRanges)).modify 1 (setTab Rows.laid_unicode_utf8_first)) }
theorem laid_met (os : Os) : laidMet Tryz.prog Rows.codecEqualsRow.laid ((laidWorld os).forCall (fun _ _ => 0) ⟨#[], #[.agg #[.int .i64 0, .int .i64 0, .slice none 0 0], .agg #[.int .i64 0, .int .i64 0, .slice none 0 0]], []⟩).memory :=
 laidMet_of_run' 8 (by kernel_rfl) (by kernel_rfl)
theorem reads (os : Os) {H : Type} (enc : TypeId × Value → H) : ∃ places, DataW.whole enc Tryz.prog ((laidWorld os).forCall (fun _ _ => 0) ⟨#[], #[.agg #[.int .i64 0, .int .i64 0, .slice none 0 0], .agg #[.int .i64 0, .int .i64 0, .slice none 0 0]], []⟩).memory Tryz.f6.params.toList Rows.codecEqualsSpec.vars false (#[.agg #[.int .i64 0, .int .i64 0, .slice none 0 0], .agg #[.int .i64 0, .int .i64 0, .slice none 0 0]] : Array Value).toList 8 = some ([.agg [.lit (.int .i64 0), .lit (.int .i64 0), .nil], .agg [.lit (.int .i64 0), .lit (.int .i64 0), .nil]], [], places) :=
 ⟨[], by kernel_rfl⟩
theorem wInit : Tryz.checked.prog.inits.idxOf? 6 = none := by kernel_rfl
theorem wVars (os : Os) : World.variablesB Tryz.checked.prog ((laidWorld os).forCall (fun _ _ => 0) ⟨#[], #[.agg #[.int .i64 0, .int .i64 0, .slice none 0 0], .agg #[.int .i64 0, .int .i64 0, .slice none 0 0]], []⟩) = true := by kernel_rfl
theorem wRest (os : Os) : List.take ((begin Tryz.checked.prog (fun _ _ => 0) default).world.heap.size - Tryz.checked.prog.globals.size) (List.drop Tryz.checked.prog.globals.size ((laidWorld os).forCall (fun _ _ => 0) ⟨#[], #[.agg #[.int .i64 0, .int .i64 0, .slice none 0 0], .agg #[.int .i64 0, .int .i64 0, .slice none 0 0]], []⟩).heap.toList) = List.drop Tryz.checked.prog.globals.size (begin Tryz.checked.prog (fun _ _ => 0) default).world.heap.toList := by kernel_rfl
theorem wWide (os : Os) : Input.okWideB Tryz.checked.prog ((laidWorld os).forCall (fun _ _ => 0) ⟨#[], #[.agg #[.int .i64 0, .int .i64 0, .slice none 0 0], .agg #[.int .i64 0, .int .i64 0, .slice none 0 0]], []⟩) 6 ⟨#[], #[.agg #[.int .i64 0, .int .i64 0, .slice none 0 0], .agg #[.int .i64 0, .int .i64 0, .slice none 0 0]], []⟩ = true := by kernel_rfl
theorem lifted (os : Os) (started : os.Started) (H : Type) (enc : TypeId × Value → H) (F : Stop.Interp) :
  ReturnsInHanded {} Tryz.checked os 6 .any ((OpenSpec.ofChange Rows.codecEqualsSpec).preRow enc Tryz.prog Tryz.f6 Rows.codecEqualsRow.domain false Rows.codecEqualsRow.laid) (((OpenSpec.ofChange Rows.codecEqualsSpec).at F).post enc Tryz.prog Tryz.f6 false true false false) := by
 obtain ⟨places, hx⟩ := reads os enc
 refine returnsInHanded_of_row (C := Tryz.checked) (s := OpenSpec.ofChange Rows.codecEqualsSpec) own started wInit Tryz.func6
  (witness_row_at (enc := enc) (C := Tryz.checked) false (laidWorld os) #[.agg #[.int .i64 0, .int .i64 0, .slice none 0 0], .agg #[.int .i64 0, .int .i64 0, .slice none 0 0]] rfl (wVars os) (wRest os) (wWide os)
   (OpenSpec.preRow_of_cond 8 hx (by kernel_rfl) (fun k hk => by cases hk) (by kernel_rfl) (laid_met os))) ?_
 intro W base args ds gs before hval hW _ _ hsz hL _ _
 exact contract H enc W base args ds gs before hval hW hsz hL
end Go.Proofs.YtedanlflegfomaaGreatDoor.codecEqualsDone
