/- A part of the proof for FixedwidthCellsCardSaid. -/
import Derived.Stop.LaidErr
import Derived.WalkKit
import Derived.Lib.LaidTab
import Derived.SevenTiedAt
import Derived.Test.YtedanlflegfomaaGreatDoorCelGK12
import Derived.Test.YtedanlflegfomaaGreatDoorCards
import Derived.Test.YtedanlflegfomaaGreatDoorTie
set_option maxRecDepth 100000
set_option linter.unusedVariables false
set_option linter.unusedSimpArgs false
namespace Go.Proofs.YtedanlflegfomaaGreatDoor.fixedwidthCellsDone
open Go Go.Ab Go.RowKit Go.ChangeShapes Go.WideShapes Go.ChangeAt
theorem own : ownKnob Tryz.prog.godebug = none := by kernel_rfl
theorem laidOut : laidOutB Tryz.prog = true := by kernel_rfl
theorem globs {W : World} (h : laidMetH Tryz.prog Rows.fixedwidthCellsRow.laid W) : GlobOk tabG W (immOf W) := by
 have h' : laidMet Tryz.prog Rows.fixedwidthCellsRow.laid W := h
 exact globs_of (Go.Lib.laidMet.reads h' (n := "unicode/utf8.first") (d := Go.Lib.firstData) (by rw [show Go.Lib.firstData = (Rows.laid_unicode_utf8_first : DataW Unit) by kernel_rfl]; exact List.Mem.tail _ (List.Mem.tail _ (List.Mem.tail _ (List.Mem.tail _ (List.Mem.tail _ (List.Mem.tail _ (List.Mem.head _))))))))
  (Go.Lib.laidMet.reads h' (n := "unicode/utf8.acceptRanges") (d := Go.Lib.acceptData) (by rw [show Go.Lib.acceptData = (Rows.laid_unicode_utf8_acceptRanges : DataW Unit) by kernel_rfl]; exact List.Mem.tail _ (List.Mem.tail _ (List.Mem.tail _ (List.Mem.head _)))))
  (Go.Lib.laidMet.reads h' (n := "internal/strconv.uint64pow10") (d := (Go.Lib.tabData .u64 Go.Lib.pow10Tab)) (by rw [show (Go.Lib.tabData .u64 Go.Lib.pow10Tab) = (Rows.laid_internal_strconv_uint64pow10 : DataW Unit) by kernel_rfl]; exact List.Mem.tail _ (List.Mem.tail _ (List.Mem.head _))))
theorem hpar : Tryz.f4.params = #[9, 38] := by kernel_rfl
theorem contract (H : Type) (enc : TypeId × Value → H) (W : World) (base : Nat) (args : Array Value) (ds gs : List (DataW H)) (before : List MemPlace)
  (hval : ∀ (j : Nat) t v, Tryz.f4.params[j]? = some t → args[j]? = some v → Value.okWide Tryz.prog W .any base t v)
  (hW : DataW.Whole enc Tryz.prog Tryz.f4.params.toList Rows.fixedwidthCellsSpec.vars false W args.toList ds gs before) (hsz : (DataW.weightsEach Tryz.prog (Tryz.f4.params.toList ++ Rows.fixedwidthCellsSpec.plain.varTypes Tryz.prog) (ds ++ gs)).all (· ≤ reachBytes) = true) (hL : laidMetH Tryz.prog Rows.fixedwidthCellsRow.laid W) :
  Calls Tryz.prog 4 args W fun e W' => ∃ v, e = .returned v ∧ Rows.fixedwidthCellsSpec.post enc Tryz.prog Tryz.f4 false true false false W args v W' := by
 refine law_post (ts := [9, 38, 3, 4]) (tb := 4) (G := tabG) rfl laidOut (by decide +kernel) (by kernel_rfl) (by decide +kernel) (by kernel_rfl) (by kernel_rfl) ?_ hval hW hsz (globs hL) ?_
 ·intro ds hd
  rw [hpar] at hd
  match ds, hd with
  | [d0, d1], _ => rfl
 ·intro ps hp hT
  rw [hpar] at hp hT
  match ps, hp with
  | [p0, p1], _ =>
    exact cells_of p0 p1 (hT 0 9 p0 rfl rfl) (hT 1 38 p1 rfl rfl)
def laidCells1 : DataW Unit → List Value
 | .lit (.int k n) => [Value.int k n]
 | .agg xs => xs.map fun x => match x with
   | .lit (.int k n) => Value.int k n
   | _ => Go.undef
 | _ => []
def laidCells : DataW Unit → Array Value
 | .agg xs => (xs.flatMap laidCells1).toArray
 | _ => #[]
def setTab (d : DataW Unit) : Obj → Obj
 | .cells _ t frozen => .cells (laidCells d) t frozen
 | o => o
def errBlk (d : DataW Unit) : Obj :=
 match d with
 | .iface _ (.ptr (.agg [.lit (.string bs)])) => .cells #[.string ⟨bs.toArray⟩] 291
 | _ => .cells #[] 291
def setErr (k : Nat) : Obj → Obj
 | .cells _ t frozen => .cells #[.iface 289 (.pointer (some ⟨k, 0, none⟩))] t frozen
 | o => o
noncomputable def laidWorld (os : Os) : World :=
 { World.holding Tryz.prog os ⟨#[], #[], []⟩ with heap := ((((((((((World.holding Tryz.prog os ⟨#[], #[], []⟩).heap.push (errBlk Rows.laid_strconv_ErrRange)).push (errBlk Rows.laid_strconv_ErrSyntax)).modify 6 (setTab Rows.laid_math_bits_deBruijn32tab)).modify 7 (setTab Rows.laid_math_bits_deBruijn64tab)).modify 3 (setTab Rows.laid_internal_strconv_uint64pow10)).modify 2 (setTab Rows.laid_unicode_utf8_acceptRanges)).modify 5 (setErr ((World.holding Tryz.prog os ⟨#[], #[], []⟩).heap.size + 0))).modify 4 (setErr ((World.holding Tryz.prog os ⟨#[], #[], []⟩).heap.size + 1))).modify 1 (setTab Rows.laid_unicode_utf8_first)) }
theorem laid_met (os : Os) : laidMet Tryz.prog Rows.fixedwidthCellsRow.laid ((laidWorld os).forCall (fun _ _ => 0) ⟨#[], #[.string ⟨#[]⟩, .slice none 0 0], []⟩).memory :=
 laidMet_of_run' 8 (by kernel_rfl) (by kernel_rfl)
theorem reads (os : Os) {H : Type} (enc : TypeId × Value → H) : ∃ places, DataW.whole enc Tryz.prog ((laidWorld os).forCall (fun _ _ => 0) ⟨#[], #[.string ⟨#[]⟩, .slice none 0 0], []⟩).memory Tryz.f4.params.toList Rows.fixedwidthCellsSpec.vars false (#[.string ⟨#[]⟩, .slice none 0 0] : Array Value).toList 8 = some ([.lit (.string []), .nil], [], places) :=
 ⟨[], by kernel_rfl⟩
theorem wInit : Tryz.checked.prog.inits.idxOf? 4 = none := by kernel_rfl
theorem wVars (os : Os) : World.variablesB Tryz.checked.prog ((laidWorld os).forCall (fun _ _ => 0) ⟨#[], #[.string ⟨#[]⟩, .slice none 0 0], []⟩) = true := by kernel_rfl
theorem wRest (os : Os) : List.take ((begin Tryz.checked.prog (fun _ _ => 0) default).world.heap.size - Tryz.checked.prog.globals.size) (List.drop Tryz.checked.prog.globals.size ((laidWorld os).forCall (fun _ _ => 0) ⟨#[], #[.string ⟨#[]⟩, .slice none 0 0], []⟩).heap.toList) = List.drop Tryz.checked.prog.globals.size (begin Tryz.checked.prog (fun _ _ => 0) default).world.heap.toList := by kernel_rfl
theorem wWide (os : Os) : Input.okWideB Tryz.checked.prog ((laidWorld os).forCall (fun _ _ => 0) ⟨#[], #[.string ⟨#[]⟩, .slice none 0 0], []⟩) 4 ⟨#[], #[.string ⟨#[]⟩, .slice none 0 0], []⟩ = true := by kernel_rfl
theorem lifted (os : Os) (started : os.Started) (H : Type) (enc : TypeId × Value → H) (F : Stop.Interp) :
  ReturnsInHanded {} Tryz.checked os 4 .any ((OpenSpec.ofChange Rows.fixedwidthCellsSpec).preRow enc Tryz.prog Tryz.f4 Rows.fixedwidthCellsRow.domain false Rows.fixedwidthCellsRow.laid) (((OpenSpec.ofChange Rows.fixedwidthCellsSpec).at F).post enc Tryz.prog Tryz.f4 false true false false) := by
 obtain ⟨places, hx⟩ := reads os enc
 refine returnsInHanded_of_row (C := Tryz.checked) (s := OpenSpec.ofChange Rows.fixedwidthCellsSpec) own started wInit Tryz.func4
  (witness_row_at (enc := enc) (C := Tryz.checked) false (laidWorld os) #[.string ⟨#[]⟩, .slice none 0 0] rfl (wVars os) (wRest os) (wWide os)
   (OpenSpec.preRow_of_cond 8 hx (by kernel_rfl) (fun k hk => by cases hk) (by kernel_rfl) (laid_met os))) ?_
 intro W base args ds gs before hval hW _ _ hsz hL _ _
 exact contract H enc W base args ds gs before hval hW hsz hL
end Go.Proofs.YtedanlflegfomaaGreatDoor.fixedwidthCellsDone
