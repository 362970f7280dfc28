/- A part of the proof for DelimitedJoinsCardSaid. -/
import Derived.Stop.LaidErr
import Derived.WalkKit
import Derived.Lib.LaidTab
import Derived.SevenTiedAt
import Derived.Test.YtbaaokocnegdoaaGreatDoorJoiV19
import Derived.Test.YtbaaokocnegdoaaGreatDoorJoiVT5M
import Derived.Test.YtbaaokocnegdoaaGreatDoorCards
import Derived.Test.YtbaaokocnegdoaaGreatDoorTie
set_option maxRecDepth 100000
set_option linter.unusedVariables false
set_option linter.unusedSimpArgs false
namespace Go.Proofs.YtbaaokocnegdoaaGreatDoor.delimitedJoinsDone
open Go Go.Ab Go.RowKit Go.ChangeShapes Go.WideShapes Go.ChangeAt
theorem own : ownKnob Tryz.prog.godebug = none := by kernel_rfl
theorem laidOut : laidOutB Tryz.prog = true := by kernel_rfl
theorem globs {W : World} (hS : W.ShapedOpen Tryz.prog) (h : laidMetH Tryz.prog Rows.delimitedJoinsRow.laid W) : ∃ m, GlobOk (tabM m) W (immOf W) := by
  have h' : laidMet Tryz.prog Rows.delimitedJoinsRow.laid W := h
  exact globs_ofM hS (Go.Lib.laidMet.reads h' (n := "internal/strconv.uint64pow10") (d := (Go.Lib.tabData .u64 Go.Lib.pow10Tab)) (by rw [show (Go.Lib.tabData .u64 Go.Lib.pow10Tab) = (Rows.laid_internal_strconv_uint64pow10 : DataW Unit) by kernel_rfl]; exact List.Mem.tail _ (List.Mem.tail _ (List.Mem.head _))))
theorem hpar : Tryz.f8.params = #[50, 3] := by kernel_rfl
theorem contract (H : Type) (enc : TypeId × Value → H) (W : World) (base : Nat) (args : Array Value) (ds gs : List (DataW H)) (before : List MemPlace)
    (hval : ∀ (j : Nat) t v, Tryz.f8.params[j]? = some t → args[j]? = some v → Value.okWide Tryz.prog W .any base t v)
    (hW : DataW.Whole enc Tryz.prog Tryz.f8.params.toList Rows.delimitedJoinsSpec.vars false W args.toList ds gs before) (hsz : (DataW.weightsEach Tryz.prog (Tryz.f8.params.toList ++ Rows.delimitedJoinsSpec.plain.varTypes Tryz.prog) (ds ++ gs)).all (· ≤ reachBytes) = true) (hL : laidMetH Tryz.prog Rows.delimitedJoinsRow.laid W) (hS : W.ShapedOpen Tryz.prog) :
    Calls Tryz.prog 8 args W fun e W' => ∃ v, e = .returned v ∧ Rows.delimitedJoinsSpec.post enc Tryz.prog Tryz.f8 false true false false W args v W' := by
  obtain ⟨m, hm⟩ := globs hS hL
  refine law_post (ts := [50, 66, 9, 4, 3]) (tb := 4) (G := tabM m) rfl laidOut (by decide +kernel) (by kernel_rfl) (by decide +kernel) (by kernel_rfl) (by kernel_rfl) ?_ hval hW hsz hm ?_
  · intro ds hd
    rw [hpar] at hd
    match ds, hd with
    | [d0, d1], _ => rfl
  · intro ps hp hT
    rw [hpar] at hp hT
    match ps, hp with
    | [p0, p1], _ =>
      exact joins_of m p0 p1 (hT 0 50 p0 rfl rfl) (hT 1 3 p1 rfl rfl)
def laidCells1 : DataW Unit → List Value
  | .lit (.int k n) => [Value.int k n]
  | .agg xs => xs.map fun x => match x with
    | .lit (.int k n) => Value.int k n
    | _ => Go.undef
  | _ => []
def laidCells : DataW Unit → Array Value
  | .agg xs => (xs.flatMap laidCells1).toArray
  | _ => #[]
def setTab (d : DataW Unit) : Obj → Obj
  | .cells _ t frozen => .cells (laidCells d) t frozen
  | o => o
def errBlk (d : DataW Unit) : Obj :=
  match d with
  | .iface _ (.ptr (.agg [.lit (.string bs)])) => .cells #[.string ⟨bs.toArray⟩] 278
  | _ => .cells #[] 278
def setErr (k : Nat) : Obj → Obj
  | .cells _ t frozen => .cells #[.iface 276 (.pointer (some ⟨k, 0, none⟩))] t frozen
  | o => o
noncomputable def laidWorld (os : Os) : World :=
  { World.holding Tryz.prog os ⟨#[], #[], []⟩ with heap := ((((((((((World.holding Tryz.prog os ⟨#[], #[], []⟩).heap.push (errBlk Rows.laid_strconv_ErrRange)).push (errBlk Rows.laid_strconv_ErrSyntax)).modify 6 (setTab Rows.laid_math_bits_deBruijn32tab)).modify 7 (setTab Rows.laid_math_bits_deBruijn64tab)).modify 5 (setTab Rows.laid_internal_strconv_uint64pow10)).modify 4 (setTab Rows.laid_unicode_utf8_acceptRanges)).modify 2 (setErr ((World.holding Tryz.prog os ⟨#[], #[], []⟩).heap.size + 0))).modify 1 (setErr ((World.holding Tryz.prog os ⟨#[], #[], []⟩).heap.size + 1))).modify 3 (setTab Rows.laid_unicode_utf8_first)) }
theorem laid_met (os : Os) : laidMet Tryz.prog Rows.delimitedJoinsRow.laid ((laidWorld os).forCall (fun _ _ => 0) ⟨#[], #[Value.slice none 0 0, .int .i64 0], []⟩).memory :=
  laidMet_of_run' 8 (by kernel_rfl) (by kernel_rfl)
theorem reads (os : Os) {H : Type} (enc : TypeId × Value → H) : ∃ places, DataW.whole enc Tryz.prog ((laidWorld os).forCall (fun _ _ => 0) ⟨#[], #[Value.slice none 0 0, .int .i64 0], []⟩).memory Tryz.f8.params.toList Rows.delimitedJoinsSpec.vars false (#[Value.slice none 0 0, .int .i64 0] : Array Value).toList 8 = some ([.nil, .lit (.int .i64 0)], [], places) :=
  ⟨[], by kernel_rfl⟩
theorem wInit : Tryz.checked.prog.inits.idxOf? 8 = none := by kernel_rfl
theorem wVars (os : Os) : World.variablesB Tryz.checked.prog ((laidWorld os).forCall (fun _ _ => 0) ⟨#[], #[Value.slice none 0 0, .int .i64 0], []⟩) = true := by kernel_rfl
theorem wRest (os : Os) : List.take ((begin Tryz.checked.prog (fun _ _ => 0) default).world.heap.size - Tryz.checked.prog.globals.size) (List.drop Tryz.checked.prog.globals.size ((laidWorld os).forCall (fun _ _ => 0) ⟨#[], #[Value.slice none 0 0, .int .i64 0], []⟩).heap.toList) = List.drop Tryz.checked.prog.globals.size (begin Tryz.checked.prog (fun _ _ => 0) default).world.heap.toList := by kernel_rfl
theorem wWide (os : Os) : Input.okWideB Tryz.checked.prog ((laidWorld os).forCall (fun _ _ => 0) ⟨#[], #[Value.slice none 0 0, .int .i64 0], []⟩) 8 ⟨#[], #[Value.slice none 0 0, .int .i64 0], []⟩ = true := by kernel_rfl
theorem lifted (os : Os) (started : os.Started) (H : Type) (enc : TypeId × Value → H) (F : Stop.Interp) :
    ReturnsInHanded {} Tryz.checked os 8 .any ((OpenSpec.ofChange Rows.delimitedJoinsSpec).preRow enc Tryz.prog Tryz.f8 Rows.delimitedJoinsRow.domain false Rows.delimitedJoinsRow.laid) (((OpenSpec.ofChange Rows.delimitedJoinsSpec).at F).post enc Tryz.prog Tryz.f8 false true false false) := by
  obtain ⟨places, hx⟩ := reads os enc
  refine returnsInHanded_of_row (C := Tryz.checked) (s := OpenSpec.ofChange Rows.delimitedJoinsSpec) own started wInit Tryz.func8
    (witness_row_at (enc := enc) (C := Tryz.checked) false (laidWorld os) #[Value.slice none 0 0, .int .i64 0] rfl (wVars os) (wRest os) (wWide os)
      (OpenSpec.preRow_of_cond 8 hx (by kernel_rfl) (fun k hk => by cases hk) (by kernel_rfl) (laid_met os))) ?_
  intro W base args ds gs before hval hW _ _ hsz hL hS _
  exact contract H enc W base args ds gs before hval hW hsz hL hS
end Go.Proofs.YtbaaokocnegdoaaGreatDoor.delimitedJoinsDone
