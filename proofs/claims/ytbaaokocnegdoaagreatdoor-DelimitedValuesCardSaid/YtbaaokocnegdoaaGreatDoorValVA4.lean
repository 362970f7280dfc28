/- A part of the proof for DelimitedValuesCardSaid. -/
import Derived.Stop.LaidErr
import Derived.WalkKit
import Derived.Lib.LaidTab
import Derived.SevenTiedAt
import Derived.Test.YtbaaokocnegdoaaGreatDoorValWE
import Derived.Test.YtbaaokocnegdoaaGreatDoorValVT5E
import Derived.Test.YtbaaokocnegdoaaGreatDoorCards
import Derived.Test.YtbaaokocnegdoaaGreatDoorTie
set_option maxRecDepth 100000
set_option linter.unusedVariables false
set_option linter.unusedSimpArgs false
namespace Go.Proofs.YtbaaokocnegdoaaGreatDoor.delimitedValuesDone
open Go Go.Ab Go.RowKit Go.ChangeShapes Go.WideShapes Go.ChangeAt
theorem own : ownKnob Tryz.prog.godebug = none := by kernel_rfl
theorem laidOut : laidOutB Tryz.prog = true := by kernel_rfl
theorem globs {W : World} (h : laidMetH Tryz.prog Rows.delimitedValuesRow.laid W) : ∃ p, GlobOk (tabE 276 p) W (immOf W) := by
 have h' : laidMet Tryz.prog Rows.delimitedValuesRow.laid W := h
 obtain ⟨a, s, e1, e2, _⟩ := errVar (((((h'.tail).tail).tail).tail).tail)
 exact globs_ofE (Go.Lib.laidMet.reads h' (n := "unicode/utf8.first") (d := Go.Lib.firstData) (by rw [show Go.Lib.firstData = (Rows.laid_unicode_utf8_first : DataW Unit) by kernel_rfl]; exact List.Mem.tail _ (List.Mem.tail _ (List.Mem.tail _ (List.Mem.tail _ (List.Mem.tail _ (List.Mem.tail _ (List.Mem.head _))))))))
  (Go.Lib.laidMet.reads h' (n := "unicode/utf8.acceptRanges") (d := Go.Lib.acceptData) (by rw [show Go.Lib.acceptData = (Rows.laid_unicode_utf8_acceptRanges : DataW Unit) by kernel_rfl]; exact List.Mem.tail _ (List.Mem.tail _ (List.Mem.tail _ (List.Mem.head _)))))
  (Go.Lib.laidMet.reads h' (n := "internal/strconv.uint64pow10") (d := (Go.Lib.tabData .u64 Go.Lib.pow10Tab)) (by rw [show (Go.Lib.tabData .u64 Go.Lib.pow10Tab) = (Rows.laid_internal_strconv_uint64pow10 : DataW Unit) by kernel_rfl]; exact List.Mem.tail _ (List.Mem.tail _ (List.Mem.head _))))
  ⟨a, s, e1, e2⟩
theorem hpar : Tryz.f3.params = #[26, 9] := by kernel_rfl
theorem contract (H : Type) (enc : TypeId × Value → H) (W : World) (base : Nat) (args : Array Value) (ds gs : List (DataW H)) (before : List MemPlace)
  (hval : ∀ (j : Nat) t v, Tryz.f3.params[j]? = some t → args[j]? = some v → Value.okWide Tryz.prog W .any base t v)
  (hW : DataW.Whole enc Tryz.prog Tryz.f3.params.toList Rows.delimitedValuesSpec.vars false W args.toList ds gs before) (hsz : (DataW.weightsEach Tryz.prog (Tryz.f3.params.toList ++ Rows.delimitedValuesSpec.plain.varTypes Tryz.prog) (ds ++ gs)).all (· ≤ reachBytes) = true) (hL : laidMetH Tryz.prog Rows.delimitedValuesRow.laid W) :
  Calls Tryz.prog 3 args W fun e W' => ∃ v, e = .returned v ∧ Rows.delimitedValuesSpec.post enc Tryz.prog Tryz.f3 false true false false W args v W' := by
 obtain ⟨p, hp0⟩ := globs hL
 refine law_post (ts := [26, 3, 22, 9, 23, 24, 98, 28, 31, 29, 83, 4]) (tb := 4) (G := tabE 276 p) rfl laidOut (by decide +kernel) (by kernel_rfl) (by decide +kernel) (by kernel_rfl) (by kernel_rfl) ?_ hval hW hsz hp0 ?_
 ·intro ds hd
  rw [hpar] at hd
  match ds, hd with
  | [d0, d1], _ => rfl
 ·intro ps hp hT
  rw [hpar] at hp hT
  match ps, hp with
  | [p0, p1], _ =>
    exact values_of p p0 p1 (hT 0 26 p0 rfl rfl) (hT 1 9 p1 rfl rfl)
def laidCells1 : DataW Unit → List Value
 | .lit (.int k n) => [Value.int k n]
 | .agg xs => xs.map fun x => match x with
   | .lit (.int k n) => Value.int k n
   | _ => Go.undef
 | _ => []
def laidCells : DataW Unit → Array Value
 | .agg xs => (xs.flatMap laidCells1).toArray
 | _ => #[]
def setTab (d : DataW Unit) : Obj → Obj
 | .cells _ t frozen => .cells (laidCells d) t frozen
 | o => o
def errBlk (d : DataW Unit) : Obj :=
 match d with
 | .iface _ (.ptr (.agg [.lit (.string bs)])) => .cells #[.string ⟨bs.toArray⟩] 278
 | _ => .cells #[] 278
def setErr (k : Nat) : Obj → Obj
 | .cells _ t frozen => .cells #[.iface 276 (.pointer (some ⟨k, 0, none⟩))] t frozen
 | o => o
noncomputable def laidWorld (os : Os) : World :=
 { World.holding Tryz.prog os ⟨#[], #[], []⟩ with heap := ((((((((((World.holding Tryz.prog os ⟨#[], #[], []⟩).heap.push (errBlk Rows.laid_strconv_ErrRange)).push (errBlk Rows.laid_strconv_ErrSyntax)).modify 6 (setTab Rows.laid_math_bits_deBruijn32tab)).modify 7 (setTab Rows.laid_math_bits_deBruijn64tab)).modify 5 (setTab Rows.laid_internal_strconv_uint64pow10)).modify 4 (setTab Rows.laid_unicode_utf8_acceptRanges)).modify 2 (setErr ((World.holding Tryz.prog os ⟨#[], #[], []⟩).heap.size + 0))).modify 1 (setErr ((World.holding Tryz.prog os ⟨#[], #[], []⟩).heap.size + 1))).modify 3 (setTab Rows.laid_unicode_utf8_first)) }
theorem laid_met (os : Os) : laidMet Tryz.prog Rows.delimitedValuesRow.laid ((laidWorld os).forCall (fun _ _ => 0) ⟨#[], #[.agg #[.int .i64 0, .int .i64 0, .int .i64 0, .int .i64 0, .slice none 0 0, .slice none 0 0, .slice none 0 0], .string ⟨#[]⟩], []⟩).memory :=
 laidMet_of_run' 8 (by kernel_rfl) (by kernel_rfl)
theorem reads (os : Os) {H : Type} (enc : TypeId × Value → H) : ∃ places, DataW.whole enc Tryz.prog ((laidWorld os).forCall (fun _ _ => 0) ⟨#[], #[.agg #[.int .i64 0, .int .i64 0, .int .i64 0, .int .i64 0, .slice none 0 0, .slice none 0 0, .slice none 0 0], .string ⟨#[]⟩], []⟩).memory Tryz.f3.params.toList Rows.delimitedValuesSpec.vars false (#[.agg #[.int .i64 0, .int .i64 0, .int .i64 0, .int .i64 0, .slice none 0 0, .slice none 0 0, .slice none 0 0], .string ⟨#[]⟩] : Array Value).toList 8 = some ([.agg [.lit (.int .i64 0), .lit (.int .i64 0), .lit (.int .i64 0), .lit (.int .i64 0), .nil, .nil, .nil], .lit (.string [])], [], places) :=
 ⟨[], by kernel_rfl⟩
theorem wInit : Tryz.checked.prog.inits.idxOf? 3 = none := by kernel_rfl
theorem wVars (os : Os) : World.variablesB Tryz.checked.prog ((laidWorld os).forCall (fun _ _ => 0) ⟨#[], #[.agg #[.int .i64 0, .int .i64 0, .int .i64 0, .int .i64 0, .slice none 0 0, .slice none 0 0, .slice none 0 0], .string ⟨#[]⟩], []⟩) = true := by kernel_rfl
theorem wRest (os : Os) : List.take ((begin Tryz.checked.prog (fun _ _ => 0) default).world.heap.size - Tryz.checked.prog.globals.size) (List.drop Tryz.checked.prog.globals.size ((laidWorld os).forCall (fun _ _ => 0) ⟨#[], #[.agg #[.int .i64 0, .int .i64 0, .int .i64 0, .int .i64 0, .slice none 0 0, .slice none 0 0, .slice none 0 0], .string ⟨#[]⟩], []⟩).heap.toList) = List.drop Tryz.checked.prog.globals.size (begin Tryz.checked.prog (fun _ _ => 0) default).world.heap.toList := by kernel_rfl
theorem wWide (os : Os) : Input.okWideB Tryz.checked.prog ((laidWorld os).forCall (fun _ _ => 0) ⟨#[], #[.agg #[.int .i64 0, .int .i64 0, .int .i64 0, .int .i64 0, .slice none 0 0, .slice none 0 0, .slice none 0 0], .string ⟨#[]⟩], []⟩) 3 ⟨#[], #[.agg #[.int .i64 0, .int .i64 0, .int .i64 0, .int .i64 0, .slice none 0 0, .slice none 0 0, .slice none 0 0], .string ⟨#[]⟩], []⟩ = true := by kernel_rfl
theorem lifted (os : Os) (started : os.Started) (H : Type) (enc : TypeId × Value → H) (F : Stop.Interp) :
  ReturnsInHanded {} Tryz.checked os 3 .any ((OpenSpec.ofChange Rows.delimitedValuesSpec).preRow enc Tryz.prog Tryz.f3 Rows.delimitedValuesRow.domain false Rows.delimitedValuesRow.laid) (((OpenSpec.ofChange Rows.delimitedValuesSpec).at F).post enc Tryz.prog Tryz.f3 false true false false) := by
 obtain ⟨places, hx⟩ := reads os enc
 refine returnsInHanded_of_row (C := Tryz.checked) (s := OpenSpec.ofChange Rows.delimitedValuesSpec) own started wInit Tryz.func3
  (witness_row_at (enc := enc) (C := Tryz.checked) false (laidWorld os) #[.agg #[.int .i64 0, .int .i64 0, .int .i64 0, .int .i64 0, .slice none 0 0, .slice none 0 0, .slice none 0 0], .string ⟨#[]⟩] rfl (wVars os) (wRest os) (wWide os)
   (OpenSpec.preRow_of_cond 8 hx (by kernel_rfl) (fun k hk => by cases hk) (by kernel_rfl) (laid_met os))) ?_
 intro W base args ds gs before hval hW _ _ hsz hL _ _
 exact contract H enc W base args ds gs before hval hW hsz hL
end Go.Proofs.YtbaaokocnegdoaaGreatDoor.delimitedValuesDone
