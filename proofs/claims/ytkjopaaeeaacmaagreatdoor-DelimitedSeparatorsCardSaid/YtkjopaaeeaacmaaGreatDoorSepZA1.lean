/- IsSeparator agrees with the definition for any number. -/
import Derived.Stop.LaidErr
import Derived.WalkKit
import Derived.Lib.LaidTab
import Derived.SevenTiedAt
import Derived.Test.YtkjopaaeeaacmaaGreatDoorSepZ1
import Derived.Test.YtkjopaaeeaacmaaGreatDoorSepZT5
import Derived.Test.YtkjopaaeeaacmaaGreatDoorCards
import Derived.Test.YtkjopaaeeaacmaaGreatDoorTie
set_option maxRecDepth 100000
set_option linter.unusedVariables false
set_option linter.unusedSimpArgs false
namespace Go.Proofs.YtkjopaaeeaacmaaGreatDoor.delimitedSeparatorsDone
open Go Go.Ab Go.RowKit Go.ChangeShapes Go.WideShapes Go.ChangeAt
theorem own : ownKnob Tryz.prog.godebug = none := by kernel_rfl
theorem laidOut : laidOutB Tryz.prog = true := by kernel_rfl
theorem globs {W : World} (h : laidMetH Tryz.prog Rows.delimitedSeparatorsRow.laid W) : GlobOk tabG W (immOf W) := by
  have h' : laidMet Tryz.prog Rows.delimitedSeparatorsRow.laid W := h
  exact globs_of (Go.Lib.laidMet.reads h' (n := "internal/strconv.uint64pow10") (d := (Go.Lib.tabData .u64 Go.Lib.pow10Tab)) (by rw [show (Go.Lib.tabData .u64 Go.Lib.pow10Tab) = (Rows.laid_internal_strconv_uint64pow10 : DataW Unit) by kernel_rfl]; exact List.Mem.tail _ (List.Mem.tail _ (List.Mem.head _))))
theorem hpar : Tryz.f3.params = #[3] := by kernel_rfl
theorem contract (H : Type) (enc : TypeId × Value → H) (W : World) (base : Nat) (args : Array Value) (ds gs : List (DataW H)) (before : List MemPlace)
    (hval : ∀ (j : Nat) t v, Tryz.f3.params[j]? = some t → args[j]? = some v → Value.okWide Tryz.prog W .any base t v)
    (hW : DataW.Whole enc Tryz.prog Tryz.f3.params.toList Rows.delimitedSeparatorsSpec.vars false W args.toList ds gs before) (hsz : (DataW.weightsEach Tryz.prog (Tryz.f3.params.toList ++ Rows.delimitedSeparatorsSpec.plain.varTypes Tryz.prog) (ds ++ gs)).all (· ≤ reachBytes) = true) (hL : laidMetH Tryz.prog Rows.delimitedSeparatorsRow.laid W) :
    Calls Tryz.prog 3 args W fun e W' => ∃ v, e = .returned v ∧ Rows.delimitedSeparatorsSpec.post enc Tryz.prog Tryz.f3 false true false false W args v W' := by
  refine law_post (ts := [3, 4]) (tb := 4) (G := tabG) rfl laidOut (by decide +kernel) (by kernel_rfl) (by decide +kernel) (by kernel_rfl) (by kernel_rfl) ?_ hval hW hsz (globs hL) ?_
  · intro ds hd
    rw [hpar] at hd
    match ds, hd with
    | [d0], _ => rfl
  · intro ps hp hT
    rw [hpar] at hp hT
    match ps, hp with
    | [p0], _ =>
      exact separators_of p0 (hT 0 3 p0 rfl rfl)
def laidCells1 : DataW Unit → List Value
  | .lit (.int k n) => [Value.int k n]
  | .agg xs => xs.map fun x => match x with
    | .lit (.int k n) => Value.int k n
    | _ => Go.undef
  | _ => []
def laidCells : DataW Unit → Array Value
  | .agg xs => (xs.flatMap laidCells1).toArray
  | _ => #[]
def setTab (d : DataW Unit) : Obj → Obj
  | .cells _ t frozen => .cells (laidCells d) t frozen
  | o => o
def errBlk (d : DataW Unit) : Obj :=
  match d with
  | .iface _ (.ptr (.agg [.lit (.string bs)])) => .cells #[.string ⟨bs.toArray⟩] 243
  | _ => .cells #[] 243
def setErr (k : Nat) : Obj → Obj
  | .cells _ t frozen => .cells #[.iface 241 (.pointer (some ⟨k, 0, none⟩))] t frozen
  | o => o
noncomputable def laidWorld (os : Os) : World :=
  { World.holding Tryz.prog os ⟨#[], #[], []⟩ with heap := ((((((((((World.holding Tryz.prog os ⟨#[], #[], []⟩).heap.push (errBlk Rows.laid_strconv_ErrRange)).push (errBlk Rows.laid_strconv_ErrSyntax)).modify 6 (setTab Rows.laid_math_bits_deBruijn32tab)).modify 7 (setTab Rows.laid_math_bits_deBruijn64tab)).modify 5 (setTab Rows.laid_internal_strconv_uint64pow10)).modify 2 (setTab Rows.laid_unicode_utf8_acceptRanges)).modify 4 (setErr ((World.holding Tryz.prog os ⟨#[], #[], []⟩).heap.size + 0))).modify 3 (setErr ((World.holding Tryz.prog os ⟨#[], #[], []⟩).heap.size + 1))).modify 1 (setTab Rows.laid_unicode_utf8_first)) }
theorem laid_met (os : Os) : laidMet Tryz.prog Rows.delimitedSeparatorsRow.laid ((laidWorld os).forCall (fun _ _ => 0) ⟨#[], #[.int .i64 0], []⟩).memory :=
  laidMet_of_run' 8 (by kernel_rfl) (by kernel_rfl)
theorem reads (os : Os) {H : Type} (enc : TypeId × Value → H) : ∃ places, DataW.whole enc Tryz.prog ((laidWorld os).forCall (fun _ _ => 0) ⟨#[], #[.int .i64 0], []⟩).memory Tryz.f3.params.toList Rows.delimitedSeparatorsSpec.vars false (#[.int .i64 0] : Array Value).toList 8 = some ([.lit (.int .i64 0)], [], places) :=
  ⟨[], by kernel_rfl⟩
theorem lifted (os : Os) (started : os.Started) (H : Type) (enc : TypeId × Value → H) (F : Stop.Interp) :
    ReturnsInHanded {} Tryz.checked os 3 .any ((OpenSpec.ofChange Rows.delimitedSeparatorsSpec).preRow enc Tryz.prog Tryz.f3 Rows.delimitedSeparatorsRow.domain false Rows.delimitedSeparatorsRow.laid) (((OpenSpec.ofChange Rows.delimitedSeparatorsSpec).at F).post enc Tryz.prog Tryz.f3 false true false false) := by
  obtain ⟨places, hx⟩ := reads os enc
  refine returnsInHanded_of_row (C := Tryz.checked) (s := OpenSpec.ofChange Rows.delimitedSeparatorsSpec) own started (by kernel_rfl) Tryz.func3
    (witness_row_at (enc := enc) (C := Tryz.checked) false (laidWorld os) #[.int .i64 0] rfl (by kernel_rfl) (by kernel_rfl) (by kernel_rfl)
      (OpenSpec.preRow_of_cond 8 hx (by kernel_rfl) (fun k hk => by cases hk) (by kernel_rfl) (laid_met os))) ?_
  intro W base args ds gs before hval hW _ _ hsz hL _ _
  exact contract H enc W base args ds gs before hval hW hsz hL
theorem said : Rows.DelimitedSeparatorsSaid :=
  OpenClaim.holds_of_cond 3 Tryz.f3 rfl rfl rfl rfl rfl rfl rfl ⟨rfl, rfl, rfl, rfl, rfl⟩ rfl rfl rfl rfl rfl (by kernel_rfl) Tryz.func3 (by kernel_rfl)
    (of_decide_eq_true (by kernel_rfl)) (by unfold Func.isWrapper; first | (rw [if_pos (by decide +kernel)]; kernel_rfl) | (rw [if_neg (by decide +kernel)]; exact ⟨rfl, rfl⟩))
    (fun os started H enc _ F => by rw [OpenClaim.pre_eq_preRow]; exact lifted os started H enc F)
theorem card : Rows.DelimitedSeparatorsCardSaid :=
  Claim7.holds_tied_plain_at .later [] [.data, .data, .data, .data, .sentinel, .sentinel, .pinned] true (true, "bef7a53d85f32ccaf12ecee31fb259602e550500595099405e2121ff9ce3e236") true
    said (fun _ h => by cases h) (by kernel_rfl) (fun _ h => by cases h) delimitedSeparators_row_tie rfl ⟨rfl, rfl⟩ (by kernel_rfl) rfl
    (fun f fn hf hfn => by
      obtain rfl : f = 3 := Option.some.inj ((show Tryz.prog.funcNamed "manifold/manifoldlaw11.DelimitedSeparators" = some 3 by kernel_rfl).symm.trans hf) |>.symm
      obtain rfl : fn = Tryz.f3 := (Option.some.inj (Tryz.func3.symm.trans hfn)).symm
      refine ⟨by kernel_rfl, fun j t ht => ?_⟩
      rw [hpar] at ht
      have h3 : t ∈ [3] := by
        have := List.mem_of_getElem? (show ([3] : List TypeId)[j]? = some t by simpa using ht)
        exact this
      have hall : ∀ t ∈ ([3] : List TypeId), Tryz.prog.wantsStandIn t = false := by
        have : (([3] : List TypeId).all fun t => !Tryz.prog.wantsStandIn t) = true := by kernel_rfl
        intro t h
        have h1 := List.all_eq_true.1 this t h
        simpa using h1
      exact hall t h3)
    (by kernel_rfl)
end Go.Proofs.YtkjopaaeeaacmaaGreatDoor.delimitedSeparatorsDone
