/- Complete leads back from what Reduce returns. -/
import Derived.Stop.LaidErr
import Derived.WalkKit
import Derived.Lib.LaidTab
import Derived.SevenTiedAt
import Derived.Test.YtikmckfppnmlnaaDoorBakYCl
import Derived.Test.YtikmckfppnmlnaaDoorBakYT5
import Derived.Test.YtikmckfppnmlnaaDoorCards
import Derived.Test.YtikmckfppnmlnaaDoorTie
set_option maxRecDepth 100000
set_option linter.unusedVariables false
set_option linter.unusedSimpArgs false
namespace Go.Proofs.YtikmckfppnmlnaaDoor.fitBackDone
open Go Go.Ab Go.RowKit Go.ChangeShapes Go.WideShapes Go.ChangeAt
theorem own : ownKnob Tryd.prog.godebug = none := by kernel_rfl
theorem laidOut : laidOutB Tryd.prog = true := by kernel_rfl
theorem globs {W : World} (h : laidMetH Tryd.prog Rows.fitBackRow.laid W) : GlobOk tabG W (immOf W) := by
  have h' : laidMet Tryd.prog Rows.fitBackRow.laid W := h
  exact globs_of (Go.Lib.laidMet.reads h' (n := "unicode/utf8.first") (d := Go.Lib.firstData) (by rw [show Go.Lib.firstData = (Rows.laid_unicode_utf8_first : DataW Unit) by kernel_rfl]; exact List.Mem.tail _ (List.Mem.tail _ (List.Mem.tail _ (List.Mem.tail _ (List.Mem.head _))))))
    (Go.Lib.laidMet.reads h' (n := "unicode/utf8.acceptRanges") (d := Go.Lib.acceptData) (by rw [show Go.Lib.acceptData = (Rows.laid_unicode_utf8_acceptRanges : DataW Unit) by kernel_rfl]; exact List.Mem.tail _ (List.Mem.tail _ (List.Mem.tail _ (List.Mem.head _)))))
    (Go.Lib.laidMet.reads h' (n := "internal/strconv.uint64pow10") (d := (Go.Lib.tabData .u64 Go.Lib.pow10Tab)) (by rw [show (Go.Lib.tabData .u64 Go.Lib.pow10Tab) = (Rows.laid_internal_strconv_uint64pow10 : DataW Unit) by kernel_rfl]; exact List.Mem.tail _ (List.Mem.tail _ (List.Mem.head _))))
theorem hpar : Tryd.f10.params = #[58, 62] := by kernel_rfl
theorem contract (H : Type) (enc : TypeId × Value → H) (W : World) (base : Nat) (args : Array Value) (ds gs : List (DataW H)) (before : List MemPlace)
    (hval : ∀ (j : Nat) t v, Tryd.f10.params[j]? = some t → args[j]? = some v → Value.okWide Tryd.prog W .any base t v)
    (hW : DataW.Whole enc Tryd.prog Tryd.f10.params.toList Rows.fitBackSpec.vars false W args.toList ds gs before) (hsz : (DataW.weightsEach Tryd.prog (Tryd.f10.params.toList ++ Rows.fitBackSpec.plain.varTypes Tryd.prog) (ds ++ gs)).all (· ≤ reachBytes) = true) (hL : laidMetH Tryd.prog Rows.fitBackRow.laid W) :
    Calls Tryd.prog 10 args W fun e W' => ∃ v, e = .returned v ∧ Rows.fitBackSpec.post enc Tryd.prog Tryd.f10 false true false false W args v W' := by
  refine law_post (ts := [58, 3, 54, 9, 55, 56, 79, 59, 62, 60, 127, 4]) (tb := 4) (G := tabG) rfl laidOut (by decide +kernel) (by kernel_rfl) (by decide +kernel) (by kernel_rfl) (by kernel_rfl) ?_ hval hW hsz (globs hL) ?_
  · intro ds hd
    rw [hpar] at hd
    match ds, hd with
    | [d0, d1], _ => rfl
  · intro ps hp hT
    rw [hpar] at hp hT
    match ps, hp with
    | [p0, p1], _ =>
      exact back_of p0 p1 (hT 0 58 p0 rfl rfl) (hT 1 62 p1 rfl rfl)
def laidCells1 : DataW Unit → List Value
  | .lit (.int k n) => [Value.int k n]
  | .agg xs => xs.map fun x => match x with
    | .lit (.int k n) => Value.int k n
    | _ => Go.undef
  | _ => []
def laidCells : DataW Unit → Array Value
  | .agg xs => (xs.flatMap laidCells1).toArray
  | _ => #[]
def setTab (d : DataW Unit) : Obj → Obj
  | .cells _ t frozen => .cells (laidCells d) t frozen
  | o => o
noncomputable def laidWorld (os : Os) : World :=
  { World.holding Tryd.prog os ⟨#[], #[], []⟩ with heap := ((((((World.holding Tryd.prog os ⟨#[], #[], []⟩).heap.modify 4 (setTab Rows.laid_math_bits_deBruijn32tab)).modify 5 (setTab Rows.laid_math_bits_deBruijn64tab)).modify 3 (setTab Rows.laid_internal_strconv_uint64pow10)).modify 2 (setTab Rows.laid_unicode_utf8_acceptRanges)).modify 1 (setTab Rows.laid_unicode_utf8_first)) }
theorem laid_met (os : Os) : laidMet Tryd.prog Rows.fitBackRow.laid ((laidWorld os).forCall (fun _ _ => 0) ⟨#[], #[.agg #[.int .i64 0, .int .i64 0, .int .i64 0, .int .i64 0, .slice none 0 0, .slice none 0 0, .slice none 0 0], .agg #[.int .i64 0, .int .i64 0, .int .i64 0, .string ⟨#[]⟩, .slice none 0 0, .slice none 0 0]], []⟩).memory :=
  laidMet_of_run' 8 (by kernel_rfl) (by kernel_rfl)
theorem reads (os : Os) {H : Type} (enc : TypeId × Value → H) : ∃ places, DataW.whole enc Tryd.prog ((laidWorld os).forCall (fun _ _ => 0) ⟨#[], #[.agg #[.int .i64 0, .int .i64 0, .int .i64 0, .int .i64 0, .slice none 0 0, .slice none 0 0, .slice none 0 0], .agg #[.int .i64 0, .int .i64 0, .int .i64 0, .string ⟨#[]⟩, .slice none 0 0, .slice none 0 0]], []⟩).memory Tryd.f10.params.toList Rows.fitBackSpec.vars false (#[.agg #[.int .i64 0, .int .i64 0, .int .i64 0, .int .i64 0, .slice none 0 0, .slice none 0 0, .slice none 0 0], .agg #[.int .i64 0, .int .i64 0, .int .i64 0, .string ⟨#[]⟩, .slice none 0 0, .slice none 0 0]] : Array Value).toList 8 = some ([.agg [.lit (.int .i64 0), .lit (.int .i64 0), .lit (.int .i64 0), .lit (.int .i64 0), .nil, .nil, .nil], .agg [.lit (.int .i64 0), .lit (.int .i64 0), .lit (.int .i64 0), .lit (.string []), .nil, .nil]], [], places) :=
  ⟨[], by kernel_rfl⟩
theorem lifted (os : Os) (started : os.Started) (H : Type) (enc : TypeId × Value → H) (F : Stop.Interp) :
    ReturnsInHanded {} Tryd.checked os 10 .any ((OpenSpec.ofChange Rows.fitBackSpec).preRow enc Tryd.prog Tryd.f10 Rows.fitBackRow.domain false Rows.fitBackRow.laid) (((OpenSpec.ofChange Rows.fitBackSpec).at F).post enc Tryd.prog Tryd.f10 false true false false) := by
  obtain ⟨places, hx⟩ := reads os enc
  refine returnsInHanded_of_row (C := Tryd.checked) (s := OpenSpec.ofChange Rows.fitBackSpec) own started (by kernel_rfl) Tryd.func10
    (witness_row_at (enc := enc) (C := Tryd.checked) false (laidWorld os) #[.agg #[.int .i64 0, .int .i64 0, .int .i64 0, .int .i64 0, .slice none 0 0, .slice none 0 0, .slice none 0 0], .agg #[.int .i64 0, .int .i64 0, .int .i64 0, .string ⟨#[]⟩, .slice none 0 0, .slice none 0 0]] rfl (by kernel_rfl) (by kernel_rfl) (by kernel_rfl)
      (OpenSpec.preRow_of_cond 8 hx (by kernel_rfl) (fun k hk => by cases hk) (by kernel_rfl) (laid_met os))) ?_
  intro W base args ds gs before hval hW _ _ hsz hL _ _
  exact contract H enc W base args ds gs before hval hW hsz hL
theorem said : Rows.FitBackSaid :=
  OpenClaim.holds_of_cond 10 Tryd.f10 rfl rfl rfl rfl rfl rfl rfl ⟨rfl, rfl, rfl, rfl, rfl⟩ rfl rfl rfl rfl rfl (by kernel_rfl) Tryd.func10 (by kernel_rfl)
    (of_decide_eq_true (by kernel_rfl)) (by unfold Func.isWrapper; first | (rw [if_pos (by decide +kernel)]; kernel_rfl) | (rw [if_neg (by decide +kernel)]; exact ⟨rfl, rfl⟩))
    (fun os started H enc _ F => by rw [OpenClaim.pre_eq_preRow]; exact lifted os started H enc F)
theorem card : Rows.FitBackCardSaid :=
  Claim7.holds_tied_plain_at .later [] [.data, .data, .data, .data, .pinned] true (true, "d4a6c8a7ebb5073f6d2754831ae9ae772fc053b7bba1d4d9df52fd3b0ee7a0d1") false
    said (fun _ h => by cases h) (by kernel_rfl) (fun _ h => by cases h) fitBack_row_tie rfl ⟨rfl, rfl⟩ (by kernel_rfl) rfl
    (fun f fn hf hfn => by
      obtain rfl : f = 10 := Option.some.inj ((show Tryd.prog.funcNamed "manifold/manifoldlaw07.FitBack" = some 10 by kernel_rfl).symm.trans hf) |>.symm
      obtain rfl : fn = Tryd.f10 := (Option.some.inj (Tryd.func10.symm.trans hfn)).symm
      refine ⟨by kernel_rfl, fun j t ht => ?_⟩
      rw [hpar] at ht
      have h3 : t ∈ [58, 62] := by
        have := List.mem_of_getElem? (show ([58, 62] : List TypeId)[j]? = some t by simpa using ht)
        exact this
      have hall : ∀ t ∈ ([58, 62] : List TypeId), Tryd.prog.wantsStandIn t = false := by
        have : (([58, 62] : List TypeId).all fun t => !Tryd.prog.wantsStandIn t) = true := by kernel_rfl
        intro t h
        have h1 := List.all_eq_true.1 this t h
        simpa using h1
      exact hall t h3)
    (by kernel_rfl)
end Go.Proofs.YtikmckfppnmlnaaDoor.fitBackDone
