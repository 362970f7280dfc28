/- For any steps of these sizes, Ends and Finished of the program agree with the definition: the law ResolveEnds returns true for every input and changes no argument. -/
import Derived.Stop.LaidErr
import Derived.WalkKit
import Derived.Lib.LaidTab
import Derived.SevenTiedAt
import Derived.Test.YtfbakipopjoghaaDoorEndsX12
import Derived.Test.YtfbakipopjoghaaDoorCards
import Derived.Test.YtfbakipopjoghaaDoorTie
set_option maxRecDepth 100000
set_option linter.unusedVariables false
set_option linter.unusedSimpArgs false
namespace Go.Proofs.YtfbakipopjoghaaDoor.resolveEndsDone
open Go Go.Ab Go.RowKit Go.ChangeShapes Go.WideShapes Go.ChangeAt

theorem own : ownKnob Tryd.prog.godebug = none := by kernel_rfl
theorem laidOut : laidOutB Tryd.prog = true := by kernel_rfl
theorem gTab : Tryd.prog.globalNamed "internal/strconv.uint64pow10" = some 1 := by kernel_rfl

theorem globs {W : World} (h : laidMetH Tryd.prog Rows.resolveEndsRow.laid W) : GlobOk tabG W (immOf W) := by
  have h' : laidMet Tryd.prog Rows.resolveEndsRow.laid W := h
  have h2 := laidMet.tail (laidMet.tail h')
  have ht : Lib.TabIs Tryd.prog W "internal/strconv.uint64pow10" .u64 Lib.pow10Tab :=
    Lib.tabIs_of_head (rest := []) (t := 191) (e := 182) (n := 20) gTab (by kernel_rfl) (by kernel_rfl) (by kernel_rfl) (by kernel_rfl) (by kernel_rfl) h2
  exact glob_of ht gTab rfl

theorem contract (H : Type) (enc : TypeId × Value → H) (W : World) (base : Nat) (args : Array Value) (ds gs : List (DataW H)) (before : List MemPlace)
    (hval : ∀ (j : Nat) t v, Tryd.f3.params[j]? = some t → args[j]? = some v → Value.okWide Tryd.prog W .any base t v)
    (hW : DataW.Whole enc Tryd.prog Tryd.f3.params.toList Rows.resolveEndsSpec.vars false W args.toList ds gs before) (hL : laidMetH Tryd.prog Rows.resolveEndsRow.laid W) :
    Calls Tryd.prog 3 args W fun e W' => ∃ v, e = .returned v ∧ Rows.resolveEndsSpec.post enc Tryd.prog Tryd.f3 false true false false W args v W' := by
  refine law_post (ts := [22, 32, 9, 3, 25, 28, 29, 30, 158, 26, 87, 89, 132, 167, 137, 135, 170]) (tb := 4) (G := tabG) rfl laidOut (by decide +kernel) (by kernel_rfl) (by decide +kernel) (by kernel_rfl) (by kernel_rfl) ?_ hval hW (globs hL) ?_
  · intro ds hd
    have hp : Tryd.f3.params.toList.length = 1 := by kernel_rfl
    rw [hp] at hd
    obtain ⟨d, rfl⟩ := List.length_eq_one_iff.1 hd
    rfl
  · intro ps hp hT
    have hp1 : Tryd.f3.params.toList.length = 1 := by kernel_rfl
    rw [hp1] at hp
    obtain ⟨p, rfl⟩ := List.length_eq_one_iff.1 hp
    have h22 : HasT Tryd.prog 22 p := hT 0 22 p (by kernel_rfl) rfl
    obtain ⟨l, h1, h2, h3⟩ := short_typed p h22
    exact ends_law p l h1 h2 h3

/-- A world for the witness: the settled one, the tables holding what their initialisers lay. -/
def laidCells : DataW Unit → Array Value
  | .agg xs => (xs.map fun x => match x with
    | .lit (.int k n) => Value.int k n
    | _ => Go.undef).toArray
  | _ => #[]
def setTab (d : DataW Unit) : Obj → Obj
  | .cells _ t frozen => .cells (laidCells d) t frozen
  | o => o
noncomputable def laidWorld (os : Os) : World :=
  { World.holding Tryd.prog os ⟨#[], #[], []⟩ with heap := (((World.holding Tryd.prog os ⟨#[], #[], []⟩).heap.modify 1 (setTab Rows.laid_internal_strconv_uint64pow10)).modify 2 (setTab Rows.laid_math_bits_deBruijn32tab)).modify 3 (setTab Rows.laid_math_bits_deBruijn64tab) }
theorem laid_met (os : Os) : laidMet Tryd.prog Rows.resolveEndsRow.laid ((laidWorld os).forCall (fun _ _ => 0) ⟨#[], #[.slice none 0 0], []⟩).memory :=
  laidMet_of_run' 8 (by kernel_rfl) (by kernel_rfl)
theorem reads (os : Os) {H : Type} (enc : TypeId × Value → H) : ∃ places, DataW.whole enc Tryd.prog ((laidWorld os).forCall (fun _ _ => 0) ⟨#[], #[.slice none 0 0], []⟩).memory Tryd.f3.params.toList Rows.resolveEndsSpec.vars false #[Value.slice none 0 0].toList 8 = some ([.nil], [], places) :=
  ⟨[], by kernel_rfl⟩

theorem lifted (os : Os) (started : os.Started) (H : Type) (enc : TypeId × Value → H) (F : Stop.Interp) :
    ReturnsInHanded {} Tryd.checked os 3 .any ((OpenSpec.ofChange Rows.resolveEndsSpec).preRow enc Tryd.prog Tryd.f3 Rows.resolveEndsRow.domain false Rows.resolveEndsRow.laid) (((OpenSpec.ofChange Rows.resolveEndsSpec).at F).post enc Tryd.prog Tryd.f3 false true false false) := by
  obtain ⟨places, hx⟩ := reads os enc
  refine returnsInHanded_of_row (C := Tryd.checked) (s := OpenSpec.ofChange Rows.resolveEndsSpec) own started (by kernel_rfl) Tryd.func3
    (witness_row_at (enc := enc) (C := Tryd.checked) false (laidWorld os) #[.slice none 0 0] rfl (by kernel_rfl) (by kernel_rfl) (by kernel_rfl)
      (OpenSpec.preRow_of_cond 8 hx (by kernel_rfl) (fun k hk => by cases hk) (by kernel_rfl) (laid_met os))) ?_
  intro W base args ds gs before hval hW _ _ _ hL _ _
  exact contract H enc W base args ds gs before hval hW hL

theorem said : Rows.ResolveEndsSaid :=
  OpenClaim.holds_of_cond 3 Tryd.f3 rfl rfl rfl rfl rfl rfl rfl ⟨rfl, rfl, rfl, rfl, rfl⟩ rfl rfl rfl rfl rfl (by kernel_rfl) Tryd.func3 (by kernel_rfl)
    (of_decide_eq_true (by kernel_rfl)) (by unfold Func.isWrapper; first | (rw [if_pos (by decide +kernel)]; kernel_rfl) | (rw [if_neg (by decide +kernel)]; exact ⟨rfl, rfl⟩))
    (fun os started H enc _ F => by rw [OpenClaim.pre_eq_preRow]; exact lifted os started H enc F)
/-- The card. -/
theorem card : Rows.ResolveEndsCardSaid :=
  Claim7.holds_tied_plain_at .later [] [.data, .data, .data] true (true, "f8b0003a701ebbfe971d219b3d671f21a752b32c7f500f165cd03878d288093a") false
    said (fun _ h => by cases h) (by kernel_rfl) (fun _ h => by cases h) resolveEnds_row_tie rfl ⟨rfl, rfl⟩ (by kernel_rfl) rfl
    (fun f fn hf hfn => by
      obtain rfl : f = 3 := Option.some.inj ((show Tryd.prog.funcNamed "manifold/manifoldlaw23.ResolveEnds" = some 3 by kernel_rfl).symm.trans hf) |>.symm
      obtain rfl : fn = Tryd.f3 := (Option.some.inj (Tryd.func3.symm.trans hfn)).symm
      refine ⟨by kernel_rfl, fun j t ht => ?_⟩
      have hp : Tryd.f3.params = #[22] := by kernel_rfl
      rw [hp] at ht
      have h3 : t = 22 := by
        rcases j with _ | j
        · simpa using ht.symm
        · simp at ht
      subst h3
      exact (show Tryd.prog.wantsStandIn 22 = false by kernel_rfl))
    (by kernel_rfl)
end Go.Proofs.YtfbakipopjoghaaDoor.resolveEndsDone
