/- For any program with at most 6 routes, 5 levels, 8 steps in each list, 4 branches each, and 300 steps altogether, Walk returns all steps in order, and At each of them; there is none at any other place. -/
import Derived.Stop.LaidErr
import Derived.WalkKit
import Derived.Lib.LaidTab
import Derived.SevenTiedAt
import Derived.Test.YtfbakipopjoghaaDoorWalkXW8
import Derived.Test.YtfbakipopjoghaaDoorCards
import Derived.Test.YtfbakipopjoghaaDoorTie
set_option maxRecDepth 100000
set_option linter.unusedVariables false
set_option linter.unusedSimpArgs false
namespace Go.Proofs.YtfbakipopjoghaaDoor.resolveWalksDone
open Go Go.Ab Go.RowKit Go.ChangeShapes Go.WideShapes Go.ChangeAt

theorem own : ownKnob Tryd.prog.godebug = none := by kernel_rfl
theorem laidOut : laidOutB Tryd.prog = true := by kernel_rfl
theorem gTab : Tryd.prog.globalNamed "internal/strconv.uint64pow10" = some 1 := by kernel_rfl

theorem globs {W : World} (h : laidMetH Tryd.prog Rows.resolveWalksRow.laid W) : GlobOk tabG W (immOf W) := by
  have h' : laidMet Tryd.prog Rows.resolveWalksRow.laid W := h
  have h2 := laidMet.tail (laidMet.tail h')
  have ht : Lib.TabIs Tryd.prog W "internal/strconv.uint64pow10" .u64 Lib.pow10Tab :=
    Lib.tabIs_of_head (rest := []) (t := 191) (e := 182) (n := 20) gTab (by kernel_rfl) (by kernel_rfl) (by kernel_rfl) (by kernel_rfl) (by kernel_rfl) h2
  exact glob_of ht gTab rfl

theorem hpar : Tryd.f9.params = #[44, 3, 35] := by kernel_rfl
theorem contract (H : Type) (enc : TypeId × Value → H) (W : World) (base : Nat) (args : Array Value) (ds gs : List (DataW H)) (before : List MemPlace)
    (hval : ∀ (j : Nat) t v, Tryd.f9.params[j]? = some t → args[j]? = some v → Value.okWide Tryd.prog W .any base t v)
    (hW : DataW.Whole enc Tryd.prog Tryd.f9.params.toList Rows.resolveWalksSpec.vars false W args.toList ds gs before) (hsz : (DataW.weightsEach Tryd.prog (Tryd.f9.params.toList ++ Rows.resolveWalksSpec.plain.varTypes Tryd.prog) (ds ++ gs)).all (· ≤ reachBytes) = true) (hL : laidMetH Tryd.prog Rows.resolveWalksRow.laid W) :
    Calls Tryd.prog 9 args W fun e W' => ∃ v, e = .returned v ∧ Rows.resolveWalksSpec.post enc Tryd.prog Tryd.f9 false true false false W args v W' := by
  refine law_post (ts := [44, 3, 39, 100, 9, 98, 65, 95, 96, 134, 132, 137, 135, 170, 40, 52, 50, 35, 41, 54, 4, 42, 56, 22, 32, 25, 158, 28, 26, 167, 29, 87, 30, 89]) (tb := 4) (G := tabG) rfl laidOut (by decide +kernel) (by kernel_rfl) (by decide +kernel) (by kernel_rfl) (by kernel_rfl) ?_ hval hW hsz (globs hL) ?_
  · intro ds hd
    rw [hpar] at hd
    match ds, hd with
    | [d0, d1, d2], _ => rfl
  · intro ps hp hT
    rw [hpar] at hp hT
    match ps, hp with
    | [p0, p1, p2], _ =>
      exact walks_of p0 p1 p2 (hT 0 44 p0 rfl rfl) (hT 1 3 p1 rfl rfl) (hT 2 35 p2 rfl rfl)

/-- A world for the witness: the settled one, the tables holding what their initialisers lay. -/
def laidCells : DataW Unit → Array Value
  | .agg xs => (xs.map fun x => match x with
    | .lit (.int k n) => Value.int k n
    | _ => Go.undef).toArray
  | _ => #[]
def setTab (d : DataW Unit) : Obj → Obj
  | .cells _ t frozen => .cells (laidCells d) t frozen
  | o => o
noncomputable def laidWorld (os : Os) : World :=
  { World.holding Tryd.prog os ⟨#[], #[], []⟩ with heap := ((((World.holding Tryd.prog os ⟨#[], #[], []⟩).heap.modify 2 (setTab Rows.laid_math_bits_deBruijn32tab)).modify 3 (setTab Rows.laid_math_bits_deBruijn64tab)).modify 1 (setTab Rows.laid_internal_strconv_uint64pow10)) }
theorem laid_met (os : Os) : laidMet Tryd.prog Rows.resolveWalksRow.laid ((laidWorld os).forCall (fun _ _ => 0) ⟨#[], #[.agg #[.int .i64 0, .slice none 0 0, .slice none 0 0, .slice none 0 0, .slice none 0 0], .int .i64 0, .slice none 0 0], []⟩).memory :=
  laidMet_of_run' 8 (by kernel_rfl) (by kernel_rfl)
theorem reads (os : Os) {H : Type} (enc : TypeId × Value → H) : ∃ places, DataW.whole enc Tryd.prog ((laidWorld os).forCall (fun _ _ => 0) ⟨#[], #[.agg #[.int .i64 0, .slice none 0 0, .slice none 0 0, .slice none 0 0, .slice none 0 0], .int .i64 0, .slice none 0 0], []⟩).memory Tryd.f9.params.toList Rows.resolveWalksSpec.vars false (#[.agg #[.int .i64 0, .slice none 0 0, .slice none 0 0, .slice none 0 0, .slice none 0 0], .int .i64 0, .slice none 0 0] : Array Value).toList 8 = some ([.agg [.lit (.int .i64 0), .nil, .nil, .nil, .nil], .lit (.int .i64 0), .nil], [], places) :=
  ⟨[], by kernel_rfl⟩

theorem lifted (os : Os) (started : os.Started) (H : Type) (enc : TypeId × Value → H) (F : Stop.Interp) :
    ReturnsInHanded {} Tryd.checked os 9 .any ((OpenSpec.ofChange Rows.resolveWalksSpec).preRow enc Tryd.prog Tryd.f9 Rows.resolveWalksRow.domain false Rows.resolveWalksRow.laid) (((OpenSpec.ofChange Rows.resolveWalksSpec).at F).post enc Tryd.prog Tryd.f9 false true false false) := by
  obtain ⟨places, hx⟩ := reads os enc
  refine returnsInHanded_of_row (C := Tryd.checked) (s := OpenSpec.ofChange Rows.resolveWalksSpec) own started (by kernel_rfl) Tryd.func9
    (witness_row_at (enc := enc) (C := Tryd.checked) false (laidWorld os) #[.agg #[.int .i64 0, .slice none 0 0, .slice none 0 0, .slice none 0 0, .slice none 0 0], .int .i64 0, .slice none 0 0] rfl (by kernel_rfl) (by kernel_rfl) (by kernel_rfl)
      (OpenSpec.preRow_of_cond 8 hx (by kernel_rfl) (fun k hk => by cases hk) (by kernel_rfl) (laid_met os))) ?_
  intro W base args ds gs before hval hW _ _ hsz hL _ _
  exact contract H enc W base args ds gs before hval hW hsz hL

theorem said : Rows.ResolveWalksSaid :=
  OpenClaim.holds_of_cond 9 Tryd.f9 rfl rfl rfl rfl rfl rfl rfl ⟨rfl, rfl, rfl, rfl, rfl⟩ rfl rfl rfl rfl rfl (by kernel_rfl) Tryd.func9 (by kernel_rfl)
    (of_decide_eq_true (by kernel_rfl)) (by unfold Func.isWrapper; first | (rw [if_pos (by decide +kernel)]; kernel_rfl) | (rw [if_neg (by decide +kernel)]; exact ⟨rfl, rfl⟩))
    (fun os started H enc _ F => by rw [OpenClaim.pre_eq_preRow]; exact lifted os started H enc F)

/-- The card. -/
theorem card : Rows.ResolveWalksCardSaid :=
  Claim7.holds_tied_plain_at .later [] [.data, .data, .data] true (true, "f8b0003a701ebbfe971d219b3d671f21a752b32c7f500f165cd03878d288093a") false
    said (fun _ h => by cases h) (by kernel_rfl) (fun _ h => by cases h) resolveWalks_row_tie rfl ⟨rfl, rfl⟩ (by kernel_rfl) rfl
    (fun f fn hf hfn => by
      obtain rfl : f = 9 := Option.some.inj ((show Tryd.prog.funcNamed "manifold/manifoldlaw23.ResolveWalks" = some 9 by kernel_rfl).symm.trans hf) |>.symm
      obtain rfl : fn = Tryd.f9 := (Option.some.inj (Tryd.func9.symm.trans hfn)).symm
      refine ⟨by kernel_rfl, fun j t ht => ?_⟩
      rw [hpar] at ht
      have h3 : t ∈ [44, 3, 35] := by
        have := List.mem_of_getElem? (show ([44, 3, 35] : List TypeId)[j]? = some t by simpa using ht)
        exact this
      have hall : ∀ t ∈ ([44, 3, 35] : List TypeId), Tryd.prog.wantsStandIn t = false := by
        have : (([44, 3, 35] : List TypeId).all fun t => !Tryd.prog.wantsStandIn t) = true := by kernel_rfl
        intro t h
        have h1 := List.all_eq_true.1 this t h
        simpa using h1
      exact hall t h3)
    (by kernel_rfl)
end Go.Proofs.YtfbakipopjoghaaDoor.resolveWalksDone
