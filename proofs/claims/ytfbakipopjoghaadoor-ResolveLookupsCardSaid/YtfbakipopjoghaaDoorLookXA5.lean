/- For any program of these sizes, Endpoint, Service and Route return the first one with a name. -/
import Derived.Stop.LaidErr
import Derived.WalkKit
import Derived.Lib.LaidTab
import Derived.SevenTiedAt
import Derived.Test.YtfbakipopjoghaaDoorLookX5
import Derived.Test.YtfbakipopjoghaaDoorCards
import Derived.Test.YtfbakipopjoghaaDoorTie
set_option maxRecDepth 100000
set_option linter.unusedVariables false
set_option linter.unusedSimpArgs false
namespace Go.Proofs.YtfbakipopjoghaaDoor.resolveLookupsDone
open Go Go.Ab Go.RowKit Go.ChangeShapes Go.WideShapes Go.ChangeAt

theorem own : ownKnob Tryd.prog.godebug = none := by kernel_rfl
theorem laidOut : laidOutB Tryd.prog = true := by kernel_rfl
theorem gTab : Tryd.prog.globalNamed "internal/strconv.uint64pow10" = some 1 := by kernel_rfl

theorem globs {W : World} (h : laidMetH Tryd.prog Rows.resolveLookupsRow.laid W) : GlobOk tabG W (immOf W) := by
  have h' : laidMet Tryd.prog Rows.resolveLookupsRow.laid W := h
  have h2 := laidMet.tail (laidMet.tail h')
  have ht : Lib.TabIs Tryd.prog W "internal/strconv.uint64pow10" .u64 Lib.pow10Tab :=
    Lib.tabIs_of_head (rest := []) (t := 191) (e := 182) (n := 20) gTab (by kernel_rfl) (by kernel_rfl) (by kernel_rfl) (by kernel_rfl) (by kernel_rfl) h2
  exact glob_of ht gTab rfl

theorem hpar : Tryd.f5.params = #[44, 9] := by kernel_rfl
theorem contract (H : Type) (enc : TypeId × Value → H) (W : World) (base : Nat) (args : Array Value) (ds gs : List (DataW H)) (before : List MemPlace)
    (hval : ∀ (j : Nat) t v, Tryd.f5.params[j]? = some t → args[j]? = some v → Value.okWide Tryd.prog W .any base t v)
    (hW : DataW.Whole enc Tryd.prog Tryd.f5.params.toList Rows.resolveLookupsSpec.vars false W args.toList ds gs before) (hL : laidMetH Tryd.prog Rows.resolveLookupsRow.laid W) :
    Calls Tryd.prog 5 args W fun e W' => ∃ v, e = .returned v ∧ Rows.resolveLookupsSpec.post enc Tryd.prog Tryd.f5 false true false false W args v W' := by
  refine law_post (ts := [44, 3, 39, 100, 9, 98, 65, 95, 96, 134, 132, 137, 135, 170, 40, 52, 50, 35, 41, 54, 4, 42, 56, 22, 32, 25, 158, 28, 26, 167, 29, 87, 30, 89]) (tb := 4) (G := tabG) rfl laidOut (by decide +kernel) (by kernel_rfl) (by decide +kernel) (by kernel_rfl) (by kernel_rfl) ?_ hval hW (globs hL) ?_
  · intro ds hd
    rw [hpar] at hd
    match ds, hd with
    | [d0, d1], _ => rfl
  · intro ps hp hT
    rw [hpar] at hp hT
    match ps, hp with
    | [p0, p1], _ =>
      exact lookups_of p0 p1 (hT 0 44 p0 rfl rfl) (hT 1 9 p1 rfl rfl)

/-- A world for the witness: the settled one, the tables holding what their initialisers lay. -/
def laidCells : DataW Unit → Array Value
  | .agg xs => (xs.map fun x => match x with
    | .lit (.int k n) => Value.int k n
    | _ => Go.undef).toArray
  | _ => #[]
def setTab (d : DataW Unit) : Obj → Obj
  | .cells _ t frozen => .cells (laidCells d) t frozen
  | o => o
noncomputable def laidWorld (os : Os) : World :=
  { World.holding Tryd.prog os ⟨#[], #[], []⟩ with heap := ((((World.holding Tryd.prog os ⟨#[], #[], []⟩).heap.modify 2 (setTab Rows.laid_math_bits_deBruijn32tab)).modify 3 (setTab Rows.laid_math_bits_deBruijn64tab)).modify 1 (setTab Rows.laid_internal_strconv_uint64pow10)) }
theorem laid_met (os : Os) : laidMet Tryd.prog Rows.resolveLookupsRow.laid ((laidWorld os).forCall (fun _ _ => 0) ⟨#[], #[.agg #[.int .i64 0, .slice none 0 0, .slice none 0 0, .slice none 0 0, .slice none 0 0], .string ⟨#[]⟩], []⟩).memory :=
  laidMet_of_run' 8 (by kernel_rfl) (by kernel_rfl)
theorem reads (os : Os) {H : Type} (enc : TypeId × Value → H) : ∃ places, DataW.whole enc Tryd.prog ((laidWorld os).forCall (fun _ _ => 0) ⟨#[], #[.agg #[.int .i64 0, .slice none 0 0, .slice none 0 0, .slice none 0 0, .slice none 0 0], .string ⟨#[]⟩], []⟩).memory Tryd.f5.params.toList Rows.resolveLookupsSpec.vars false (#[.agg #[.int .i64 0, .slice none 0 0, .slice none 0 0, .slice none 0 0, .slice none 0 0], .string ⟨#[]⟩] : Array Value).toList 8 = some ([.agg [.lit (.int .i64 0), .nil, .nil, .nil, .nil], .lit (.string [])], [], places) :=
  ⟨[], by kernel_rfl⟩

theorem lifted (os : Os) (started : os.Started) (H : Type) (enc : TypeId × Value → H) (F : Stop.Interp) :
    ReturnsInHanded {} Tryd.checked os 5 .any ((OpenSpec.ofChange Rows.resolveLookupsSpec).preRow enc Tryd.prog Tryd.f5 Rows.resolveLookupsRow.domain false Rows.resolveLookupsRow.laid) (((OpenSpec.ofChange Rows.resolveLookupsSpec).at F).post enc Tryd.prog Tryd.f5 false true false false) := by
  obtain ⟨places, hx⟩ := reads os enc
  refine returnsInHanded_of_row (C := Tryd.checked) (s := OpenSpec.ofChange Rows.resolveLookupsSpec) own started (by kernel_rfl) Tryd.func5
    (witness_row_at (enc := enc) (C := Tryd.checked) false (laidWorld os) #[.agg #[.int .i64 0, .slice none 0 0, .slice none 0 0, .slice none 0 0, .slice none 0 0], .string ⟨#[]⟩] rfl (by kernel_rfl) (by kernel_rfl) (by kernel_rfl)
      (OpenSpec.preRow_of_cond 8 hx (by kernel_rfl) (fun k hk => by cases hk) (by kernel_rfl) (laid_met os))) ?_
  intro W base args ds gs before hval hW _ _ _ hL _ _
  exact contract H enc W base args ds gs before hval hW hL

theorem said : Rows.ResolveLookupsSaid :=
  OpenClaim.holds_of_cond 5 Tryd.f5 rfl rfl rfl rfl rfl rfl rfl ⟨rfl, rfl, rfl, rfl, rfl⟩ rfl rfl rfl rfl rfl (by kernel_rfl) Tryd.func5 (by kernel_rfl)
    (of_decide_eq_true (by kernel_rfl)) (by unfold Func.isWrapper; first | (rw [if_pos (by decide +kernel)]; kernel_rfl) | (rw [if_neg (by decide +kernel)]; exact ⟨rfl, rfl⟩))
    (fun os started H enc _ F => by rw [OpenClaim.pre_eq_preRow]; exact lifted os started H enc F)

/-- The card. -/
theorem card : Rows.ResolveLookupsCardSaid :=
  Claim7.holds_tied_plain_at .later [] [.data, .data, .data] true (true, "f8b0003a701ebbfe971d219b3d671f21a752b32c7f500f165cd03878d288093a") false
    said (fun _ h => by cases h) (by kernel_rfl) (fun _ h => by cases h) resolveLookups_row_tie rfl ⟨rfl, rfl⟩ (by kernel_rfl) rfl
    (fun f fn hf hfn => by
      obtain rfl : f = 5 := Option.some.inj ((show Tryd.prog.funcNamed "manifold/manifoldlaw23.ResolveLookups" = some 5 by kernel_rfl).symm.trans hf) |>.symm
      obtain rfl : fn = Tryd.f5 := (Option.some.inj (Tryd.func5.symm.trans hfn)).symm
      refine ⟨by kernel_rfl, fun j t ht => ?_⟩
      rw [hpar] at ht
      have h3 : t ∈ [44, 9] := by
        have := List.mem_of_getElem? (show ([44, 9] : List TypeId)[j]? = some t by simpa using ht)
        exact this
      have hall : ∀ t ∈ ([44, 9] : List TypeId), Tryd.prog.wantsStandIn t = false := by
        have : (([44, 9] : List TypeId).all fun t => !Tryd.prog.wantsStandIn t) = true := by kernel_rfl
        intro t h
        have h1 := List.all_eq_true.1 this t h
        simpa using h1
      exact hall t h3)
    (by kernel_rfl)
end Go.Proofs.YtfbakipopjoghaaDoor.resolveLookupsDone
