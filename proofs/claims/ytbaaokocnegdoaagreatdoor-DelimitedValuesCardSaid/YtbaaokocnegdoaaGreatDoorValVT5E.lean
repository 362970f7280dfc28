/- A part of the proof for DelimitedValuesCardSaid. -/
import Derived.Stop.LaidErr
import Derived.Test.YtbaaokocnegdoaaGreatDoorValVSh4
import Derived.Test.YtbaaokocnegdoaaGreatDoorValWE
set_option maxRecDepth 100000
namespace Go.Proofs.YtbaaokocnegdoaaGreatDoor
open Go Go.Ab Go.Lib Go.Proofs Go.RowKit Go.ChangeShapes
theorem starE : "*" ++ "errors.errorString" = "*errors.errorString" := by decide
theorem row276 (u : TypeId) (h : Tryz.prog.typeName? 3 u = some "*errors.errorString") : u = 276 :=
 typeName_ptr_named (nm := "errors.errorString") (by rw [starE]; kernel_rfl) (by kernel_rfl) (by decide) u (by rw [starE]; exact h)
theorem errVar {text : List UInt8} {r : List (String × DataW Unit)} {W : World} (h : laidMet Tryz.prog (("strconv.ErrSyntax", .iface "*errors.errorString" (.ptr (.agg [.lit (.string text)]))) :: r) W) :
  ∃ (a : Addr) (s : ByteArray), W.var? Tryz.prog "strconv.ErrSyntax" = some #[.iface 276 (.pointer (some a))] ∧ W.cell? a = some (.string s) ∧ s.data.toList = text ∧ s.size ≤ maxLen :=
 laid_sentinel h (g := 1) (ti := 91) (te := 278) (ts := 9) (by kernel_rfl) (by kernel_rfl) Tryz.underlying91 row276 Tryz.underlying276 Tryz.underlying278 rfl rfl Tryz.underlying9 (by kernel_rfl) (by kernel_rfl)
theorem globs_ofE {W : World} (h1 : VarReads Tryz.prog W "unicode/utf8.first" firstData) (h2 : VarReads Tryz.prog W "unicode/utf8.acceptRanges" acceptData)
  (h3 : VarReads Tryz.prog W "internal/strconv.uint64pow10" (tabData .u64 pow10Tab))
  (hE : ∃ (a : Addr) (s : ByteArray), W.var? Tryz.prog "strconv.ErrSyntax" = some #[.iface 276 (.pointer (some a))] ∧ W.cell? a = some (.string s)) : ∃ p, GlobOk (tabE 276 p) W (immOf W) := by
 obtain ⟨⟨b, o, sp⟩, s, hv, hc⟩ := hE
 have hsp : sp = none := by
  unfold World.cell? at hc
  cases sp with
  | none => rfl
  | some k => split at hc <;> simp at hc
 subst hsp
 have hg : Tryz.prog.globalNamed "strconv.ErrSyntax" = some 1 := by kernel_rfl
 have hcell : W.cell? ⟨1, 0, none⟩ = some (.iface 276 (.pointer (some ⟨b, o, none⟩))) := by
  have := World.var?_cell hg hv 0
  simpa using this
 have hG := globs_of h1 h2 h3
 refine ⟨.gptr b o, fun g o' p hp => ?_, fun g hg' => ?_⟩
 ·unfold tabE at hp
  by_cases e0 : g = 1
  ·subst e0
   rw [if_pos rfl] at hp
   cases o' with
   | zero => cases hp; exact ⟨World.block_lt_of_cell? W _ hcell, _, hcell, rfl, .iface _ _ _ (.gptr _ _)⟩
   | succ o' => simp at hp
  ·rw [if_neg e0] at hp
   exact hG.1 g o' p hp
 ·unfold tabE at hg' ⊢
  by_cases e0 : g = 1
  ·subst e0
   rw [if_pos rfl]
   unfold World.var? at hv
   rw [hg] at hv
   simp only [Option.bind_some] at hv
   split at hv
   ·rename_i cs T fz hh
    cases hv
    exact ⟨_, T, fz, hh, rfl⟩
   ·cases hv
  ·rw [if_neg e0] at hg' ⊢
   exact hG.2 g hg'
end Go.Proofs.YtbaaokocnegdoaaGreatDoor
