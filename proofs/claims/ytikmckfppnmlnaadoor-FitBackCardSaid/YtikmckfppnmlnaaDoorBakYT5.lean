/- A part of the proof for FitBackCardSaid. -/
import Derived.Test.YtikmckfppnmlnaaDoorBakYT3
import Derived.Test.YtikmckfppnmlnaaDoorCore5
set_option maxRecDepth 100000
namespace Go.Proofs.YtikmckfppnmlnaaDoor
open Go Go.Ab Go.Lib Go.Proofs
theorem u8X : U8Extra Tryd.prog Tryd.lays196_ren := ⟨by kernel_rfl, by kernel_rfl, by kernel_rfl, by kernel_rfl, by kernel_rfl, by kernel_rfl, by kernel_rfl⟩
theorem globs_of {W : World} (h1 : VarReads Tryd.prog W "unicode/utf8.first" firstData) (h2 : VarReads Tryd.prog W "unicode/utf8.acceptRanges" acceptData)
    (h3 : VarReads Tryd.prog W "internal/strconv.uint64pow10" (tabData .u64 pow10Tab)) : GlobOk tabG W (immOf W) := by
  have hu := utf8Tabs_of_readsT (U8Types.of196 Tryd.lays196) u8X h1 h2
  refine globOk_of fun g hg => ?_
  unfold tabG at hg ⊢
  by_cases e3 : g = 3
  · subst e3
    exact tabAt_ints (t := 218) (e := 207) (m := 20) h3 (by kernel_rfl) (by kernel_rfl) (by kernel_rfl) (by kernel_rfl) (by kernel_rfl) (by kernel_rfl) (by kernel_rfl)
  rw [if_neg e3] at hg ⊢
  by_cases e1 : g = 1
  · subst e1
    rw [if_pos rfl] at hg ⊢
    refine tabAt_of (t := 202) (e := 5) (m := 256) h1 (by kernel_rfl) (by kernel_rfl) (by kernel_rfl) (by kernel_rfl) fun o p hp => ?_
    rw [u8G1, List.getElem?_map, Option.map_eq_some_iff] at hp
    obtain ⟨c, hc, rfl⟩ := hp
    obtain ⟨hlt, hcc⟩ := List.getElem?_eq_some_iff.1 hc
    simp at hlt hcc
    subst hcc
    exact ⟨_, _, rfl, hu.1 o hlt⟩
  rw [if_neg e1] at hg ⊢
  by_cases e2 : g = 2
  · subst e2
    rw [if_pos rfl] at hg ⊢
    refine tabAt_of (t := 205) (e := 204) (m := 16) h2 (by kernel_rfl) (by kernel_rfl) (by kernel_rfl) (by kernel_rfl) fun o p hp => ?_
    rw [u8G2, List.getElem?_map, Option.map_eq_some_iff] at hp
    obtain ⟨c, hc, rfl⟩ := hp
    obtain ⟨hlt, hcc⟩ := List.getElem?_eq_some_iff.1 hc
    simp at hlt hcc
    subst hcc
    have := hu.2 (o / 2) (by omega)
    by_cases ho : o % 2 = 0
    · rw [if_pos ho]
      refine ⟨_, _, rfl, ?_⟩
      have := this.1
      rwa [show 2 * (o / 2) = o by omega] at this
    · rw [if_neg ho]
      refine ⟨_, _, rfl, ?_⟩
      have := this.2
      rwa [show 2 * (o / 2) + 1 = o by omega] at this
  rw [if_neg e2] at hg
  exact absurd rfl hg
end Go.Proofs.YtikmckfppnmlnaaDoor
