/- A part of the proof for ResolveWalksCardSaid. -/
import Derived.Test.YtfbakipopjoghaaDoorWalkXW6
import Derived.Test.YtfbakipopjoghaaDoorWalkXP
set_option maxRecDepth 100000
set_option linter.unusedVariables false
set_option linter.unusedSimpArgs false
namespace Go.Proofs.YtfbakipopjoghaaDoor
open Go Go.Ab

theorem ixMap_mem {α β : Type} {F : α → Nat → List β} {l : List α} {y : β} : y ∈ ixMap F l ↔ ∃ i x, l[i]? = some x ∧ y ∈ F x i := by
  simp only [ixMap, List.mem_flatMap]
  constructor
  · rintro ⟨⟨x, i⟩, h1, h2⟩
    exact ⟨i, x, by have := List.mem_zipIdx_iff_getElem?.1 h1; simpa using this, h2⟩
  · rintro ⟨i, x, h1, h2⟩
    exact ⟨(x, i), List.mem_zipIdx_iff_getElem?.2 (by simpa using h1), h2⟩

/-- What is met on the way is found at its place. -/
theorem stepsW_at (route : Int) : ∀ (n : Nat) (p : List Int) (l : List Stp) (w : Wkd), w ∈ stepsW route n p l → w.route = route ∧ ∃ q, w.place = p ++ q ∧ q.length % 2 = 1 ∧ q.length ≤ 2 * n ∧ atS q l = some w.step
  | 0, p, l, w, h => by simp [stepsW] at h
  | n + 1, p, l, w, h => by
    rw [stepsW] at h
    obtain ⟨i, s, hs, hw⟩ := ixMap_mem.1 h
    rcases List.mem_cons.1 hw with rfl | hw
    · exact ⟨rfl, [(i : Int)], rfl, rfl, by simp; omega, by rw [atS_one, hs]; rfl⟩
    · obtain ⟨j, b, hb, hw⟩ := ixMap_mem.1 hw
      obtain ⟨h1, q, h2, h3, h4, h5⟩ := stepsW_at route n _ _ w hw
      refine ⟨h1, (i : Int) :: (j : Int) :: q, by rw [h2]; simp, by simp; omega, by simp; omega, ?_⟩
      rw [atS_two hs, if_pos (by omega)]
      simp only [Int.toNat_natCast, hb]
      exact h5
/-- What is found at a place is met. -/
theorem at_stepsW (route : Int) : ∀ (n : Nat) (p q : List Int) (l : List Stp) (s : Stp), Bnd n l → atS q l = some s → Wkd.mk route (p ++ q) s ∈ stepsW route n p l
  | 0, p, q, l, s, hB, h => by
    obtain rfl : l = [] := hB
    match q, h with
    | [], h => simp [atS] at h
    | [i], h => simp [atS] at h
    | i :: b :: r, h => simp [atS] at h
  | n + 1, p, q, l, s, hB, h => by
    obtain ⟨hB1, hB2⟩ := hB
    match q, h with
    | [], h => simp [atS] at h
    | [i], h =>
      simp only [atS] at h
      split at h
      · rw [stepsW]
        refine ixMap_mem.2 ⟨i.toNat, s, h, ?_⟩
        rw [show ((i.toNat : Nat) : Int) = i by omega]
        exact List.mem_cons_self
      · cases h
    | i :: b :: r, h =>
      simp only [atS] at h
      split at h
      · split at h
        · rename_i t ht
          split at h
          · split at h
            · rename_i x hx
              have hb := (hB2 t (List.mem_of_getElem? ht)).2 x (List.mem_of_getElem? hx)
              have ih := at_stepsW route n ((p ++ [i]) ++ [b]) r x.steps s hb h
              rw [stepsW]
              refine ixMap_mem.2 ⟨i.toNat, t, ht, List.mem_cons_of_mem _ (ixMap_mem.2 ⟨b.toNat, x, hx, ?_⟩)⟩
              rw [show ((i.toNat : Nat) : Int) = i by omega, show ((b.toNat : Nat) : Int) = b by omega]
              simpa using ih
            · cases h
          · cases h
        · cases h
      · cases h
theorem atS_odd : ∀ (q : List Int) (l : List Stp) (s : Stp), atS q l = some s → q.length % 2 = 1
  | [], l, s, h => by simp [atS] at h
  | [i], l, s, h => rfl
  | i :: b :: r, l, s, h => by
    simp only [atS] at h
    split at h
    · split at h
      · split at h
        · split at h
          · have := atS_odd r _ s h
            simp; omega
          · cases h
        · cases h
      · cases h
    · cases h
theorem walkW_at {n : Nat} {p : Prg} {w : Wkd} (h : w ∈ walkW n p) : atP p w.route w.place = some w.step ∧ w.place.length ≤ 2 * n := by
  obtain ⟨i, r, hr, hw⟩ := ixMap_mem.1 h
  obtain ⟨h1, q, h2, h3, h4, h5⟩ := stepsW_at i n [] _ w hw
  rw [List.nil_append] at h2
  rw [h1, h2, atP, if_pos ⟨by omega, h3⟩]
  simp only [Int.toNat_natCast, hr]
  exact ⟨h5, h4⟩
theorem at_walkW {n : Nat} {p : Prg} {route : Int} {place : List Int} {s : Stp} (hp : okW n p) (h : atP p route place = some s) : Wkd.mk route place s ∈ walkW n p := by
  unfold atP at h
  split at h
  · rename_i h0
    split at h
    · rename_i r hr
      refine ixMap_mem.2 ⟨route.toNat, r, hr, ?_⟩
      have := at_stepsW route n [] place r.steps s (hp.2 r (List.mem_of_getElem? hr)).1 h
      rw [show ((route.toNat : Nat) : Int) = route by omega]
      simpa using this
    · cases h
  · cases h
end Go.Proofs.YtfbakipopjoghaaDoor
