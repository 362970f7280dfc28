/- A part of the proof for FitBackCardSaid. -/
import Derived.Test.YtikmckfppnmlnaaDoorBakYZ
set_option maxRecDepth 100000
set_option linter.unusedVariables false
set_option linter.unusedSimpArgs false
namespace Go.Proofs.YtikmckfppnmlnaaDoor
open Go Go.Ab
attribute [local irreducible] vc
theorem bl_irrefl : ∀ a : List UInt8, bytesLt a a = false
  | [] => rfl
  | a :: r => by
    have ih := bl_irrefl r
    show Op.bytesLess (a :: r) (a :: r) = false
    have ih' : Op.bytesLess r r = false := ih
    rw [Op.bytesLess]
    simp [UInt8.lt_irrefl, ih']
theorem bl_trans : ∀ a b c : List UInt8, bytesLt a b = true → bytesLt b c = true → bytesLt a c = true
  | [], b, [], _, h2 => by cases b <;> simp [bytesLt, Op.bytesLess] at h2
  | [], _, _ :: _, _, _ => rfl
  | _ :: _, [], _, h1, _ => by cases h1
  | _ :: _, _ :: _, [], _, h2 => by cases h2
  | a :: r, b :: q, c :: s, h1, h2 => by
    have ih : Op.bytesLess r q = true → Op.bytesLess q s = true → Op.bytesLess r s = true := bl_trans r q s
    have k1 : Op.bytesLess (a :: r) (b :: q) = true := h1
    have k2 : Op.bytesLess (b :: q) (c :: s) = true := h2
    show Op.bytesLess (a :: r) (c :: s) = true
    rw [Op.bytesLess] at k1 k2 ⊢
    simp only [Bool.or_eq_true, Bool.and_eq_true, decide_eq_true_eq, beq_iff_eq, UInt8.lt_iff_toNat_lt] at k1 k2 ⊢
    rcases k1 with k1 | ⟨e1, k1⟩
    · rcases k2 with k2 | ⟨e2, k2⟩
      · left; omega
      · left; rw [← e2]; exact k1
    · rcases k2 with k2 | ⟨e2, k2⟩
      · left; rw [e1]; exact k2
      · right; exact ⟨e1.trans e2, ih k1 k2⟩
theorem up_lt {f : List Fld} (h : upB f = true) : ∀ (d i : Nat) (x y : Fld), f[i]? = some x → f[i + d + 1]? = some y → bytesLt x.name y.name = true
  | 0, i, x, y, hx, hy => by
    have hl : i + 1 < f.length := (List.getElem?_eq_some_iff.1 hy).1
    have h1 := (allU_iff.1 h) i (by omega)
    unfold upJ at h1
    have hy' : f[i + 1]? = some y := hy
    rw [hx, hy'] at h1
    exact h1
  | d + 1, i, x, y, hx, hy => by
    have hl : i + (d + 1) + 1 < f.length := (List.getElem?_eq_some_iff.1 hy).1
    obtain ⟨z, hz⟩ : ∃ z, f[i + d + 1]? = some z := ⟨_, List.getElem?_eq_getElem (by omega)⟩
    have h1 := up_lt h d i x z hx hz
    have h2 := up_lt h 0 (i + d + 1) z y hz hy
    exact bl_trans _ _ _ h1 h2
theorem up_find {f : List Fld} (h : upB f = true) {x : Fld} (hx : x ∈ f) : f.find? (namedF x.name) = some x := by
  obtain ⟨i, hi⟩ := List.getElem?_of_mem hx
  cases hfd : f.find? (namedF x.name) with
  | none =>
    have := List.find?_eq_none.1 hfd x hx
    simp [namedF] at this
  | some z =>
    have hz1 : z.name = x.name := by
      have := List.find?_some hfd
      simpa [namedF] using this
    obtain ⟨j, hj⟩ := List.getElem?_of_mem (List.mem_of_find?_eq_some hfd)
    rcases Nat.lt_trichotomy i j with hij | hij | hij
    · have := up_lt h (j - i - 1) i x z hi (by rw [show i + (j - i - 1) + 1 = j by omega]; exact hj)
      rw [hz1, bl_irrefl] at this; cases this
    · subst hij; rw [hi] at hj; cases hj; rfl
    · have := up_lt h (i - j - 1) j z x hj (by rw [show j + (i - j - 1) + 1 = i by omega]; exact hi)
      rw [hz1, bl_irrefl] at this; cases this
theorem formed9 {v : Val} (hk : v.kind = 9) (hf : formedV v = true) : upB v.fields = true := by
  obtain ⟨vk, vi, vs, vt, vl, vf⟩ := v
  simp only [Val.kind, Val.fields] at *
  subst hk
  simp [formedV] at hf
  exact hf.1
theorem fit_field {R : Typ → Val → List UInt8 → List Mis} {t : Typ} {v : Val} {p : List UInt8} (hu : upB v.fields = true) (h : recM R t v p = []) {x : Fld} (hx : x ∈ v.fields) : ∃ f, t.fields.find? (named x.name) = some f ∧ f ∈ t.fields ∧ R f.typ x.value (underT p f.name) = [] := by
  unfold recM at h
  rw [List.append_eq_nil_iff, List.flatMap_eq_nil_iff, List.flatMap_eq_nil_iff] at h
  have h2 := h.2 x hx
  cases hfd : t.fields.find? (named x.name) with
  | none => rw [otherM_none hfd] at h2; cases h2
  | some f =>
    have hfm := List.mem_of_find?_eq_some hfd
    have hn : f.name = x.name := by
      have := List.find?_some hfd
      simpa [named] using this
    have h1 := h.1 f hfm
    rw [fieldM_some (y := x) (by rw [hn]; exact up_find hu hx)] at h1
    exact ⟨f, rfl, hfm, h1⟩
end Go.Proofs.YtikmckfppnmlnaaDoor
