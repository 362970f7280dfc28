/- A part of the proof for DelimitedJoinsCardSaid. -/
import Derived.Lib.CountLaws
import Derived.Lib.SplitLaws
import Derived.Test.YtbaaokocnegdoaaGreatDoorJoiV11
import Derived.Test.YtbaaokocnegdoaaGreatDoorJoiVSh2
import Derived.Test.YtbaaokocnegdoaaGreatDoorJoiVB2
set_option maxRecDepth 100000
set_option linter.unusedVariables false
set_option linter.unusedSimpArgs false
namespace Go.Proofs.YtbaaokocnegdoaaGreatDoor
open Go Go.Ab
attribute [local irreducible] vc
theorem contains_all (a b : List UInt8) (ha : a.length < 4294967281) (hb : b.length < 4294967281) (h2 : 2 ≤ b.length) (hb1 : b.all (fun c => decide (c.toNat < 128)) = true) :
    Pure Tryz.prog tabG 101 [.str a, .str b] (.bool (Lib.containsAny a b)) := by
  refine pure_of_calls (by kernel_rfl) fun w imm vals hGl hsz hargs => ?_
  have hv := vals_2 hsz
  obtain ⟨h1, _⟩ := str_val (hargs 0 (.str a) rfl)
  obtain ⟨h2', _⟩ := str_val (hargs 1 (.str b) rfl)
  rw [hv, h1, h2']
  have asc : ∀ (j : Nat) c, (⟨b.toArray⟩ : ByteArray).data.toList[j]? = some c → c.toNat < 128 := by
    intro j c hc
    have := List.all_eq_true.1 hb1 c (List.mem_of_getElem? hc)
    simpa using this
  refine (containsAny_all Tryz.lays150 (by kernel_rfl) ⟨a.toArray⟩ ⟨b.toArray⟩ w (by simpa [ByteArray.size] using h2) (by simpa [ByteArray.size] using ha) (by simpa [ByteArray.size] using hb) asc).mono ?_
  rintro e w' ⟨rfl, hB⟩
  exact ⟨_, rfl, hB, by simpa using PRel.bool (w := w') (imm := imm) (Lib.containsAny a b)⟩
def tabM (m : Int) : Nat → List PV := fun g => if g = 0 then [.int .i64 m] else tabG g
theorem globM {m : Int} {w : World} {imm : Nat → Nat → Prop} (h : GlobOk (tabM m) w imm) : GlobOk tabG w imm := by
  have key : ∀ g, tabG g ≠ [] → tabM m g = tabG g := by
    intro g hg
    unfold tabM
    by_cases h0 : g = 0
    · subst h0; exact absurd rfl hg
    · rw [if_neg h0]
  refine ⟨fun g o p hp => h.1 g o p ?_, fun g hg => ?_⟩
  · rw [key g (by intro e; rw [e] at hp; simp at hp)]; exact hp
  · rw [← key g hg]
    exact h.2 g (by rw [key g hg]; exact hg)
theorem toM {m : Int} {f : Nat} {args : List PV} {r : PV} (h : Pure Tryz.prog tabG f args r) : Pure Tryz.prog (tabM m) f args r :=
  ⟨h.1, fun w imm vals hG => h.2 w imm vals (globM hG)⟩
theorem dbl_replace : ∀ t : List UInt8, Lib.replaceK [34] [34, 34] (t.count 34) t = dbl t
  | [] => rfl
  | c :: r => by
    have ih := dbl_replace r
    by_cases hc : c = 34
    · subst hc
      rw [List.count_cons_self, Lib.replaceK_hit _ _ _ _ 0 (by rw [Lib.index_one]; simp [Lib.indexByte])]
      simp [dbl, ih]
    · have hcb : (c == 34) = false := by simpa using hc
      have h1 : (c :: r).count 34 = r.count 34 := List.count_cons_of_ne hc
      have hx : Lib.indexByte (c :: r) 34 = if Lib.indexByte r 34 == -1 then -1 else Lib.indexByte r 34 + 1 := by simp [Lib.indexByte, hcb]
      rw [h1]
      simp only [dbl, if_neg hc]
      cases hn : r.count 34 with
      | zero => rw [hn] at ih; simp only [Lib.replaceK] at ih ⊢; rw [← ih]
      | succ n =>
        rw [hn] at ih
        have hmem : r.contains 34 = true := by
          rw [List.contains_iff_mem]
          exact List.count_pos_iff.1 (by omega)
        have hcon := Lib.contains_iff_indexByte r 34
        rw [hmem] at hcon
        have hge := of_decide_eq_true hcon.symm
        obtain ⟨i, hi⟩ : ∃ i : Nat, Lib.indexByte r 34 = i := ⟨(Lib.indexByte r 34).toNat, by omega⟩
        rw [Lib.replaceK_hit _ _ _ _ i (by rw [Lib.index_one]; exact hi)] at ih
        have hx2 : Lib.indexByte (c :: r) 34 = ((i + 1 : Nat) : Int) := by
          rw [hx, hi, if_neg (by rw [beq_iff_eq]; omega)]; omega
        rw [Lib.replaceK_hit _ _ _ _ (i + 1) (by rw [Lib.index_one]; exact hx2), ← ih]
        simp
theorem vals_3 {vals : Array Value} (h : vals.size = 3) : vals = #[vals.getD 0 Go.undef, vals.getD 1 Go.undef, vals.getD 2 Go.undef] := by
  apply Array.ext
  · simpa using h
  · intro i h1 h2
    have : i = 0 ∨ i = 1 ∨ i = 2 := by omega
    rcases this with rfl | rfl | rfl <;> simp [Array.getD, h]
theorem replace_ok (m : Int) (t : List UInt8) (ht : t.length ≤ 1000000) : Pure Tryz.prog (tabM m) 67 [.str t, .str [34], .str [34, 34]] (.str (dbl t)) := by
  refine pure_of_calls (by kernel_rfl) fun w imm vals hGl hsz hargs => ?_
  have hv := vals_3 hsz
  obtain ⟨h1, _⟩ := str_val (hargs 0 (.str t) rfl)
  obtain ⟨h2, _⟩ := str_val (hargs 1 (.str [34]) rfl)
  obtain ⟨h3, _⟩ := str_val (hargs 2 (.str [34, 34]) rfl)
  rw [hv, h1, h2, h3]
  have hm : w.cell? ⟨0, 0, none⟩ = some (.int .i64 m) := by
    obtain ⟨_, v, hc, _, hp⟩ := hGl.1 0 0 (.int .i64 m) rfl
    cases hp
    exact hc
  have hst : (⟨t.toArray⟩ : ByteArray).size = t.length := by simp [ByteArray.size]
  have hcl := Lib.countB_le ⟨[34].toArray⟩ (by decide) _ ⟨t.toArray⟩ (Nat.le_refl _)
  refine (Tryz.strings_ReplaceAll ⟨t.toArray⟩ ⟨[34].toArray⟩ ⟨[34, 34].toArray⟩ m w (by rw [hst]; omega) hm (by decide) (by
    rw [hst] at hcl ⊢
    have : (⟨[34, 34].toArray⟩ : ByteArray).size = 2 := rfl
    rw [this]
    omega)).mono ?_
  rintro e w' ⟨rfl, hB⟩
  refine ⟨_, rfl, hB, ?_⟩
  have hr : Lib.replaceAll t [34] [34, 34] = dbl t := by
    have hnum : Lib.replaceNum t [34] (-1) = t.count 34 := by
      unfold Lib.replaceNum
      rw [if_pos (Or.inl (by decide)), Lib.count_one]
    unfold Lib.replaceAll Lib.replace
    rw [if_neg (by decide), hnum]
    exact dbl_replace t
  have hdl := dbl_len t
  simp only [List.toList_toArray] at *
  rw [hr]
  exact str_toArray (by unfold maxLen; omega)
end Go.Proofs.YtbaaokocnegdoaaGreatDoor
