/- A part of the proof for DelimitedLongCardSaid. -/
import Derived.Test.YtbaaokocnegdoaaGreatDoorLngV11
set_option maxRecDepth 100000
set_option linter.unusedVariables false
set_option linter.unusedSimpArgs false
-- many steps
namespace Go.Proofs.YtbaaokocnegdoaaGreatDoor
open Go Go.Ab
attribute [local irreducible] vc
def xs (k i : Nat) : List UInt8 := List.replicate i 120 ++ List.replicate (k - i) 0
theorem rowX_len {k i : Nat} (h : i ≤ k) : ((bytesP (xs k i)).map AV.pv).length = k := by
  simp [bytesP_length, xs]; omega
theorem rowX_0 (k : Nat) : (List.replicate k [PV.int .u8 0]).flatten.map AV.pv = (bytesP (xs k 0)).map AV.pv := by
  have : ∀ n, (List.replicate n [PV.int .u8 0]).flatten = bytesP (List.replicate n 0) := by
    intro n
    induction n with
    | zero => rfl
    | succ n ih => rw [List.replicate_succ, List.flatten_cons, ih, List.replicate_succ]; rfl
  rw [this]; simp [xs]
theorem rowX_store {k i : Nat} (h : i < k) : List.map AV.pv (List.take (i * 1) (bytesP (xs k i))) ++ (AV.pv (.int .u8 120) :: List.map AV.pv (List.drop (i * 1 + 1) (bytesP (xs k i)))) = (bytesP (xs k (i + 1))).map AV.pv := by
  have e : xs k i = List.replicate i 120 ++ (0 :: List.replicate (k - (i + 1)) 0) := by
    unfold xs
    rw [show k - i = (k - (i + 1)) + 1 by omega, List.replicate_succ]
  have e2 : xs k (i + 1) = List.replicate i 120 ++ (120 :: List.replicate (k - (i + 1)) 0) := by
    unfold xs
    rw [List.replicate_succ']; simp
  have b (l : List UInt8) (c : UInt8) (r : List UInt8) : bytesP (l ++ c :: r) = bytesP l ++ (.int .u8 (c.toNat : Int) :: bytesP r) := by simp [bytesP]
  have hl : (bytesP (List.replicate i (120 : UInt8))).length = i := by simp [bytesP_length]
  rw [Nat.mul_one, e, e2, b, b, List.take_left' hl, ← List.drop_drop, List.drop_left' hl]
  simp
theorem rowX_str (k : Nat) (σ : Store) (r T : Nat) (f : Bool) (h : σ r = .cells T f ((bytesP (xs k k)).map AV.pv)) : rToStr σ (.row r 1 0 k) = some (.pv (.str (List.replicate k 120))) := by
  have e : xs k k = List.replicate k 120 := by simp [xs]
  have hp : elemsOf σ 1 (.row r 1 0 k) = some (bytesP (List.replicate k 120)) := by
    simp only [elemsOf, h]
    have hl : ((bytesP (xs k k)).map AV.pv).length = k := rowX_len (Nat.le_refl _)
    have ht : (((bytesP (xs k k)).map AV.pv).drop 0).take k = (bytesP (xs k k)).map AV.pv := by rw [List.drop_zero, List.take_of_length_le (by omega)]
    rw [ht]
    have ha : ((bytesP (xs k k)).map AV.pv).all AV.one = true := by
      rw [List.all_eq_true]
      intro x hx
      simp only [List.mem_map, bytesP] at hx
      obtain ⟨y, ⟨z, _, rfl⟩, rfl⟩ := hx
      rfl
    rw [if_pos ⟨trivial, trivial, by omega, ha⟩, pvs_pv, e]
  simp only [rToStr, hp]
  rw [show u8s (bytesP (List.replicate k 120)) = some (List.replicate k 120) from u8s_bytes _]
def alph : List UInt8 := [97, 98, 99, 100, 101, 102, 103, 104, 105, 106, 107, 108, 109, 110, 111, 112, 113, 114, 115, 116, 117, 118, 119, 120, 121, 122, 97, 98, 99, 100, 101, 102, 103, 104, 105, 106, 107, 108, 109, 110, 111, 112, 113, 114, 115, 116, 117, 118, 119, 120, 121, 122]
theorem any_take {p : UInt8 → Bool} {l : List UInt8} (h : l.any p = false) (m : Nat) : (l.take m).any p = false := by
  rw [List.any_eq_false] at h ⊢
  exact fun x hx => h x (List.mem_of_mem_take hx)
theorem all_take {p : UInt8 → Bool} {l : List UInt8} (h : l.all p = true) (m : Nat) : (l.take m).all p = true := by
  rw [List.all_eq_true] at h ⊢
  exact fun x hx => h x (List.mem_of_mem_take hx)
def longC (k m : Nat) : List Cel := [(List.replicate k 120, false), (alph.take m, false)]
theorem longC_spc (k m : Nat) : ∀ c, c ∈ longC k m → spcC 44 c = false := by
  intro c hc
  simp only [longC, List.mem_cons, List.not_mem_nil, or_false] at hc
  rcases hc with rfl | rfl
  · simp only [spcC, spc, Bool.not_false, Bool.true_and]
    rw [List.any_eq_false]
    intro x hx
    rw [List.eq_of_mem_replicate hx]; decide
  · simp only [spcC, spc, Bool.not_false, Bool.true_and]
    exact any_take (by decide) m
theorem longC_line (k m : Nat) : lineN 44 (longC k m) = List.replicate k 120 ++ 44 :: alph.take m := by simp [lineN, longC, wrt]
theorem longC_len (k m : Nat) (hm : m ≤ 50) : (lineN 44 (longC k m)).length = k + 1 + m := by
  rw [longC_line]; simp [alph]; omega
theorem longC_join (k m : Nat) (hm : m ≤ 50) : joinN (sepB 44) 44 (longC k m) = if 65536 < k + 1 + m then ([], 5) else (lineN 44 (longC k m), 0) := by
  rw [show sepB 44 = true from rfl]
  unfold joinN
  rw [if_neg (by simp), if_neg (by simp [longC]), if_neg (by simp [longC]), if_neg, longC_len k m hm]
  rw [Bool.not_eq_true, List.any_eq_false]
  intro c hc
  rw [longC_spc k m c hc]; simp
theorem longC_split (k m : Nat) (hm : m ≤ 50) : splitN (lineN 44 (longC k m)) 44 = if 65536 < k + 1 + m then .err 0 5 else .ok (longC k m) (plcN (longC k m) 0) := by
  unfold splitN
  rw [show sepB 44 = true from rfl, if_pos rfl, longC_len k m hm]
  split
  · rfl
  · have := run_line (sep := 44) (by decide) [(alph.take m, false)] (List.replicate k 120, false) [] [] [] (by simp) (longC_spc k m)
    simp only [List.nil_append] at this
    exact this
theorem longC_join26 (k m : Nat) (hk : k ≤ 65600) : Pure Tryz.prog tabG 26 [.list ((longC k m).map celP), .int .i64 44] (.tup [.str (joinN (sepB 44) 44 (longC k m)).1, .int .i64 (joinN (sepB 44) 44 (longC k m)).2]) := by
  refine join26 (longC k m) 44 44 (fun _ => rfl) ?_ ?_ ?_
  · intro c hc
    simp only [longC, List.mem_cons, List.not_mem_nil, or_false] at hc
    rcases hc with rfl | rfl
    · simp; omega
    · simp [alph]; omega
  · intro _ c hc _
    simp only [longC, List.mem_cons, List.not_mem_nil, or_false] at hc
    rw [← contains_spc]
    refine special53 (sep := 44) rfl ?_
    rcases hc with rfl | rfl
    · refine contains_ok _ _ (by simp; omega) (by simp) ?_ (by decide)
      rw [List.all_eq_true]
      intro x hx
      rw [List.eq_of_mem_replicate hx]; decide
    · refine contains_ok _ _ (by simp [alph]; omega) (by simp) ?_ (by decide)
      exact all_take (by decide) m
  · intro c hc h2
    simp only [longC, List.mem_cons, List.not_mem_nil, or_false] at hc
    rcases hc with rfl | rfl <;> cases h2
end Go.Proofs.YtbaaokocnegdoaaGreatDoor
