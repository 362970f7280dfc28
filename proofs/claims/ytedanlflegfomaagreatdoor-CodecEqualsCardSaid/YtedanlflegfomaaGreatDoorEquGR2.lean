/- A part of the proof for CodecEqualsCardSaid. -/
import Derived.Test.YtedanlflegfomaaGreatDoorEquGR1
set_option maxRecDepth 100000
set_option linter.unusedVariables false
set_option linter.unusedSimpArgs false
namespace Go.Proofs.YtedanlflegfomaaGreatDoor
open Go Go.Ab Go.RowKit Go.Shelf
attribute [local irreducible] vc
attribute [local go_sem] Oper.semAt_some
theorem visitN {l : Nat} {xs : List (List PV)} {base : Nat → Nat → Prop} {n0 : Nat} {J : Nat → (Nat → Nat → Prop) → World → Prop} {Jx : World → Prop} (h : Iter l xs base n0 J Jx) : ∀ n, Visit l xs base n0 J Jx n
 | 0 => fun v hd => hd.elim
 | n + 1 => visit_step h n (visitN h n)
set_option maxHeartbeats 4000000 in
theorem preorder_seq (n : Nat) (v : Val) (hd : deepV n v) (hv : v.ok) (hn : n ≤ 9223372036854775806) : SeqA Tryz.prog tabG 242 [.eptr [v.pv] 0 0] ((preN n 1 v).map encV) := by
 refine ⟨by kernel_rfl, fun w imm lbv l J Jx O hG himm hsz hlb hgrow hlt hround hJ => ?_⟩
 have hI : Iter l ((preN n 1 v).map encV) imm w.heap.size J Jx := ⟨hgrow, hlt, hround⟩
 have hp := hlb 0 _ rfl
 obtain ⟨p, rfl⟩ : ∃ p, lbv = #[p] := by
  obtain ⟨l⟩ := lbv
  match l, hsz with
  | [p], _ => exact ⟨p, rfl⟩
 simp only [Array.getD_eq_getD_getElem?, List.size_toArray, List.length_cons, List.length_nil] at hp
 replace hp : PRel w imm (.eptr [v.pv] 0 0) p := by simpa using hp
 cases hp with
 | eptr _ b off cc sz g _ _ h1 h2 h3 h4 h5 h6 =>
   have hs6 : sz = 6 := by rw [← h3 0 _ rfl, v.cells_len]
   subst hs6
   obtain ⟨cs, e1, e2, e3⟩ := v.row
   have hcs : v.pv.cells = cs := by rw [e1]; rfl
   have hel : ∀ j, j < 6 → imm b (off + 0 * 6 + j) ∧ w.cell? ⟨b, off + 0 * 6 + j, none⟩ = some (g 0 j) ∧ (g 0 j).oneCell' = true := fun j hj => by
    obtain ⟨y, hy⟩ : ∃ y, cs[j]? = some y := ⟨_, List.getElem?_eq_getElem (by omega)⟩
    exact h4 0 _ j y rfl (by rw [hcs]; exact hy)
   have hu : PRel w imm v.pv (.agg #[g 0 0, g 0 1, g 0 2, g 0 3, g 0 4, g 0 5]) := by
    rw [e1]
    refine .agg _ _ (by simp [e2]) fun j y hy => ?_
    have hj : j < 6 := by have := (List.getElem?_eq_some_iff.1 hy).1; omega
    have := h5 0 _ j y rfl (by rw [hcs]; exact hy)
    have hc : j = 0 ∨ j = 1 ∨ j = 2 ∨ j = 3 ∨ j = 4 ∨ j = 5 := by omega
    rcases hc with rfl | rfl | rfl | rfl | rfl | rfl <;> exact this
   have hvis := visitN hI n v hd hv 1 0 0 O imm imm w (.agg #[g 0 0, g 0 1, g 0 2, g 0 3, g 0 4, g 0 5]) (by omega) (by omega) (fun j q hq => by simp [hq]) hJ hu hG (fun b o h => .inl h) (fun b o h => h) himm (Nat.le_refl _)
   have w0 := (hel 0 (by omega)).2.1; have w1 := (hel 1 (by omega)).2.1; have w2 := (hel 2 (by omega)).2.1; have w3 := (hel 3 (by omega)).2.1; have w4 := (hel 4 (by omega)).2.1; have w5 := (hel 5 (by omega)).2.1
   simp only [Nat.zero_mul, Nat.add_zero] at w0 w1 w2 w3 w4 w5 ⊢
   have hlen : ((preN n 1 v).map encV).length = 0 + (preN n 1 v).length := by simp
   rw [hlen]
   clear hel hu h4 h5 hround hgrow hlt hI
   simp only [List.append_toArray, List.cons_append, List.nil_append]
   refine callsIn_of_wp Tryz.func242 rfl trivial ?_ rfl
   simp only [Tryz.ntmps242, List.size_toArray, List.length_cons, List.length_nil, Nat.reduceAdd, Nat.reduceSub, Array.replicate_succ, Array.replicate_zero, List.push_toArray, List.append_toArray, List.nil_append, List.cons_append]
   gi_wp2_with (refine ⟨trivial, rfl, ?_⟩; gi_at_call 243; refine hvis.mono ?_; clear hvis; rintro e W6 (⟨rfl, O6, hJ6, hK6, hG6⟩ | ⟨rfl, hx6⟩))
   ·go_end0
    exact ⟨⟨_, rfl⟩, .inl ⟨_, hJ6⟩⟩
   ·go_end0
    exact ⟨⟨_, rfl⟩, .inr hx6⟩
end Go.Proofs.YtedanlflegfomaaGreatDoor
