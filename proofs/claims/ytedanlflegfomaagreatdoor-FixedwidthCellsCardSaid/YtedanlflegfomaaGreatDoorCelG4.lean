/- A part of the proof for FixedwidthCellsCardSaid. -/
import Derived.Test.YtedanlflegfomaaGreatDoorCelGD
set_option maxRecDepth 100000
set_option linter.unusedVariables false
set_option linter.unusedSimpArgs false
namespace Go.Proofs.YtedanlflegfomaaGreatDoor
open Go Go.Ab Go.RowKit Go.Shelf
attribute [local irreducible] vc
attribute [local go_sem] Oper.semAt_some
def preW (w : List Nat) (i : Nat) : Nat := (w.take i).sum
def cellX (line : List UInt8) (w : List Nat) (i : Nat) : List UInt8 := (line.take (preW w (i + 1))).drop (preW w i)
def natsP (w : List Nat) : List PV := w.map fun (n : Nat) => PV.int .i64 (n : Int)
def cellsX (line : List UInt8) (w : List Nat) : List (List PV) := (List.range w.length).map fun i => [.int .i64 (preW w i : Int), .str (cellX line w i)]
theorem preW_le (w : List Nat) : ∀ i, preW w i ≤ w.sum := fun i => by
 unfold preW
 conv => rhs; rw [← List.take_append_drop i w]
 rw [List.sum_append]; omega
theorem preW_step {w : List Nat} {i : Nat} {n : Nat} (h : w[i]? = some n) : preW w (i + 1) = preW w i + n := by
 unfold preW; rw [take_snoc h, List.sum_append]; simp
theorem eptr1 {W : World} {imm : Nat → Nat → Prop} {p : PV} {u : Value} (hc : p.cells = [p]) (h : PRel W imm (.eptr [p] 0 0) u) : ∃ b o v, u = .pointer (some ⟨b, o, none⟩) ∧ imm b o ∧ W.cell? ⟨b, o, none⟩ = some v ∧ v.oneCell' = true ∧ PRel W imm p v := by
 generalize hl : [p] = l at h
 cases h with
 | eptr _ b off c sz g _ _ h1 h2 h3 h4 h5 h6 =>
   subst hl
   obtain ⟨q1, q2, q3⟩ := h4 0 p 0 p rfl (by rw [hc]; rfl)
   have q4 := h5 0 p 0 p rfl (by rw [hc]; rfl)
   exact ⟨b, off + 0 * sz + 0, g 0 0, rfl, q1, q2, q3, q4⟩
set_option maxHeartbeats 4000000 in
theorem cells_seq (line : List UInt8) (w : List Nat) (hs : w.sum ≤ line.length) (hl : line.length ≤ 1000000) (hw : w.length ≤ 1000000) : SeqA Tryz.prog tabG 80 [.eptr [.list (natsP w)] 0 0, .eptr [.str line] 0 0] (cellsX line w) := by
 refine ⟨by kernel_rfl, fun W imm lbv l J Jx O hG himm hsz hlb hgrow hlt hround hJ => ?_⟩
 have hp := hlb 0 _ rfl
 have hq := hlb 1 _ rfl
 obtain ⟨p, q, rfl⟩ : ∃ p q, lbv = #[p, q] := by
  obtain ⟨l⟩ := lbv
  match l, hsz with
  | [p, q], _ => exact ⟨p, q, rfl⟩
 replace hp : PRel W imm (.eptr [.list (natsP w)] 0 0) p := by simpa using hp
 replace hq : PRel W imm (.eptr [.str line] 0 0) q := by simpa using hq
 obtain ⟨b1, o1, v1, rfl, i1, c1, s1, r1⟩ := eptr1 rfl hp
 obtain ⟨b2, o2, v2, rfl, i2, c2, s2, r2⟩ := eptr1 rfl hq
 obtain ⟨rfl, _⟩ := str_val r2
 simp only [List.append_toArray, List.cons_append, List.nil_append]
 refine callsIn_of_wp Tryz.func80 rfl trivial ?_ rfl
 simp only [Tryz.ntmps80, List.size_toArray, List.length_cons, List.length_nil, Nat.reduceAdd, Nat.reduceSub, Array.replicate_succ, Array.replicate_zero, List.push_toArray, List.append_toArray, List.nil_append, List.cons_append]
 generalize hL : natsP w = L at r1
 cases r1 with
 | lnil A c hc =>
   have hw0 : w = [] := by cases w with
    | nil => rfl
    | cons x r => simp [natsP] at hL
   subst hw0
   gi_wp2
   gi_loopw [9] (fun p wr => p = .int .i64 0 ∧ wr = W) (fun p wr => 0)
   case atStart => exact ⟨rfl, rfl⟩
   case round =>
    obtain ⟨rfl, rfl⟩ := hrel
    gi_wp2
    go_end0
    exact ⟨⟨_, rfl⟩, .inl ⟨_, hJ⟩⟩
 | list _ b3 off3 c3 sz3 g3 k1 k2 k3 k4 k5 =>
   subst hL
   have hel : ∀ (i n : Nat), w[i]? = some n → imm b3 (off3 + i) ∧ W.cell? ⟨b3, off3 + i, none⟩ = some (.int .i64 (n : Int)) := fun i n hn => by
    have hx : (natsP w)[i]? = some (.int .i64 (n : Int)) := by simp [natsP, hn]
    have hz : sz3 = 1 := (k3 i _ hx).symm
    subst hz
    obtain ⟨q1, q2, q3⟩ := k4 i _ 0 _ hx rfl
    have q4 := k5 i _ 0 _ hx rfl
    generalize g3 i 0 = u at q2 q4
    cases q4
    exact ⟨by simpa using q1, by simpa using q2⟩
   have hlen : (natsP w).length = w.length := by simp [natsP]
   rw [hlen] at c1 k1
   clear k3 k4 k5 hp hq r2 hlb
   gi_wp2
   gi_loopw [4, 9] (fun p4 p9 wr => ∃ (k : Nat) (O' : Nat → Nat → Prop), p4 = .int .i64 (preW w k : Int) ∧ p9 = .int .i64 (k : Int) ∧ k ≤ w.length ∧ J k O' wr ∧ Kept imm O' W wr ∧ Globs wr) (fun p4 p9 wr => w.length - (intOf p9).toNat)
   case atStart => exact ⟨0, O, rfl, rfl, Nat.zero_le _, hJ, ⟨Nat.le_refl _, fun b o hb => (himm b o hb).2, fun _ _ _ _ h => h⟩, hG.2⟩
   case round =>
    obtain ⟨k, O', rfl, rfl, hk, hJk, hKk, hGk⟩ := hrel
    by_cases hlt' : k < w.length
    ·obtain ⟨n, hn⟩ : ∃ n, w[k]? = some n := ⟨_, List.getElem?_eq_getElem hlt'⟩
     obtain ⟨i3, c3'⟩ := hel k n hn
     have w3 := hKk.cell _ _ _ i3 c3'
     have w2 := hKk.cell _ _ _ i2 c2
     have hkI : (k : Int) < (w.length : Int) := by omega
     have hk0 : (0 : Int) ≤ (k : Int) := by omega
     have hst := preW_step hn
     have hle := preW_le w (k + 1)
     have hsl := fun (w' : World) => run_slice_string (P := Tryz.prog) w' 9 (⟨line.toArray⟩ : ByteArray) .i64 .i64 (preW w k : Int) ((preW w k : Int) + (n : Int)) Tryz.underlying9 (by omega) (by omega) (by simp [ByteArray.size]; omega)
     have hx : (cellsX line w)[k]? = some [.int .i64 (preW w k : Int), .str (cellX line w k)] := by simp [cellsX, hlt']
     have he : (ByteArray.extract ⟨line.toArray⟩ (preW w k) (preW w k + n)).data.toList = cellX line w k := by
      simp only [ByteArray.data_extract, Array.toList_extract, List.extract_eq_take_drop, cellX, hst, List.drop_take]
     have hstr : PRel wr imm (.str (cellX line w k)) (.string (ByteArray.extract ⟨line.toArray⟩ (preW w k) (preW w k + n))) := by
      rw [← he]
      exact .str _ (by simp [ByteArray.size, ByteArray.data_extract]; unfold maxLen; omega)
     obtain ⟨fn, tmps, assign, body, hy, hR⟩ := hround 0 k _ O' wr #[.int .i64 (preW w k : Int), .string (ByteArray.extract ⟨line.toArray⟩ (preW w k) (preW w k + n))] imm imm hJk hx rfl (fun j y hy => by
      match j, hy with
      | 0, hy => simp at hy; subst hy; exact .int _ _
      | 1, hy => simp at hy; subst hy; exact hstr
      | j + 2, hy => simp at hy) (fun b o h => .inl h) (fun b o h => h) (fun b o hb => ⟨Nat.lt_of_lt_of_le (himm b o hb).1 hKk.size, hKk.out b o hb⟩)
     have hkw : wrap64 ((k : Int) + 1) = ((k + 1 : Nat) : Int) := by unfold wrap64; omega
     have hpw : wrap64 ((preW w k : Int) + (n : Int)) = (preW w (k + 1) : Int) := by rw [hst]; unfold wrap64; omega
     have hmu : w.length - (intOf (.int .i64 (wrap64 ((k : Int) + 1)))).toNat < w.length - (intOf (.int .i64 (k : Int))).toNat := by
      rw [hkw]
      exact Nat.sub_lt_sub_left hlt' (Nat.lt_succ_self k)
     gi_wp2
     refine ⟨rfl, hR.mono ?_⟩
     rintro e W2 (⟨rfl, ⟨O2, hJ2, ho2⟩, hsz2, hc2, hG2⟩ | ⟨rfl, hx2⟩)
     ·have hK2 : Kept imm O2 W W2 := hKk.trans ⟨hsz2, ho2, hc2⟩
      gi_wp2
      exact ⟨⟨k + 1, O2, congrArg _ hpw, congrArg _ hkw, hlt', hJ2, hK2, hG2⟩, hmu⟩
     ·gi_wp2
      refine bodyPost_ret (results_none rfl _ _ _) rfl ?_
      exact ⟨⟨_, rfl⟩, .inr hx2⟩
    ·obtain rfl : k = w.length := by omega
     gi_wp2
     go_end0
     exact ⟨⟨_, rfl⟩, .inl ⟨O', by simpa [cellsX] using hJk⟩⟩
end Go.Proofs.YtedanlflegfomaaGreatDoor
