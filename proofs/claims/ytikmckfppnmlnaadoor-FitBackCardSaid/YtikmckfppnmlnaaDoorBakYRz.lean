/- A part of the proof for FitBackCardSaid. -/
import Derived.Test.YtikmckfppnmlnaaDoorBakYRw
set_option maxRecDepth 100000
set_option linter.unusedVariables false
set_option linter.unusedSimpArgs false
namespace Go.Proofs.YtikmckfppnmlnaaDoor
open Go Go.Ab
open Nat renaming reduceEqDiff → qa, reduceAdd → qb, reduceMul → qc, reduceLeDiff → qd, reduceLT → qe, reduceBEq → qf, reduceSub → qg
open Int renaming reduceToNat → qh, reduceNeg → qi
attribute [local irreducible] vc
theorem fstI_spec {q : Fld → Bool} : ∀ (l : List Fld) (m : Nat), (fstI q l m = -1 ∧ l.filter (fun x => !q x) = l) ∨ ∃ k, fstI q l m = ((m + k : Nat) : Int) ∧ k < l.length ∧ (l.take (k + 1)).filter (fun x => !q x) = l.take k
  | [], m => .inl ⟨rfl, rfl⟩
  | x :: r, m => by
    cases hx : q x with
    | true => exact .inr ⟨0, by simp [fstI, hx], by simp, by simp [hx]⟩
    | false =>
      have h1 : fstI q (x :: r) m = fstI q r (m + 1) := by simp [fstI, hx]
      rcases fstI_spec r (m + 1) with ⟨h2, h3⟩ | ⟨k, h2, h3, h4⟩
      · exact .inl ⟨by rw [h1, h2], by rw [List.filter_cons_of_pos (by simp [hx]), h3]⟩
      · refine .inr ⟨k + 1, by rw [h1, h2]; congr 1; omega, by simpa using h3, ?_⟩
        rw [List.take_succ_cons, List.filter_cons_of_pos (by simp [hx]), h4, List.take_succ_cons]
def zeroCs : List PV := [.str [], .int .i64 0, .int .i64 0, .int .i64 0, .str [], .nils, .nils]
def keptF (q : Fld → Bool) (l : List Fld) : List Fld := l.filter fun x => !q x
theorem keptF_del {q : Fld → Bool} {l : List Fld} {j : Nat} {x : Fld} (h : l[j]? = some x) (hq : q x = true) : keptF q (l.take (j + 1)) = keptF q (l.take j) := flt_del h (by simp [hq])
theorem keptF_keep {q : Fld → Bool} {l : List Fld} {j : Nat} {x : Fld} (h : l[j]? = some x) (hq : q x = false) : keptF q (l.take (j + 1)) = keptF q (l.take j) ++ [x] := flt_keep h (by simp [hq])
set_option maxHeartbeats 4000000 in
theorem delete95 (l : List Fld) (g : Nat) (cs : List PV) (q : Fld → Bool) (hq : ∀ x ∈ l, Pure Tryd.prog tabG g (x.pv :: cs) (.bool (q x))) (hl : l.length ≤ 300) :
    Lent Tryd.prog tabG 1 95 [.row 0 7 0 l.length, .pv (.clo g [] cs)] [.cells 127 false ((rowP l).map .pv)] (.row 0 7 0 (keptF q l).length)
      [.cells 127 false ((rowP (keptF q l) ++ (List.replicate (l.length - (keptF q l).length) zeroCs).flatten).map .pv)] := by
  refine Lent.intro F95_ok (by simp [F95]) ?_
  have h117 := index117L l g cs q hq hl
  have hrl := rowP_len l
  rcases fstI_spec (q := q) l 0 with ⟨h1, h2⟩ | ⟨k, h1, h2, h3⟩
  · rw [h1] at h117
    have h2 : keptF q l = l := h2
    simp (disch := first | exact dI | fail) only [F95o0, F95o1, F95o2, F95o3, F95o4, F95o5, F95o6, F95o7, F95o8, F95o9, F95o10, F95b11, F95o12, F95o13, F95c, F95, push_cast, ↓reduceIte, qa, qb, qc, qd, qe, qf, qg, qh, qi]
    refine ACall.lentK h117 [0] rfl (by simp (disch := first | exact dI | fail) only [push_cast, ↓reduceIte, qa, qb, qc, qd, qe, qf, qg, qh, qi]) (by simp (disch := first | exact dI | fail) only [push_cast, ↓reduceIte, qa, qb, qc, qd, qe, qf, qg, qh, qi]) ?_
    simp (disch := first | exact dI | fail) only [push_cast, ↓reduceIte, qa, qb, qc, qd, qe, qf, qg, qh, qi]
    exact lent_z [] (by simp (disch := first | exact dI | fail) only [h2, Nat.sub_self, List.replicate_zero, List.flatten_nil, List.append_nil, push_cast, ↓reduceIte, qa, qb, qc, qd, qe, qf, qg, qh, qi])
  · rw [h1, Nat.zero_add] at h117
    have h3 : keptF q (l.take (k + 1)) = l.take k := h3
    simp (disch := first | exact dI | fail) only [F95o0, F95o1, F95o2, F95o3, F95o4, F95o5, F95o6, F95o7, F95o8, F95o9, F95o10, F95b11, F95o12, F95o13, F95c, F95, push_cast, ↓reduceIte, qa, qb, qc, qd, qe, qf, qg, qh, qi]
    refine ACall.lentK h117 [0] rfl (by simp (disch := first | exact dI | fail) only [push_cast, ↓reduceIte, qa, qb, qc, qd, qe, qf, qg, qh, qi]) (by simp (disch := first | exact dI | fail) only [push_cast, ↓reduceIte, qa, qb, qc, qd, qe, qf, qg, qh, qi]) ?_
    have hk1 : ¬ (k : Int) = -1 := by omega
    simp (disch := first | exact dI | fail) only [hk1, push_cast, ↓reduceIte, qa, qb, qc, qd, qe, qf, qg, qh, qi]
    refine vc_over ([]) (fun x : Nat × Nat × List Fld => [(5, .pv (.int .i64 (x.1 : Int))), (6, .pv (.int .i64 (x.2.1 : Int)))]) (fun x => [(0, .cells 127 false ((rowP x.2.2).map .pv))]) (fun x => x.2.1 ≤ l.length ∧ x.1 < x.2.1 ∧ x.2.2.length = l.length ∧ x.2.2.take x.1 = keptF q (l.take x.2.1) ∧ (keptF q (l.take x.2.1)).length = x.1 ∧ x.2.2.drop x.2.1 = l.drop x.2.1) (fun x => l.length - x.2.1) ((k, k + 1, l)) ?_; intro e0 σ0 n0 h0; simp (disch := first | exact dI | fail) only [push_cast, ↓reduceIte, qa, qb, qc, qd, qe, qf, qg, qh, qi] at h0; obtain ⟨rfl, rfl, rfl⟩ := h0; refine ⟨?_, ?_, ?_⟩
    · simp (disch := first | exact dI | fail) only [push_cast, ↓reduceIte, qa, qb, qc, qd, qe, qf, qg, qh, qi]
    · exact ⟨by simp only; omega, by simp only; omega, rfl, h3.symm, by rw [h3, List.length_take]; simp only; omega, rfl⟩
    · rintro ⟨i, j, d⟩ ⟨hj, hij, hd, ht, hlen, hdr⟩
      simp only at hj hij hd ht hlen hdr
      have hrd := rowP_len d
      by_cases hlt : j < l.length
      · have hltI : (j : Int) < l.length := by omega
        obtain ⟨x, hx⟩ : ∃ x, l[j]? = some x := ⟨_, List.getElem?_eq_getElem hlt⟩
        have hxd : d[j]? = some x := by
          have : (d.drop j)[0]? = (l.drop j)[0]? := by rw [hdr]
          simpa [hx] using this
        have hld := rowP_load hxd
        have hcall := hq x (List.mem_of_getElem? hx)
        have hset := rowP_set d i x
        obtain ⟨us, hus, hul, huo⟩ := Fld.row x
        have hone : us.all PV.one = true := List.all_eq_true.2 huo
        obtain ⟨u1, u2, u3, u4, u5, u6, u7, rfl⟩ := len_7 hul
        simp only [List.all_cons, List.all_nil, Bool.and_true, Bool.and_eq_true] at hone
        obtain ⟨o1, o2, o3, o4, o5, o6, o7⟩ := hone
        have hcx : cellF x = [.pv u1, .pv u2, .pv u3, .pv u4, .pv u5, .pv u6, .pv u7] := by
          unfold cellF; rw [hus]; rfl
        rw [hcx] at hset
        rw [hus] at hld hcall
        cases hex : q x with
        | true =>
          rw [hex] at hcall
          have hks := keptF_del hx hex
          simp (disch := first | exact dI | fail) only [hld, o1, o2, o3, o4, o5, o6, o7, push_cast, ↓reduceIte, qa, qb, qc, qd, qe, qf, qg, qh, qi]
          refine ACall.pure hcall (by exact pvs_pv (PV.agg [u1, u2, u3, u4, u5, u6, u7] :: cs)) ?_
          simp (disch := first | exact dI | fail) only [push_cast, ↓reduceIte, qa, qb, qc, qd, qe, qf, qg, qh, qi]
          exact ⟨(i, j + 1, d), hd_z (by simp (disch := first | exact dI | fail) only [push_cast, ↓reduceIte, qa, qb, qc, qd, qe, qf, qg, qh, qi]), ⟨by simp only; omega, by simp only; omega, hd, by rw [hks]; exact ht, by rw [hks]; exact hlen, by simp only; rw [← List.drop_drop, hdr, List.drop_drop]⟩, by simp only; omega⟩
        | false =>
          rw [hex] at hcall
          have hks := keptF_keep hx hex
          simp (disch := first | exact dI | fail) only [hld, o1, o2, o3, o4, o5, o6, o7, push_cast, ↓reduceIte, qa, qb, qc, qd, qe, qf, qg, qh, qi]
          refine ACall.pure hcall (by exact pvs_pv (PV.agg [u1, u2, u3, u4, u5, u6, u7] :: cs)) ?_
          simp (disch := first | exact dI | fail) only [o1, o2, o3, o4, o5, o6, o7, push_cast, ↓reduceIte, qa, qb, qc, qd, qe, qf, qg, qh, qi]
          have hfold : List.map AV.pv (List.take (i * 7) (rowP d)) ++ AV.pv u1 :: AV.pv u2 :: AV.pv u3 :: AV.pv u4 :: AV.pv u5 :: AV.pv u6 :: AV.pv u7 :: List.map AV.pv (List.drop (i * 7 + 7) (rowP d)) = List.map AV.pv (rowP (d.take i ++ x :: d.drop (i + 1))) := by
            rw [← hset]; simp [List.map_take, List.map_drop]
          rw [hfold]
          have hti : (d.take i).length = i := by rw [List.length_take]; omega
          have hdj : d.drop (j + 1) = l.drop (j + 1) := by rw [← List.drop_drop, hdr, List.drop_drop]
          have htk : (d.take i ++ x :: d.drop (i + 1)).take (i + 1) = d.take i ++ [x] := by
            rw [List.take_append, hti, List.take_of_length_le (by omega), show i + 1 - i = 1 by omega]; rfl
          have hdk : (d.take i ++ x :: d.drop (i + 1)).drop (j + 1) = l.drop (j + 1) := by
            rw [List.drop_append, hti, List.drop_eq_nil_of_le (by omega), show j + 1 - i = (j - i) + 1 by omega, List.drop_succ_cons, List.drop_drop, List.nil_append, show i + 1 + (j - i) = j + 1 by omega, hdj]
          refine ⟨(i + 1, j + 1, d.take i ++ x :: d.drop (i + 1)), hd_z (by simp (disch := first | exact dI | fail) only [push_cast, ↓reduceIte, qa, qb, qc, qd, qe, qf, qg, qh, qi]), ⟨by simp only; omega, by simp only; omega, by simp only [List.length_append, hti, List.length_cons, List.length_drop]; omega, by simp only; rw [htk, hks, ht], by simp only; rw [hks, List.length_append, hlen]; rfl, hdk⟩, by simp only; omega⟩
      · have hltI : ¬ (j : Int) < l.length := by omega
        obtain rfl : j = l.length := by omega
        rw [List.take_length] at ht hlen
        have hfin : List.take (i * 7) (List.map AV.pv (rowP d)) = List.map AV.pv (rowP (keptF q l)) := by rw [rowP_take, ht]
        have hcl : clearB 7 [PV.str [], PV.int .i64 0, PV.int .i64 0, PV.int .i64 0, PV.str [], PV.nils, PV.nils] 0 7 (i * 7) (l.length - i) (Blk.cells 127 false (List.map AV.pv (rowP d))) = some [(0, Blk.cells 127 false (List.map AV.pv (rowP (keptF q l) ++ (List.replicate (l.length - i) zeroCs).flatten)))] := by
          have e1 : List.drop (i * 7 + (l.length - i) * 7) (List.map AV.pv (rowP d)) = [] := List.drop_eq_nil_of_le (by rw [List.length_map, hrd]; omega)
          unfold clearB; dsimp only
          rw [if_pos ⟨rfl, by omega, rfl, by rw [List.length_map, hrd]; omega, rfl⟩, hfin, e1, List.append_nil, List.map_append]
          rfl
        by_cases hi : i = 0
        · subst hi
          have hk0 : keptF q l = [] := List.eq_nil_of_length_eq_zero hlen
          rw [Nat.zero_mul, Nat.sub_zero] at hcl
          simp (disch := first | exact dI | fail) only [rSliceL_row0, hcl, rSliceL_rowhi, push_cast, ↓reduceIte, qa, qb, qc, qd, qe, qf, qg, qh, qi]
          exact lent_z [] (by simp (disch := first | exact dI | fail) only [hk0, Nat.sub_zero, rowP_nil, List.nil_append, push_cast, ↓reduceIte, qa, qb, qc, qd, qe, qf, qg, qh, qi])
        · simp (disch := first | exact dI | fail) only [rSliceL_rowlo, hcl, hfin, rSliceL_rowhi, push_cast, ↓reduceIte, qa, qb, qc, qd, qe, qf, qg, qh, qi]
          exact lent_z [] (by simp (disch := first | exact dI | fail) only [hlen, push_cast, ↓reduceIte, qa, qb, qc, qd, qe, qf, qg, qh, qi])
end Go.Proofs.YtikmckfppnmlnaaDoor
