/- A part of the proof for FitReducesSameCardSaid. -/
import Derived.Test.YtikmckfppnmlnaaDoorSamYB
set_option maxRecDepth 100000
set_option linter.unusedVariables false
set_option linter.unusedSimpArgs false
namespace Go.Proofs.YtikmckfppnmlnaaDoor
open Go Go.Ab
open Nat renaming reduceEqDiff → qa, reduceAdd → qb, reduceMul → qc, reduceLeDiff → qd, reduceLT → qe, reduceBEq → qf, reduceSub → qg
open Int renaming reduceToNat → qh, reduceNeg → qi
attribute [local irreducible] vc
set_option maxHeartbeats 4000000 in
theorem same32_t : ∀ (n : Nat) (a : Val), dep n a → Pure Tryd.prog tabG 32 [a.pv, a.pv] (.bool true)
  | 0, a, h => h.elim
  | n + 1, a, hd => by
    have ih := same32_t n
    obtain ⟨w1, w2, w3, w4, w5, w6⟩ := a
    simp only [dep, Val.lst, Val.fields, Val.text] at hd
    obtain ⟨d1, d2, d3, d4, d5⟩ := hd
    refine Pure.intro F32_ok (by simp [F32]) ?_
    simp (disch := first | exact dI | fail) only [F32o0, F32o1, F32o2, F32o3, F32o4, F32o5, F32p5, F32o6, F32o7, F32b8, F32o9, F32o10, F32o11, F32p11, F32o12, F32o13, F32b14, F32o15, F32c, F32, Val.pv_mk, push_cast, ↓reduceIte, qa, qb, qc, qd, qe, qf, qg, qh, qi]
    refine vc_over ([]) (fun m : Nat => [(5, .pv (.int .i64 (m : Int)))]) (fun m => []) (fun m => m ≤ w5.length) (fun m => w5.length - m) (0) ?_; intro e0 σ0 n0 h0; simp (disch := first | exact dI | fail) only [push_cast, ↓reduceIte, qa, qb, qc, qd, qe, qf, qg, qh, qi] at h0; obtain ⟨rfl, rfl, rfl⟩ := h0; refine ⟨?_, ?_, ?_⟩
    · simp (disch := first | exact dI | fail) only [push_cast, ↓reduceIte, qa, qb, qc, qd, qe, qf, qg, qh, qi]
    · omega
    · intro m hm
      by_cases hlt : m < w5.length
      · have hltI : (m : Int) < w5.length := by omega
        obtain ⟨x, hx⟩ : ∃ x, w5[m]? = some x := ⟨_, List.getElem?_eq_getElem hlt⟩
        have hcall := ih x (d4 x (List.mem_of_getElem? hx))
        obtain ⟨z1, z2, z3, z4, z5, z6⟩ := x
        simp only [Val.pv_mk] at hcall
        simp (disch := first | exact dI | fail) only [hx, Val.pv_mk, push_cast, ↓reduceIte, qa, qb, qc, qd, qe, qf, qg, qh, qi]
        refine ACall.pure hcall rfl ?_
        simp (disch := first | exact dI | fail) only [push_cast, ↓reduceIte, qa, qb, qc, qd, qe, qf, qg, qh, qi]
        exact ⟨m + 1, hd_z (by simp (disch := first | exact dI | fail) only [push_cast, ↓reduceIte, qa, qb, qc, qd, qe, qf, qg, qh, qi]), by omega, by omega⟩
      · have hltI : ¬ (m : Int) < w5.length := by omega
        simp (disch := first | exact dI | fail) only [push_cast, ↓reduceIte, qa, qb, qc, qd, qe, qf, qg, qh, qi]
        refine vc_over ([]) (fun m : Nat => [(6, .pv (.int .i64 (m : Int)))]) (fun m => []) (fun m => m ≤ w6.length) (fun m => w6.length - m) (0) ?_; intro e0 σ0 n0 h0; simp (disch := first | exact dI | fail) only [push_cast, ↓reduceIte, qa, qb, qc, qd, qe, qf, qg, qh, qi] at h0; obtain ⟨rfl, rfl, rfl⟩ := h0; refine ⟨?_, ?_, ?_⟩
        · simp (disch := first | exact dI | fail) only [push_cast, ↓reduceIte, qa, qb, qc, qd, qe, qf, qg, qh, qi]
        · omega
        · intro m hm
          by_cases hlt : m < w6.length
          · have hltI : (m : Int) < w6.length := by omega
            obtain ⟨x, hx⟩ : ∃ x, w6[m]? = some x := ⟨_, List.getElem?_eq_getElem hlt⟩
            have hcall := ih x.value (d5 x (List.mem_of_getElem? hx)).2
            obtain ⟨z0, ⟨z1, z2, z3, z4, z5, z6⟩⟩ := x
            simp only [Fld.value, Val.pv_mk] at hcall
            simp (disch := first | exact dI | fail) only [hx, Fld.pv_mk, Val.pv_mk, push_cast, ↓reduceIte, qa, qb, qc, qd, qe, qf, qg, qh, qi]
            refine ACall.pure hcall rfl ?_
            simp (disch := first | exact dI | fail) only [push_cast, ↓reduceIte, qa, qb, qc, qd, qe, qf, qg, qh, qi]
            exact ⟨m + 1, hd_z (by simp (disch := first | exact dI | fail) only [push_cast, ↓reduceIte, qa, qb, qc, qd, qe, qf, qg, qh, qi]), by omega, by omega⟩
          · have hltI : ¬ (m : Int) < w6.length := by omega
            simp (disch := first | exact dI | fail) only [push_cast, ↓reduceIte, qa, qb, qc, qd, qe, qf, qg, qh, qi]
theorem take_same {α : Type} {l k : List α} {m : Nat} {x : α} (h : l.take m = k.take m) (hx : l[m]? = some x) (hy : k[m]? = some x) : l.take (m + 1) = k.take (m + 1) := by
  rw [take_snoc hx, take_snoc hy, h]
set_option maxHeartbeats 4000000 in
theorem same32_f : ∀ (n : Nat) (a b : Val), dep n a → ¬ a = b → Pure Tryd.prog tabG 32 [a.pv, b.pv] (.bool false)
  | 0, a, b, h, _ => h.elim
  | n + 1, a, b, hd, hab => by
    have ih := same32_f n
    have iht := same32_t n
    obtain ⟨w1, w2, w3, w4, w5, w6⟩ := a
    obtain ⟨z1, z2, z3, z4, z5, z6⟩ := b
    simp only [dep, Val.lst, Val.fields, Val.text] at hd
    obtain ⟨d1, d2, d3, d4, d5⟩ := hd
    rw [Val.mk.injEq] at hab
    refine Pure.intro F32_ok (by simp [F32]) ?_
    by_cases e1 : w1 = z1
    · by_cases e2 : w2 = z2
      · by_cases e3 : w3 = z3
        · by_cases e4 : w4 = z4
          · by_cases e5 : w5.length = z5.length
            · have e5I : (w5.length : Int) = z5.length := by omega
              by_cases e6 : w6.length = z6.length
              · have e6I : (w6.length : Int) = z6.length := by omega
                subst e1 e2 e3 e4
                simp (disch := first | exact dI | fail) only [F32o0, F32o1, F32o2, F32o3, F32o4, F32o5, F32p5, F32o6, F32o7, F32b8, F32o9, F32o10, F32o11, F32p11, F32o12, F32o13, F32b14, F32o15, F32c, F32, Val.pv_mk, e5I, e6I, push_cast, ↓reduceIte, qa, qb, qc, qd, qe, qf, qg, qh, qi]
                refine vc_over ([]) (fun m : Nat => [(5, .pv (.int .i64 (m : Int)))]) (fun m => []) (fun m => m ≤ w5.length ∧ w5.take m = z5.take m) (fun m => w5.length - m) (0) ?_; intro e0 σ0 n0 h0; simp (disch := first | exact dI | fail) only [push_cast, ↓reduceIte, qa, qb, qc, qd, qe, qf, qg, qh, qi] at h0; obtain ⟨rfl, rfl, rfl⟩ := h0; refine ⟨?_, ?_, ?_⟩
                · simp (disch := first | exact dI | fail) only [push_cast, ↓reduceIte, qa, qb, qc, qd, qe, qf, qg, qh, qi]
                · exact ⟨Nat.zero_le _, rfl⟩
                · rintro m ⟨hm, hpre⟩
                  by_cases hlt : m < w5.length
                  · have hltI : (m : Int) < w5.length := by omega
                    have hltI2 : (m : Int) < z5.length := by omega
                    obtain ⟨x, hx⟩ : ∃ x, w5[m]? = some x := ⟨_, List.getElem?_eq_getElem hlt⟩
                    obtain ⟨y, hy⟩ : ∃ y, z5[m]? = some y := ⟨_, List.getElem?_eq_getElem (by omega)⟩
                    by_cases hxy : x = y
                    · subst hxy
                      have hcall := iht x (d4 x (List.mem_of_getElem? hx))
                      have hnx := take_same hpre hx hy
                      obtain ⟨v1, v2, v3, v4, v5, v6⟩ := x
                      simp only [Val.pv_mk] at hcall
                      simp (disch := first | exact dI | fail) only [hx, hy, Val.pv_mk, push_cast, ↓reduceIte, qa, qb, qc, qd, qe, qf, qg, qh, qi]
                      refine ACall.pure hcall rfl ?_
                      simp (disch := first | exact dI | fail) only [push_cast, ↓reduceIte, qa, qb, qc, qd, qe, qf, qg, qh, qi]
                      exact ⟨m + 1, hd_z (by simp (disch := first | exact dI | fail) only [push_cast, ↓reduceIte, qa, qb, qc, qd, qe, qf, qg, qh, qi]), ⟨by omega, hnx⟩, by omega⟩
                    · have hcall := ih x y (d4 x (List.mem_of_getElem? hx)) hxy
                      obtain ⟨v1, v2, v3, v4, v5, v6⟩ := x
                      obtain ⟨u1, u2, u3, u4, u5, u6⟩ := y
                      simp only [Val.pv_mk] at hcall
                      simp (disch := first | exact dI | fail) only [hx, hy, Val.pv_mk, push_cast, ↓reduceIte, qa, qb, qc, qd, qe, qf, qg, qh, qi]
                      refine ACall.pure hcall rfl ?_
                      simp (disch := first | exact dI | fail) only [push_cast, ↓reduceIte, qa, qb, qc, qd, qe, qf, qg, qh, qi]
                  · have hltI : ¬ (m : Int) < w5.length := by omega
                    have hltI2 : ¬ (m : Int) < z5.length := by omega
                    have h55 : w5 = z5 := by
                      have a1 : w5.take m = w5 := List.take_of_length_le (by omega)
                      have a2 : z5.take m = z5 := List.take_of_length_le (by omega)
                      rw [← a1, ← a2]; exact hpre
                    simp (disch := first | exact dI | fail) only [push_cast, ↓reduceIte, qa, qb, qc, qd, qe, qf, qg, qh, qi]
                    refine vc_over ([]) (fun m : Nat => [(6, .pv (.int .i64 (m : Int)))]) (fun m => []) (fun m => m ≤ w6.length ∧ w6.take m = z6.take m) (fun m => w6.length - m) (0) ?_; intro e0 σ0 n0 h0; simp (disch := first | exact dI | fail) only [push_cast, ↓reduceIte, qa, qb, qc, qd, qe, qf, qg, qh, qi] at h0; obtain ⟨rfl, rfl, rfl⟩ := h0; refine ⟨?_, ?_, ?_⟩
                    · simp (disch := first | exact dI | fail) only [push_cast, ↓reduceIte, qa, qb, qc, qd, qe, qf, qg, qh, qi]
                    · exact ⟨Nat.zero_le _, rfl⟩
                    · rintro m ⟨hm, hpre⟩
                      by_cases hlt : m < w6.length
                      · have hltI : (m : Int) < w6.length := by omega
                        have hltI2 : (m : Int) < z6.length := by omega
                        obtain ⟨x, hx⟩ : ∃ x, w6[m]? = some x := ⟨_, List.getElem?_eq_getElem hlt⟩
                        obtain ⟨y, hy⟩ : ∃ y, z6[m]? = some y := ⟨_, List.getElem?_eq_getElem (by omega)⟩
                        have hdx := (d5 x (List.mem_of_getElem? hx)).2
                        obtain ⟨xn, xv⟩ := x
                        obtain ⟨yn, yv⟩ := y
                        simp only [Fld.value] at hdx
                        by_cases hn : xn = yn
                        · subst hn
                          by_cases hxy : xv = yv
                          · subst hxy
                            have hcall := iht xv hdx
                            have hnx := take_same hpre hx hy
                            obtain ⟨v1, v2, v3, v4, v5, v6⟩ := xv
                            simp only [Val.pv_mk] at hcall
                            simp (disch := first | exact dI | fail) only [hx, hy, Fld.pv_mk, Val.pv_mk, push_cast, ↓reduceIte, qa, qb, qc, qd, qe, qf, qg, qh, qi]
                            refine ACall.pure hcall rfl ?_
                            simp (disch := first | exact dI | fail) only [push_cast, ↓reduceIte, qa, qb, qc, qd, qe, qf, qg, qh, qi]
                            exact ⟨m + 1, hd_z (by simp (disch := first | exact dI | fail) only [push_cast, ↓reduceIte, qa, qb, qc, qd, qe, qf, qg, qh, qi]), ⟨by omega, hnx⟩, by omega⟩
                          · have hcall := ih xv yv hdx hxy
                            obtain ⟨v1, v2, v3, v4, v5, v6⟩ := xv
                            obtain ⟨u1, u2, u3, u4, u5, u6⟩ := yv
                            simp only [Val.pv_mk] at hcall
                            simp (disch := first | exact dI | fail) only [hx, hy, Fld.pv_mk, Val.pv_mk, push_cast, ↓reduceIte, qa, qb, qc, qd, qe, qf, qg, qh, qi]
                            refine ACall.pure hcall rfl ?_
                            simp (disch := first | exact dI | fail) only [push_cast, ↓reduceIte, qa, qb, qc, qd, qe, qf, qg, qh, qi]
                        · obtain ⟨v1, v2, v3, v4, v5, v6⟩ := xv
                          obtain ⟨u1, u2, u3, u4, u5, u6⟩ := yv
                          simp (disch := first | exact dI | fail) only [hx, hy, Fld.pv_mk, Val.pv_mk, hn, push_cast, ↓reduceIte, qa, qb, qc, qd, qe, qf, qg, qh, qi]
                      · have h66 : w6 = z6 := by
                          have a1 : w6.take m = w6 := List.take_of_length_le (by omega)
                          have a2 : z6.take m = z6 := List.take_of_length_le (by omega)
                          rw [← a1, ← a2]; exact hpre
                        exact absurd ⟨rfl, rfl, rfl, rfl, h55, h66⟩ hab
              · have e6I : ¬ (w6.length : Int) = z6.length := by omega
                simp (disch := first | exact dI | fail) only [F32o0, F32o1, F32o2, F32o3, F32o4, F32o5, F32p5, F32o6, F32o7, F32b8, F32o9, F32o10, F32o11, F32p11, F32o12, F32o13, F32b14, F32o15, F32c, F32, Val.pv_mk, e1, e2, e3, e4, e5I, e6I, push_cast, ↓reduceIte, qa, qb, qc, qd, qe, qf, qg, qh, qi]
            · have e5I : ¬ (w5.length : Int) = z5.length := by omega
              simp (disch := first | exact dI | fail) only [F32o0, F32o1, F32o2, F32o3, F32o4, F32o5, F32p5, F32o6, F32o7, F32b8, F32o9, F32o10, F32o11, F32p11, F32o12, F32o13, F32b14, F32o15, F32c, F32, Val.pv_mk, e1, e2, e3, e4, e5I, push_cast, ↓reduceIte, qa, qb, qc, qd, qe, qf, qg, qh, qi]
          · simp (disch := first | exact dI | fail) only [F32o0, F32o1, F32o2, F32o3, F32o4, F32o5, F32p5, F32o6, F32o7, F32b8, F32o9, F32o10, F32o11, F32p11, F32o12, F32o13, F32b14, F32o15, F32c, F32, Val.pv_mk, e1, e2, e3, e4, push_cast, ↓reduceIte, qa, qb, qc, qd, qe, qf, qg, qh, qi]
        · simp (disch := first | exact dI | fail) only [F32o0, F32o1, F32o2, F32o3, F32o4, F32o5, F32p5, F32o6, F32o7, F32b8, F32o9, F32o10, F32o11, F32p11, F32o12, F32o13, F32b14, F32o15, F32c, F32, Val.pv_mk, e1, e2, e3, push_cast, ↓reduceIte, qa, qb, qc, qd, qe, qf, qg, qh, qi]
      · simp (disch := first | exact dI | fail) only [F32o0, F32o1, F32o2, F32o3, F32o4, F32o5, F32p5, F32o6, F32o7, F32b8, F32o9, F32o10, F32o11, F32p11, F32o12, F32o13, F32b14, F32o15, F32c, F32, Val.pv_mk, e1, e2, push_cast, ↓reduceIte, qa, qb, qc, qd, qe, qf, qg, qh, qi]
    · simp (disch := first | exact dI | fail) only [F32o0, F32o1, F32o2, F32o3, F32o4, F32o5, F32p5, F32o6, F32o7, F32b8, F32o9, F32o10, F32o11, F32p11, F32o12, F32o13, F32b14, F32o15, F32c, F32, Val.pv_mk, e1, push_cast, ↓reduceIte, qa, qb, qc, qd, qe, qf, qg, qh, qi]
def delB (n : Nat) (fs : List TFd) (x : Fld) : Bool :=
  match fs.find? (named x.name) with
  | some f => if f.need = 3 then (match f.dflt with | [d] => decide (cmpV n d x.value = 0) | _ => false) else false
  | none => false
section
variable {n : Nat} {fs : List TFd} {x : Fld}
theorem delB_none (h : fs.find? (named x.name) = none) : delB n fs x = false := by unfold delB; rw [h]
theorem delB_need {f : TFd} (h : fs.find? (named x.name) = some f) (hn : ¬ f.need = 3) : delB n fs x = false := by unfold delB; rw [h]; exact if_neg hn
theorem delB_one {f : TFd} {d : Val} (h : fs.find? (named x.name) = some f) (hn : f.need = 3) (hd : f.dflt = [d]) : delB n fs x = decide (cmpV n d x.value = 0) := by
  unfold delB; rw [h]; simp only; rw [if_pos hn, hd]
theorem delB_len {f : TFd} (h : fs.find? (named x.name) = some f) (hl : ¬ f.dflt.length = 1) : delB n fs x = false := by
  unfold delB; rw [h]; simp only
  split
  · split
    · rename_i d hd; rw [hd] at hl; exact absurd rfl hl
    · rfl
  · rfl
end
theorem clo97 (t : Typ) (x : Fld) (n : Nat) (hf : t.fields.length ≤ 300) (hd : ∀ f ∈ t.fields, ∀ d ∈ f.dflt, dep n d ∧ d.ok) (hxo : x.ok) : Pure Tryd.prog tabG 97 [x.pv, .eptr [t.pv] 0 0] (.bool (delB n t.fields x)) := by
  generalize hr : delB n t.fields x = r
  have h89 := typeField89 t x.name (by omega)
  obtain ⟨xn, xv⟩ := x
  rw [Fld.ok_mk] at hxo
  obtain ⟨k, m, M, s, w, e, fs⟩ := t
  simp only [Typ.fields, Fld.name, Fld.value, Typ.pv_mk] at *
  refine Pure.intro F97_ok (by simp [F97]) ?_
  cases hfd : fs.find? (named xn) with
  | none =>
    rw [delB_none (by exact hfd)] at hr
    rw [hfd] at h89
    subst hr
    obtain ⟨v1, v2, v3, v4, v5, v6⟩ := xv
    simp only [tfR, Option.getD_none, Option.isSome_none, zeroTF, TFd.pv_mk, Typ.pv_mk, List.map_nil] at h89
    simp (disch := first | exact dI | fail) only [F97o0, F97o1, F97o2, F97p2, F97c, F97, Fld.pv_mk, Val.pv_mk, Typ.pv_mk, push_cast, ↓reduceIte, qa, qb, qc, qd, qe, qf, qg, qh, qi]
    refine ACall.pure h89 rfl ?_
    simp (disch := first | exact dI | fail) only [push_cast, ↓reduceIte, qa, qb, qc, qd, qe, qf, qg, qh, qi]
  | some f =>
    rw [hfd] at h89
    have hdf := hd f (List.mem_of_find?_eq_some hfd)
    obtain ⟨f1, f2, f3, ⟨g1, g2, g3, g4, g5, g6, g7⟩, f5⟩ := f
    simp only [TFd.dflt] at hdf
    simp only [tfR, Option.getD_some, Option.isSome_some, TFd.pv_mk, Typ.pv_mk] at h89
    by_cases hn : f3 = 3
    · by_cases hl : f5.length = 1
      · obtain ⟨d, rfl⟩ := List.length_eq_one_iff.1 hl
        obtain ⟨hd1, hd2⟩ := hdf d (by simp)
        have h98 := equal98 n d xv hd1 hd2 hxo.2
        rw [delB_one (by exact hfd) (by exact hn) rfl] at hr
        have h98 : Pure Tryd.prog tabG 98 [d.pv, xv.pv] (.bool r) := by rw [← hr]; exact h98
        subst hn
        obtain ⟨v1, v2, v3, v4, v5, v6⟩ := xv
        obtain ⟨c1, c2, c3, c4, c5, c6⟩ := d
        simp only [Val.pv_mk] at h98
        simp (disch := first | exact dI | fail) only [F97o0, F97o1, F97o2, F97p2, F97c, F97, Fld.pv_mk, Val.pv_mk, Typ.pv_mk, push_cast, ↓reduceIte, qa, qb, qc, qd, qe, qf, qg, qh, qi]
        refine ACall.pure h89 rfl ?_
        simp (disch := first | exact dI | fail) only [rElem_zero, List.getElem?_cons_zero, List.map_cons, List.map_nil, Val.pv_mk, push_cast, ↓reduceIte, qa, qb, qc, qd, qe, qf, qg, qh, qi]
        refine ACall.pure h98 rfl ?_
        simp (disch := first | exact dI | fail) only [push_cast, ↓reduceIte, qa, qb, qc, qd, qe, qf, qg, qh, qi]
      · have hlI : ¬ (f5.length : Int) = 1 := by omega
        have hr2 : r = false := by rw [← hr]; exact delB_len (by exact hfd) (by exact hl)
        subst hn
        rw [hr2]
        obtain ⟨v1, v2, v3, v4, v5, v6⟩ := xv
        simp (disch := first | exact dI | fail) only [F97o0, F97o1, F97o2, F97p2, F97c, F97, Fld.pv_mk, Val.pv_mk, Typ.pv_mk, push_cast, ↓reduceIte, qa, qb, qc, qd, qe, qf, qg, qh, qi]
        refine ACall.pure h89 rfl ?_
        simp (disch := first | exact dI | fail) only [push_cast, ↓reduceIte, qa, qb, qc, qd, qe, qf, qg, qh, qi]
    · have hr2 : r = false := by rw [← hr]; exact delB_need (by exact hfd) (by exact hn)
      rw [hr2]
      obtain ⟨v1, v2, v3, v4, v5, v6⟩ := xv
      simp (disch := first | exact dI | fail) only [F97o0, F97o1, F97o2, F97p2, F97c, F97, Fld.pv_mk, Val.pv_mk, Typ.pv_mk, push_cast, ↓reduceIte, qa, qb, qc, qd, qe, qf, qg, qh, qi]
      refine ACall.pure h89 rfl ?_
      simp (disch := first | exact dI | fail) only [push_cast, ↓reduceIte, qa, qb, qc, qd, qe, qf, qg, qh, qi]
end Go.Proofs.YtikmckfppnmlnaaDoor
