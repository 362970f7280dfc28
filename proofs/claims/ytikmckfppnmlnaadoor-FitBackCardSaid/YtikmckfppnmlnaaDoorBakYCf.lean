/- A part of the proof for FitBackCardSaid. -/
import Derived.Test.YtikmckfppnmlnaaDoorBakYCe
set_option maxRecDepth 100000
set_option linter.unusedVariables false
set_option linter.unusedSimpArgs false
namespace Go.Proofs.YtikmckfppnmlnaaDoor
open Go Go.Ab
open Nat renaming reduceEqDiff → qa, reduceAdd → qb, reduceMul → qc, reduceLeDiff → qd, reduceLT → qe, reduceBEq → qf, reduceSub → qg
open Int renaming reduceToNat → qh, reduceNeg → qi
attribute [local irreducible] vc
theorem insAt_insF (l : List Fld) (x : Fld) : insAt l (posF l x.name) x = insF l x := by rw [insF_pos]; rfl
theorem insA_nil (l : List Fld) : insA l [] = l := rfl
set_option maxHeartbeats 4000000 in
theorem com68_rec (R : Typ → Val → Val) (t : Typ) (v : Val) (hkt : v.kind = t.kind) (hk : v.kind = 9) (hf : formedV v = true) (hvl : v.lst.length ≤ 300) (hvf : v.fields.length ≤ 300) (hvt : v.text.length ≤ 100000) (ht : t.fields.length ≤ 300)
    (hg : ∀ x ∈ v.fields, ∀ f, t.fields.find? (named x.name) = some f → Pure Tryd.prog tabG 68 [f.typ.pv, x.value.pv] (R f.typ x.value).pv) :
    Pure Tryd.prog tabG 68 [t.pv, v.pv] (Val.mk v.kind v.num v.scale v.text v.lst (insA (v.fields.map (redF R t.fields)) t.fields)).pv := by
  have h84 := formed84 v (by omega) (by omega) (by omega)
  rw [hf] at h84
  have h99 := inner99_row 68 R t v (by omega) hvf ht hg
  have hs0 : Srt (v.fields.map (redF R t.fields)) := srt_map (redF_name R t.fields) (up_srt (formed9 hk hf))
  have hl0 : (v.fields.map (redF R t.fields)).length ≤ 300 := by simpa using hvf
  generalize v.fields.map (redF R t.fields) = L0 at *
  obtain ⟨k, m, M, s, w, el, fs⟩ := t
  obtain ⟨vk, vi, vs, vt, vl, vf⟩ := v
  simp only [Val.kind, Typ.kind, Val.num, Val.scale, Val.text, Val.lst, Val.fields, Typ.fields] at *
  subst hk hkt
  clear hg
  simp only [Typ.pv_mk, Val.pv_mk] at *
  refine Pure.intro F68_ok (by simp [F68]) ?_
  simp (disch := first | exact dI | fail) only [F68o0, F68o1, F68o2, F68o3, F68o4, F68o5, F68o6, F68o7, F68o8, F68o9, F68o10, F68o11, F68o12, F68p12, F68o13, F68b14, F68o15, F68c, F68, push_cast, ↓reduceIte, qa, qb, qc, qd, qe, qf, qg, qh, qi]
  refine ACall.pure h84 rfl ?_
  simp (disch := first | exact dI | fail) only [push_cast, ↓reduceIte, qa, qb, qc, qd, qe, qf, qg, qh, qi]
  refine ACall.lentK h99 [] rfl (by simp (disch := first | exact dI | fail) only [push_cast, ↓reduceIte, qa, qb, qc, qd, qe, qf, qg, qh, qi]) (by simp (disch := first | exact dI | fail) only [push_cast, ↓reduceIte, qa, qb, qc, qd, qe, qf, qg, qh, qi]) ?_
  simp (disch := first | exact dI | fail) only [push_cast, ↓reduceIte, qa, qb, qc, qd, qe, qf, qg, qh, qi]
  refine vc_over ([]) (fun i : Nat => [(31, .pv (.int .i64 (i : Int)))]) (fun i => [(1, .cells 62 true [.pv (.int .i64 9), .pv (.int .i64 vi), .pv (.int .i64 vs), .pv (.str vt), .pv (.list (vl.map Val.pv)), .row 2 7 0 (insA L0 (fs.take i)).length]), (2, .cells 127 false ((rowP (insA L0 (fs.take i))).map .pv))]) (fun i => i ≤ fs.length) (fun i => fs.length - i) (0) ?_; intro e0 σ0 n0 h0; simp (disch := first | exact dI | fail) only [push_cast, ↓reduceIte, qa, qb, qc, qd, qe, qf, qg, qh, qi] at h0; obtain ⟨rfl, rfl, rfl⟩ := h0; refine ⟨?_, ?_, ?_⟩
  · simp (disch := first | exact dI | fail) only [List.take_zero, insA_nil, push_cast, ↓reduceIte, qa, qb, qc, qd, qe, qf, qg, qh, qi]
  · omega
  · intro i hi
    have hS := srt_insA (fs.take i) L0 hs0
    have hSl := insA_len (fs.take i) L0
    rw [List.length_take, Nat.min_eq_left hi] at hSl
    by_cases hlt : i < fs.length
    · have hltI : (i : Int) < fs.length := by omega
      obtain ⟨f, hx⟩ : ∃ f, fs[i]? = some f := ⟨_, List.getElem?_eq_getElem hlt⟩
      have hsn := take_snoc hx
      have hin := insA_snoc L0 (fs.take i) f
      obtain ⟨S, hSe⟩ : ∃ S, insA L0 (fs.take i) = S := ⟨_, rfl⟩
      rw [hSe] at hS hSl hin ⊢
      rw [← hsn] at hin
      have h100 := search100 S f.name hS (by omega)
      by_cases hn : f.need = 3
      · by_cases hd : f.dflt.length = 1
        · obtain ⟨d, hd1⟩ := List.length_eq_one_iff.1 hd
          have hdf : dfl f = some d := by unfold dfl; rw [if_pos hn, hd1]
          cases hh : hasF S f.name with
          | true =>
            rw [insD_has hh] at hin
            rw [hh] at h100
            obtain ⟨f1, f2, f3, ⟨g1, g2, g3, g4, g5, g6, g7⟩, f5⟩ := f
            simp only [TFd.need, TFd.dflt, TFd.name] at hn hd1 h100
            subst hn hd1
            simp (disch := first | exact dI | fail) only [hx, TFd.pv_mk, Typ.pv_mk, List.map_cons, List.map_nil, push_cast, ↓reduceIte, qa, qb, qc, qd, qe, qf, qg, qh, qi]
            refine ACall.lentK h100 [2] rfl (by simp (disch := first | exact dI | fail) only [push_cast, ↓reduceIte, qa, qb, qc, qd, qe, qf, qg, qh, qi]) (by simp (disch := first | exact dI | fail) only [push_cast, ↓reduceIte, qa, qb, qc, qd, qe, qf, qg, qh, qi]) ?_
            simp (disch := first | exact dI | fail) only [push_cast, ↓reduceIte, qa, qb, qc, qd, qe, qf, qg, qh, qi]
            exact ⟨i + 1, hd_z (by simp (disch := first | exact dI | fail) only [hin, push_cast, ↓reduceIte, qa, qb, qc, qd, qe, qf, qg, qh, qi]), by omega, by omega⟩
          | false =>
            have hp := posF_le S f.name
            have h103 := insert103 S (.mk f.name d) (posF S f.name) hp (by omega)
            have hif := insAt_insF S (.mk f.name d)
            simp only [Fld.name] at hif
            rw [hif] at h103
            have hfl := insF_len S (.mk f.name d)
            rw [insD_ins hdf hh] at hin
            rw [hh] at h100
            generalize insF S (.mk f.name d) = S' at *
            obtain ⟨f1, f2, f3, ⟨g1, g2, g3, g4, g5, g6, g7⟩, f5⟩ := f
            obtain ⟨d1, d2, d3, d4, d5, d6⟩ := d
            simp only [TFd.need, TFd.dflt, TFd.name] at hn hd1 h100 h103
            simp only [Fld.pv_mk, Val.pv_mk, PV.cells, List.cons_append, List.nil_append] at h103
            subst hn hd1
            simp (disch := first | exact dI | fail) only [hx, TFd.pv_mk, Typ.pv_mk, List.map_cons, List.map_nil, push_cast, ↓reduceIte, qa, qb, qc, qd, qe, qf, qg, qh, qi]
            refine ACall.lentK h100 [2] rfl (by simp (disch := first | exact dI | fail) only [push_cast, ↓reduceIte, qa, qb, qc, qd, qe, qf, qg, qh, qi]) (by simp (disch := first | exact dI | fail) only [push_cast, ↓reduceIte, qa, qb, qc, qd, qe, qf, qg, qh, qi]) ?_
            simp (disch := first | exact dI | fail) only [rElem_zero, List.getElem?_cons_zero, Val.pv_mk, push_cast, ↓reduceIte, qa, qb, qc, qd, qe, qf, qg, qh, qi]
            refine ACall.lentK h103 [2, 14] rfl (by simp (disch := first | exact dI | fail) only [push_cast, ↓reduceIte, qa, qb, qc, qd, qe, qf, qg, qh, qi]) (by simp (disch := first | exact dI | fail) only [push_cast, ↓reduceIte, qa, qb, qc, qd, qe, qf, qg, qh, qi]) ?_
            simp (disch := first | exact dI | fail) only [push_cast, ↓reduceIte, qa, qb, qc, qd, qe, qf, qg, qh, qi]
            exact ⟨i + 1, hd_z (by simp (disch := first | exact dI | fail) only [hin, hfl, push_cast, ↓reduceIte, qa, qb, qc, qd, qe, qf, qg, qh, qi]), by omega, by omega⟩
        · have hdf : dfl f = none := by
            unfold dfl; rw [if_pos hn]
            split
            · rename_i e; rw [e] at hd; exact absurd rfl hd
            · rfl
          rw [insD_none hdf] at hin
          obtain ⟨f1, f2, f3, ⟨g1, g2, g3, g4, g5, g6, g7⟩, f5⟩ := f
          simp only [TFd.need, TFd.dflt, TFd.name] at hn hd
          subst hn
          have hdI : ¬ (f5.length : Int) = 1 := by omega
          simp (disch := first | exact dI | fail) only [hx, TFd.pv_mk, Typ.pv_mk, push_cast, ↓reduceIte, qa, qb, qc, qd, qe, qf, qg, qh, qi]
          exact ⟨i + 1, hd_z (by simp (disch := first | exact dI | fail) only [hin, push_cast, ↓reduceIte, qa, qb, qc, qd, qe, qf, qg, qh, qi]), by omega, by omega⟩
      · have hdf : dfl f = none := by unfold dfl; rw [if_neg hn]
        rw [insD_none hdf] at hin
        obtain ⟨f1, f2, f3, ⟨g1, g2, g3, g4, g5, g6, g7⟩, f5⟩ := f
        simp only [TFd.need, TFd.dflt, TFd.name] at hn
        simp (disch := first | exact dI | fail) only [hx, TFd.pv_mk, Typ.pv_mk, push_cast, ↓reduceIte, qa, qb, qc, qd, qe, qf, qg, qh, qi]
        exact ⟨i + 1, hd_z (by simp (disch := first | exact dI | fail) only [hin, push_cast, ↓reduceIte, qa, qb, qc, qd, qe, qf, qg, qh, qi]), by omega, by omega⟩
    · have hltI : ¬ (i : Int) < fs.length := by omega
      rw [take_end hlt]
      obtain ⟨S, hSe⟩ : ∃ S, insA L0 fs = S := ⟨_, rfl⟩
      rw [hSe]
      have hfz : frzB 7 S.length 2 (.cells 127 false ((rowP S).map .pv)) = some (.list (S.map Fld.pv), [2]) := by
        have := frzF (n := S.length) (r := 2) (b := false) S [] rfl
        rwa [List.append_nil] at this
      simp (disch := first | exact dI | fail) only [hfz, push_cast, ↓reduceIte, qa, qb, qc, qd, qe, qf, qg, qh, qi]
end Go.Proofs.YtikmckfppnmlnaaDoor
