/- A part of the proof for FitBackCardSaid. -/
import Derived.Test.YtikmckfppnmlnaaDoorBakYZ3
import Derived.Test.YtikmckfppnmlnaaDoorBakF
set_option maxRecDepth 100000
set_option linter.unusedVariables false
set_option linter.unusedSimpArgs false
namespace Go.Proofs.YtikmckfppnmlnaaDoor
open Go Go.Ab
open Nat renaming reduceEqDiff → qa, reduceAdd → qb, reduceMul → qc, reduceLeDiff → qd, reduceLT → qe, reduceBEq → qf, reduceSub → qg
open Int renaming reduceToNat → qh, reduceNeg → qi
attribute [local irreducible] vc
section
variable (g : Nat) (R : Typ → Val → Val)
set_option maxHeartbeats 4000000 in
theorem inner99_list (t : Typ) (v : Val) (e : Typ) (hk : t.kind = 8) (he : t.elem = [e]) (hl : v.lst.length ≤ 300) (hg : ∀ x ∈ v.lst, Pure Tryd.prog tabG g [e.pv, x.pv] (R e x).pv) :
    Pure Tryd.prog tabG 99 [t.pv, v.pv, .clo g [] []] (Val.mk v.kind v.num v.scale v.text (v.lst.map (R e)) v.fields).pv := by
  obtain ⟨k, m, M, s, w, el, fs⟩ := t
  obtain ⟨vk, vi, vs, vt, vl, vf⟩ := v
  simp only [Val.lst, Val.fields, Val.text, Typ.fields, Typ.words, Typ.elem, Typ.kind, Val.kind, Val.num, Val.scale] at *
  subst hk he
  generalize hF : R e = F at *
  obtain ⟨y1, y2, y3, y4, y5, y6, y7⟩ := e
  refine Pure.intro F1099_ok (by simp [F1099]) ?_
  simp (disch := first | exact dI | fail) only [F1099o0, F1099o1, F1099o2, F1099o3, F1099o4, F1099o5, F1099o6, F1099o7, F1099p7, F1099o8, F1099b9, F1099o10, F1099o11, F1099o12, F1099o13, F1099o14, F1099o15, F1099o16, F1099o17, F1099o18, F1099o19, F1099b20, F1099o21, F1099o22, F1099o23, F1099o24, F1099p24, F1099o25, F1099c, F1099, Typ.pv_mk, Val.pv_mk, List.map_cons, List.map_nil, push_cast, ↓reduceIte, qa, qb, qc, qd, qe, qf, qg, qh, qi]
  refine vc_over ([(7, 5, 62, 6)]) (fun i : Nat => [(31, .pv (.int .i64 (i : Int)))]) (fun i => [(1, .cells 62 true [.pv (.int .i64 vk), .pv (.int .i64 vi), .pv (.int .i64 vs), .pv (.str vt), .olist 2 6 (((vl.take i).map F).map Val.pv), .pv (.list (vf.map Fld.pv))])]) (fun i => i ≤ vl.length) (fun i => vl.length - i) (0) ?_; intro e0 σ0 n0 h0; simp (disch := first | exact dI | fail) only [push_cast, ↓reduceIte, qa, qb, qc, qd, qe, qf, qg, qh, qi] at h0; obtain ⟨rfl, rfl, rfl⟩ := h0; refine ⟨?_, ?_, ?_⟩
  · simp (disch := first | exact dI | fail) only [List.take_zero, List.map_nil, push_cast, ↓reduceIte, qa, qb, qc, qd, qe, qf, qg, qh, qi]
  · omega
  · intro i hi
    by_cases hlt : i < vl.length
    · have hltI : (i : Int) < vl.length := by omega
      obtain ⟨x, hx⟩ : ∃ x, vl[i]? = some x := ⟨_, List.getElem?_eq_getElem hlt⟩
      have hsn := take_snoc hx
      have hcall := hg x (List.mem_of_getElem? hx)
      have hco := Val.cells_len (F x)
      have hon := Val.ones (F x)
      generalize hT : F x = T at hcall hco hon
      obtain ⟨x1, x2, x3, x4, x5, x6⟩ := x
      simp only [Typ.pv_mk, Val.pv_mk] at hcall
      simp (disch := first | exact dI | fail) only [hx, Typ.pv_mk, Val.pv_mk, rElem_zero, List.getElem?_cons_zero, List.map_cons, List.map_nil, push_cast, ↓reduceIte, qa, qb, qc, qd, qe, qf, qg, qh, qi]
      refine callDL_pure hcall rfl ?_
      simp (disch := first | exact dI | fail) only [Val.cells_len, Val.isAgg, Val.ones, push_cast, ↓reduceIte, qa, qb, qc, qd, qe, qf, qg, qh, qi]
      exact ⟨i + 1, hd_z (by simp (disch := first | exact dI | fail) only [hsn, hT, List.map_append, List.map_cons, List.map_nil, push_cast, ↓reduceIte, qa, qb, qc, qd, qe, qf, qg, qh, qi]), by omega, by omega⟩
    · have hltI : ¬ (i : Int) < vl.length := by omega
      rw [take_end hlt]
      simp (disch := first | exact dI | fail) only [Val.pv_mk, push_cast, ↓reduceIte, qa, qb, qc, qd, qe, qf, qg, qh, qi]
set_option maxHeartbeats 4000000 in
theorem inner99_rec (t : Typ) (v : Val) (hk : t.kind = 9) (hl : v.fields.length ≤ 300) (ht : t.fields.length ≤ 300) (hg : ∀ x ∈ v.fields, ∀ f, t.fields.find? (named x.name) = some f → Pure Tryd.prog tabG g [f.typ.pv, x.value.pv] (R f.typ x.value).pv) :
    Pure Tryd.prog tabG 99 [t.pv, v.pv, .clo g [] []] (Val.mk v.kind v.num v.scale v.text v.lst (v.fields.map (redF R t.fields))).pv := by
  have h89 := fun name => typeField89 t name (by omega)
  obtain ⟨k, m, M, s, w, el, fs⟩ := t
  obtain ⟨vk, vi, vs, vt, vl, vf⟩ := v
  simp only [Val.lst, Val.fields, Val.text, Typ.fields, Typ.words, Typ.elem, Typ.kind, Val.kind, Val.num, Val.scale] at *
  subst hk
  generalize hF : redF R fs = F at *
  refine Pure.intro F1099_ok (by simp [F1099]) ?_
  simp (disch := first | exact dI | fail) only [F1099o0, F1099o1, F1099o2, F1099o3, F1099o4, F1099o5, F1099o6, F1099o7, F1099p7, F1099o8, F1099b9, F1099o10, F1099o11, F1099o12, F1099o13, F1099o14, F1099o15, F1099o16, F1099o17, F1099o18, F1099o19, F1099b20, F1099o21, F1099o22, F1099o23, F1099o24, F1099p24, F1099o25, F1099c, F1099, Typ.pv_mk, Val.pv_mk, List.map_cons, List.map_nil, push_cast, ↓reduceIte, qa, qb, qc, qd, qe, qf, qg, qh, qi]
  refine vc_over ([(7, 6, 127, 7)]) (fun i : Nat => [(56, .pv (.int .i64 (i : Int)))]) (fun i => [(1, .cells 62 true [.pv (.int .i64 vk), .pv (.int .i64 vi), .pv (.int .i64 vs), .pv (.str vt), .pv (.list (vl.map Val.pv)), .olist 2 7 (((vf.take i).map F).map Fld.pv)])]) (fun i => i ≤ vf.length) (fun i => vf.length - i) (0) ?_; intro e0 σ0 n0 h0; simp (disch := first | exact dI | fail) only [push_cast, ↓reduceIte, qa, qb, qc, qd, qe, qf, qg, qh, qi] at h0; obtain ⟨rfl, rfl, rfl⟩ := h0; refine ⟨?_, ?_, ?_⟩
  · simp (disch := first | exact dI | fail) only [List.take_zero, List.map_nil, push_cast, ↓reduceIte, qa, qb, qc, qd, qe, qf, qg, qh, qi]
  · omega
  · intro i hi
    by_cases hlt : i < vf.length
    · have hltI : (i : Int) < vf.length := by omega
      obtain ⟨x, hx⟩ : ∃ x, vf[i]? = some x := ⟨_, List.getElem?_eq_getElem hlt⟩
      have hsn := take_snoc hx
      have hc := h89 x.name
      cases hfd : fs.find? (named x.name) with
      | none =>
        rw [hfd] at hc
        have hFx : F x = x := by rw [← hF]; unfold redF; rw [hfd]
        obtain ⟨xn, ⟨x1, x2, x3, x4, x5, x6⟩⟩ := x
        simp only [tfR, Option.getD_none, Option.isSome_none, zeroTF, TFd.pv_mk, Typ.pv_mk, List.map_nil, Fld.name] at hc
        simp (disch := first | exact dI | fail) only [hx, Fld.pv_mk, Val.pv_mk, Typ.pv_mk, push_cast, ↓reduceIte, qa, qb, qc, qd, qe, qf, qg, qh, qi]
        refine ACall.pure hc rfl ?_
        simp (disch := first | exact dI | fail) only [push_cast, ↓reduceIte, qa, qb, qc, qd, qe, qf, qg, qh, qi]
        exact ⟨i + 1, hd_z (by simp (disch := first | exact dI | fail) only [hsn, hFx, List.map_append, List.map_cons, List.map_nil, Fld.pv_mk, Val.pv_mk, push_cast, ↓reduceIte, qa, qb, qc, qd, qe, qf, qg, qh, qi]), by omega, by omega⟩
      | some f =>
        rw [hfd] at hc
        have hcall := hg x (List.mem_of_getElem? hx) f hfd
        have hFx : F x = .mk x.name (R f.typ x.value) := by rw [← hF]; exact redF_some hfd
        generalize R f.typ x.value = T at *
        obtain ⟨xn, ⟨x1, x2, x3, x4, x5, x6⟩⟩ := x
        obtain ⟨f1, f2, f3, ⟨g1, g2, g3, g4, g5, g6, g7⟩, f5⟩ := f
        obtain ⟨u1, u2, u3, u4, u5, u6⟩ := T
        simp only [Fld.name] at hFx
        simp only [tfR, Option.getD_some, Option.isSome_some, TFd.pv_mk, TFd.typ, Fld.value, Fld.name, Typ.pv_mk, Val.pv_mk] at hcall hc
        simp (disch := first | exact dI | fail) only [hx, Fld.pv_mk, Val.pv_mk, Typ.pv_mk, push_cast, ↓reduceIte, qa, qb, qc, qd, qe, qf, qg, qh, qi]
        refine ACall.pure hc rfl ?_
        simp (disch := first | exact dI | fail) only [push_cast, ↓reduceIte, qa, qb, qc, qd, qe, qf, qg, qh, qi]
        refine ACall.pure hcall rfl ?_
        simp (disch := first | exact dI | fail) only [push_cast, ↓reduceIte, qa, qb, qc, qd, qe, qf, qg, qh, qi]
        exact ⟨i + 1, hd_z (by simp (disch := first | exact dI | fail) only [hsn, hFx, List.map_append, List.map_cons, List.map_nil, Fld.pv_mk, Val.pv_mk, push_cast, ↓reduceIte, qa, qb, qc, qd, qe, qf, qg, qh, qi]), by omega, by omega⟩
    · have hltI : ¬ (i : Int) < vf.length := by omega
      rw [take_end hlt]
      simp (disch := first | exact dI | fail) only [Val.pv_mk, push_cast, ↓reduceIte, qa, qb, qc, qd, qe, qf, qg, qh, qi]
set_option maxHeartbeats 4000000 in
theorem inner99_var (t : Typ) (v : Val) (hk : t.kind = 10) (hl : v.lst.length = 1) (ht : t.fields.length ≤ 300) (hg : ∀ x ∈ v.lst, ∀ f, t.fields.find? (named v.text) = some f → Pure Tryd.prog tabG g [f.typ.pv, x.pv] (R f.typ x).pv) :
    Pure Tryd.prog tabG 99 [t.pv, v.pv, .clo g [] []] (Val.mk v.kind v.num v.scale v.text (redC R t v) v.fields).pv := by
  have hc := typeField89 t v.text (by omega)
  cases hfd : t.fields.find? (named v.text) with
  | none =>
    have e : redC R t v = v.lst := by unfold redC; rw [hfd]
    rw [e]
    rw [hfd] at hc
    obtain ⟨k, m, M, s, w, el, fs⟩ := t
    obtain ⟨vk, vi, vs, vt, vl, vf⟩ := v
    simp only [Val.lst, Val.fields, Val.text, Typ.fields, Typ.words, Typ.elem, Typ.kind, Val.kind, Val.num, Val.scale] at *
    subst hk
    simp only [tfR, Option.getD_none, Option.isSome_none, zeroTF, TFd.pv_mk, Typ.pv_mk, List.map_nil] at hc
    refine Pure.intro F1099_ok (by simp [F1099]) ?_
    simp (disch := first | exact dI | fail) only [F1099o0, F1099o1, F1099o2, F1099o3, F1099o4, F1099o5, F1099o6, F1099o7, F1099p7, F1099o8, F1099b9, F1099o10, F1099o11, F1099o12, F1099o13, F1099o14, F1099o15, F1099o16, F1099o17, F1099o18, F1099o19, F1099b20, F1099o21, F1099o22, F1099o23, F1099o24, F1099p24, F1099o25, F1099c, F1099, Typ.pv_mk, Val.pv_mk, push_cast, ↓reduceIte, qa, qb, qc, qd, qe, qf, qg, qh, qi]
    refine ACall.pure hc rfl ?_
    simp (disch := first | exact dI | fail) only [push_cast, ↓reduceIte, qa, qb, qc, qd, qe, qf, qg, qh, qi]
  | some f =>
    rw [redC_some hfd]
    rw [hfd] at hc
    have hfm := List.mem_of_find?_eq_some hfd
    obtain ⟨k, m, M, s, w, el, fs⟩ := t
    obtain ⟨vk, vi, vs, vt, vl, vf⟩ := v
    simp only [Val.lst, Val.fields, Val.text, Typ.fields, Typ.words, Typ.elem, Typ.kind, Val.kind, Val.num, Val.scale] at *
    subst hk
    obtain ⟨x, rfl⟩ := List.length_eq_one_iff.1 hl
    have hcall := hg x (by simp) f hfd
    simp only [List.headD_cons]
    generalize R f.typ x = T at *
    have hco := Val.cells_len T
    have hon := Val.ones T
    obtain ⟨x1, x2, x3, x4, x5, x6⟩ := x
    obtain ⟨f1, f2, f3, ⟨g1, g2, g3, g4, g5, g6, g7⟩, f5⟩ := f
    simp only [tfR, Option.getD_some, Option.isSome_some, TFd.pv_mk, TFd.typ, Typ.pv_mk, Val.pv_mk] at hcall hc
    refine Pure.intro F1099_ok (by simp [F1099]) ?_
    simp (disch := first | exact dI | fail) only [F1099o0, F1099o1, F1099o2, F1099o3, F1099o4, F1099o5, F1099o6, F1099o7, F1099p7, F1099o8, F1099b9, F1099o10, F1099o11, F1099o12, F1099o13, F1099o14, F1099o15, F1099o16, F1099o17, F1099o18, F1099o19, F1099b20, F1099o21, F1099o22, F1099o23, F1099o24, F1099p24, F1099o25, F1099c, F1099, Typ.pv_mk, Val.pv_mk, List.map_cons, List.map_nil, push_cast, ↓reduceIte, qa, qb, qc, qd, qe, qf, qg, qh, qi]
    refine ACall.pure hc rfl ?_
    simp (disch := first | exact dI | fail) only [Typ.pv_mk, Val.pv_mk, rElem_zero, List.getElem?_cons_zero, List.map_cons, List.map_nil, push_cast, ↓reduceIte, qa, qb, qc, qd, qe, qf, qg, qh, qi]
    refine ACall.pure hcall rfl ?_
    simp (disch := first | exact dI | fail) only [Val.cells_len, Val.isAgg, Val.ones, Val.pv_mk, List.map_cons, List.map_nil, push_cast, ↓reduceIte, qa, qb, qc, qd, qe, qf, qg, qh, qi]
theorem inner99_else (t : Typ) (v : Val) (h8 : t.kind = 8 → ¬ t.elem.length = 1) (h9 : ¬ t.kind = 9) (h10 : ¬ t.kind = 10) : Pure Tryd.prog tabG 99 [t.pv, v.pv, .clo g [] []] v.pv := by
  obtain ⟨k, m, M, s, w, el, fs⟩ := t
  obtain ⟨vk, vi, vs, vt, vl, vf⟩ := v
  simp only [Typ.kind, Typ.elem] at *
  refine Pure.intro F1099_ok (by simp [F1099]) ?_
  by_cases hk : k = 8
  · have he : ¬ (el.length : Int) = 1 := by have := h8 hk; omega
    subst hk
    simp (disch := first | exact dI | fail) only [F1099o0, F1099o1, F1099o2, F1099o3, F1099o4, F1099o5, F1099o6, F1099o7, F1099p7, F1099o8, F1099b9, F1099o10, F1099o11, F1099o12, F1099o13, F1099o14, F1099o15, F1099o16, F1099o17, F1099o18, F1099o19, F1099b20, F1099o21, F1099o22, F1099o23, F1099o24, F1099p24, F1099o25, F1099c, F1099, Typ.pv_mk, Val.pv_mk, push_cast, ↓reduceIte, qa, qb, qc, qd, qe, qf, qg, qh, qi]
  · simp (disch := first | exact dI | fail) only [F1099o0, F1099o1, F1099o2, F1099o3, F1099o4, F1099o5, F1099o6, F1099o7, F1099p7, F1099o8, F1099b9, F1099o10, F1099o11, F1099o12, F1099o13, F1099o14, F1099o15, F1099o16, F1099o17, F1099o18, F1099o19, F1099b20, F1099o21, F1099o22, F1099o23, F1099o24, F1099p24, F1099o25, F1099c, F1099, Typ.pv_mk, Val.pv_mk, push_cast, ↓reduceIte, qa, qb, qc, qd, qe, qf, qg, qh, qi]
end
end Go.Proofs.YtikmckfppnmlnaaDoor
