/- A part of the proof for FitBackCardSaid. -/
import Derived.Test.YtikmckfppnmlnaaDoorBakYCd
set_option maxRecDepth 100000
set_option linter.unusedVariables false
set_option linter.unusedSimpArgs false
namespace Go.Proofs.YtikmckfppnmlnaaDoor
open Go Go.Ab
open Nat renaming reduceEqDiff → qa, reduceAdd → qb, reduceMul → qc, reduceLeDiff → qd, reduceLT → qe, reduceBEq → qf, reduceSub → qg
open Int renaming reduceToNat → qh, reduceNeg → qi
attribute [local irreducible] vc
theorem rowP_snoc (l : List Fld) (y : Fld) : ((rowP l).take (l.length * 7)).map AV.pv ++ flat [y.pv] = (rowP (l ++ [y])).map AV.pv := by
  have h := rowP_len l
  rw [List.take_of_length_le (by omega), flat_row, ← List.map_append]
  simp [rowP]
section
variable (g : Nat) (R : Typ → Val → Val)
set_option maxHeartbeats 4000000 in
theorem inner99_row (t : Typ) (v : Val) (hk : t.kind = 9) (hl : v.fields.length ≤ 300) (ht : t.fields.length ≤ 300) (hg : ∀ x ∈ v.fields, ∀ f, t.fields.find? (named x.name) = some f → Pure Tryd.prog tabG g [f.typ.pv, x.value.pv] (R f.typ x.value).pv) :
    Lent Tryd.prog tabG 0 99 [.pv t.pv, .pv v.pv, .pv (.clo g [] [])] [] (.agg [.pv (.int .i64 v.kind), .pv (.int .i64 v.num), .pv (.int .i64 v.scale), .pv (.str v.text), .pv (.list (v.lst.map Val.pv)), .row 0 7 0 (v.fields.map (redF R t.fields)).length]) [.cells 127 false ((rowP (v.fields.map (redF R t.fields))).map .pv)] := by
  have h89 := fun name => typeField89 t name (by omega)
  obtain ⟨k, m, M, s, w, el, fs⟩ := t
  obtain ⟨vk, vi, vs, vt, vl, vf⟩ := v
  simp only [Val.lst, Val.fields, Val.text, Typ.fields, Typ.words, Typ.elem, Typ.kind, Val.kind, Val.num, Val.scale] at *
  subst hk
  generalize hF : redF R fs = F at *
  refine Lent.intro F99_ok (by simp [F99]) ?_
  simp (disch := first | exact dI | fail) only [F99o0, F99o1, F99o2, F99o3, F99o4, F99o5, F99o6, F99o7, F99p7, F99o8, F99b9, F99o10, F99o11, F99o12, F99o13, F99o14, F99o15, F99o16, F99o17, F99o18, F99o19, F99b20, F99o21, F99o22, F99o23, F99o24, F99p24, F99o25, F99c, F99, Typ.pv_mk, Val.pv_mk, List.map_cons, List.map_nil, push_cast, ↓reduceIte, qa, qb, qc, qd, qe, qf, qg, qh, qi]
  refine vc_over ([(7, 6, 1000127, 7)]) (fun i : Nat => [(56, .pv (.int .i64 (i : Int)))]) (fun i => [(1, .cells 62 true [.pv (.int .i64 vk), .pv (.int .i64 vi), .pv (.int .i64 vs), .pv (.str vt), .pv (.list (vl.map Val.pv)), .row 2 7 0 ((vf.take i).map F).length]), (2, .cells 127 false ((rowP ((vf.take i).map F)).map .pv))]) (fun i => i ≤ vf.length) (fun i => vf.length - i) (0) ?_; intro e0 σ0 n0 h0; simp (disch := first | exact dI | fail) only [push_cast, ↓reduceIte, qa, qb, qc, qd, qe, qf, qg, qh, qi] at h0; obtain ⟨rfl, rfl, rfl⟩ := h0; refine ⟨?_, ?_, ?_⟩
  · simp (disch := first | exact dI | fail) only [List.take_zero, List.map_nil, rowP_nil, push_cast, ↓reduceIte, qa, qb, qc, qd, qe, qf, qg, qh, qi]
  · omega
  · intro i hi
    by_cases hlt : i < vf.length
    · have hltI : (i : Int) < vf.length := by omega
      obtain ⟨x, hx⟩ : ∃ x, vf[i]? = some x := ⟨_, List.getElem?_eq_getElem hlt⟩
      have hsn := take_snoc hx
      have hjn := rowP_snoc ((vf.take i).map F) (F x)
      have hTl : ((vf.take i).map F).length ≤ 300 := by simp; omega
      have hrl := rowP_len ((vf.take i).map F)
      obtain ⟨T, hTe⟩ : ∃ T, (vf.take i).map F = T := ⟨_, rfl⟩
      have hln : (vf.take i).length = T.length := by rw [← hTe, List.length_map]
      rw [hTe] at hjn hTl hrl ⊢
      have hc := h89 x.name
      cases hfd : fs.find? (named x.name) with
      | none =>
        rw [hfd] at hc
        have hFx : F x = x := by rw [← hF]; unfold redF; rw [hfd]
        rw [hFx] at hjn
        obtain ⟨xn, ⟨x1, x2, x3, x4, x5, x6⟩⟩ := x
        simp only [tfR, Option.getD_none, Option.isSome_none, zeroTF, TFd.pv_mk, Typ.pv_mk, List.map_nil, Fld.name] at hc
        simp only [Fld.pv_mk, Val.pv_mk, PV.cells, List.cons_append, List.nil_append] at hjn
        simp (disch := first | exact dI | fail) only [hx, Fld.pv_mk, Val.pv_mk, Typ.pv_mk, push_cast, ↓reduceIte, qa, qb, qc, qd, qe, qf, qg, qh, qi]
        refine ACall.pure hc rfl ?_
        simp (disch := first | exact dI | fail) only [hrl, hjn, push_cast, ↓reduceIte, qa, qb, qc, qd, qe, qf, qg, qh, qi]
        exact ⟨i + 1, hd_z (by simp (disch := first | exact dI | fail) only [hsn, hFx, hTe, hln, List.map_append, List.map_cons, List.map_nil, List.length_append, push_cast, ↓reduceIte, qa, qb, qc, qd, qe, qf, qg, qh, qi]), by omega, by omega⟩
      | some f =>
        rw [hfd] at hc
        have hcall := hg x (List.mem_of_getElem? hx) f hfd
        have hFx : F x = .mk x.name (R f.typ x.value) := by rw [← hF]; exact redF_some hfd
        generalize R f.typ x.value = T2 at *
        rw [hFx] at hjn
        obtain ⟨xn, ⟨x1, x2, x3, x4, x5, x6⟩⟩ := x
        obtain ⟨f1, f2, f3, ⟨g1, g2, g3, g4, g5, g6, g7⟩, f5⟩ := f
        obtain ⟨u1, u2, u3, u4, u5, u6⟩ := T2
        simp only [Fld.name] at hFx hjn
        simp only [tfR, Option.getD_some, Option.isSome_some, TFd.pv_mk, TFd.typ, Fld.value, Fld.name, Typ.pv_mk, Val.pv_mk] at hcall hc
        simp only [Fld.pv_mk, Val.pv_mk, PV.cells, List.cons_append, List.nil_append] at hjn
        simp (disch := first | exact dI | fail) only [hx, Fld.pv_mk, Val.pv_mk, Typ.pv_mk, push_cast, ↓reduceIte, qa, qb, qc, qd, qe, qf, qg, qh, qi]
        refine ACall.pure hc rfl ?_
        simp (disch := first | exact dI | fail) only [push_cast, ↓reduceIte, qa, qb, qc, qd, qe, qf, qg, qh, qi]
        refine ACall.pure hcall rfl ?_
        simp (disch := first | exact dI | fail) only [hrl, hjn, push_cast, ↓reduceIte, qa, qb, qc, qd, qe, qf, qg, qh, qi]
        exact ⟨i + 1, hd_z (by simp (disch := first | exact dI | fail) only [hsn, hFx, hTe, hln, List.map_append, List.map_cons, List.map_nil, List.length_append, push_cast, ↓reduceIte, qa, qb, qc, qd, qe, qf, qg, qh, qi]), by omega, by omega⟩
    · have hltI : ¬ (i : Int) < vf.length := by omega
      rw [take_end hlt]
      simp (disch := first | exact dI | fail) only [Val.pv_mk, push_cast, ↓reduceIte, qa, qb, qc, qd, qe, qf, qg, qh, qi]
      exact lent_z [] (by simp (disch := first | exact dI | fail) only [push_cast, ↓reduceIte, qa, qb, qc, qd, qe, qf, qg, qh, qi])
end
end Go.Proofs.YtikmckfppnmlnaaDoor
