/- A part of the proof for FitReducesCardSaid. -/
import Derived.Test.YtikmckfppnmlnaaDoorRedYZ2
set_option maxRecDepth 100000
set_option linter.unusedVariables false
set_option linter.unusedSimpArgs false
namespace Go.Proofs.YtikmckfppnmlnaaDoor
open Go Go.Ab
open Nat renaming reduceEqDiff → qa, reduceAdd → qb, reduceMul → qc, reduceLeDiff → qd, reduceLT → qe, reduceBEq → qf, reduceSub → qg
open Int renaming reduceToNat → qh, reduceNeg → qi
attribute [local irreducible] vc
theorem flt_del {α : Type} {l : List α} {m : Nat} {x : α} {p : α → Bool} (h : l[m]? = some x) (hp : p x = false) : (l.take (m + 1)).filter p = (l.take m).filter p := by
  rw [take_snoc h]; simp [hp]
theorem flt_keep {α : Type} {l : List α} {m : Nat} {x : α} {p : α → Bool} (h : l[m]? = some x) (hp : p x = true) : (l.take (m + 1)).filter p = (l.take m).filter p ++ [x] := by
  rw [take_snoc h]; simp [hp]
set_option maxHeartbeats 4000000 in
theorem ref33_rec (n : Nat) (ih : RefR n) (t : Typ) (v : Val) (p : List UInt8) (hd : dep (n + 1) v) (ht : tyOk (n + 1) t) (hD : tyD (n + 1) t) (hv : v.ok) (hm : missN (n + 1) t v p = []) (hk : v.kind = 9) : Pure Tryd.prog tabG 33 [t.pv, v.pv] (redN (n + 1) t v).pv := by
  rw [missN_succ] at hm
  obtain ⟨hg, hf⟩ := fit_kind hm
  rw [miss1_rec hg hf (by omega)] at hm
  have hup := formed9 hk hf
  have hfit := fun x hx => fit_field hup hm (x := x) hx
  have h61 := fun name => typeField61 t name (by have := ht; simp only [tyOk] at this; omega)
  rw [redN_succ, red1_rec hk]
  obtain ⟨k, m, M, s, w, e, fs⟩ := t
  obtain ⟨vk, vi, vs, vt, vl, vf⟩ := v
  simp only [dep, tyOk, tyD, Val.lst, Val.fields, Val.text, Typ.fields, Typ.words, Typ.elem, Val.kind, Val.num, Val.scale] at *
  obtain ⟨d1, d2, d3, d4, d5⟩ := hd
  obtain ⟨t1, t2, t3, t4⟩ := ht
  rw [Val.ok_mk] at hv
  subst hk
  generalize hQ : (fun x => !delB 3 fs x) = Q
  generalize hF : redF (redN n) fs = F
  have hfl : ∀ i, ((vf.take i).filter Q).length ≤ 300 := fun i => by
    have h1 := List.length_filter_le Q (vf.take i)
    rw [List.length_take] at h1; omega
  refine Pure.intro F33_ok (by simp [F33]) ?_
  simp (disch := first | exact dI | fail) only [F33o0, F33o1, F33o2, F33o3, F33o4, F33o5, F33o6, F33p6, F33o7, F33b8, F33o9, F33o10, F33o11, F33o12, F33p12, F33o13, F33o14, F33o15, F33o16, F33o17, F33o18, F33o19, F33p19, F33o20, F33o21, F33o22, F33b23, F33o24, F33o25, F33c, F33, Typ.pv_mk, Val.pv_mk, push_cast, ↓reduceIte, qa, qb, qc, qd, qe, qf, qg, qh, qi]
  refine vc_over ([(9, 0, 127, 7)]) (fun i : Nat => [(9, .olist 2 7 ((((vf.take i).filter Q).map F).map Fld.pv)), (10, .pv (.int .i64 (i : Int)))]) (fun i => []) (fun i => i ≤ vf.length) (fun i => vf.length - i) (0) ?_; intro e0 σ0 n0 h0; simp (disch := first | exact dI | fail) only [push_cast, ↓reduceIte, qa, qb, qc, qd, qe, qf, qg, qh, qi] at h0; obtain ⟨rfl, rfl, rfl⟩ := h0; refine ⟨?_, ?_, ?_⟩
  · simp (disch := first | exact dI | fail) only [List.take_zero, List.filter_nil, List.map_nil, push_cast, ↓reduceIte, qa, qb, qc, qd, qe, qf, qg, qh, qi]
  · omega
  · intro i hi
    by_cases hlt : i < vf.length
    · have hltI : (i : Int) < vf.length := by omega
      obtain ⟨x, hx⟩ : ∃ x, vf[i]? = some x := ⟨_, List.getElem?_eq_getElem hlt⟩
      have hlen := hfl i
      obtain ⟨f, hfd, hfm, hmx⟩ := hfit x (List.mem_of_getElem? hx)
      have hcall := ih f.typ x.value _ (d5 x (List.mem_of_getElem? hx)).2 (t4 f hfm).2 (hD.1 f hfm).2 (by
        have := hv.2.2.2.2.2.2.2 x (List.mem_of_getElem? hx)
        obtain ⟨a, b⟩ := x
        rw [Fld.ok_mk] at this
        exact this.2) hmx
      have hFx : F x = .mk x.name (redN n f.typ x.value) := by rw [← hF]; exact redF_some hfd
      have hdf := (hD.1 f hfm).1
      have hQx : Q x = !delB 3 fs x := by rw [← hQ]
      have hdel := flt_del (p := Q) hx
      have hkeep := flt_keep (p := Q) hx
      have hc := h61 x.name
      rw [hfd] at hc
      generalize redN n f.typ x.value = T at *
      generalize (vf.take i).filter Q = S at *
      have hneed := delB_need (n := 3) hfd
      have hone := fun d => delB_one (n := 3) (d := d) hfd
      have hlnn := delB_len (n := 3) hfd
      obtain ⟨xn, ⟨x1, x2, x3, x4, x5, x6⟩⟩ := x
      obtain ⟨f1, f2, f3, ⟨g1, g2, g3, g4, g5, g6, g7⟩, f5⟩ := f
      obtain ⟨u1, u2, u3, u4, u5, u6⟩ := T
      simp only [TFd.dflt] at hdf
      simp only [Fld.name] at hFx
      simp only [tfR, Option.getD_some, Option.isSome_some, TFd.pv_mk, TFd.typ, Fld.value, Typ.pv_mk, Val.pv_mk] at hcall hc
      by_cases hn : f3 = 3
      · by_cases hl : f5.length = 1
        · obtain ⟨d, rfl⟩ := List.length_eq_one_iff.1 hl
          have h32 := same32 3 d (.mk x1 x2 x3 x4 x5 x6) (hdf d (by simp)).1
          have hb : delB 3 fs (.mk xn (.mk x1 x2 x3 x4 x5 x6)) = decide (cmpV 3 d (.mk x1 x2 x3 x4 x5 x6) = 0) := hone d (by exact hn) rfl
          rw [hb] at hQx
          generalize decide (cmpV 3 d (.mk x1 x2 x3 x4 x5 x6) = 0) = B at *
          obtain ⟨c1, c2, c3, c4, c5, c6⟩ := d
          simp only [Val.pv_mk] at h32
          subst hn
          cases B with
          | true =>
            have hsn := hdel (by rw [hQx]; rfl)
            simp (disch := first | exact dI | fail) only [hx, Fld.pv_mk, Val.pv_mk, push_cast, ↓reduceIte, qa, qb, qc, qd, qe, qf, qg, qh, qi]
            refine ACall.pure hc rfl ?_
            simp (disch := first | exact dI | fail) only [rElem_zero, List.getElem?_cons_zero, List.map_cons, List.map_nil, Val.pv_mk, push_cast, ↓reduceIte, qa, qb, qc, qd, qe, qf, qg, qh, qi]
            refine ACall.pure h32 rfl ?_
            simp (disch := first | exact dI | fail) only [push_cast, ↓reduceIte, qa, qb, qc, qd, qe, qf, qg, qh, qi]
            exact ⟨i + 1, hd_z (by simp (disch := first | exact dI | fail) only [hsn, push_cast, ↓reduceIte, qa, qb, qc, qd, qe, qf, qg, qh, qi]), by omega, by omega⟩
          | false =>
            have hsn := hkeep (by rw [hQx]; rfl)
            simp (disch := first | exact dI | fail) only [hx, Fld.pv_mk, Val.pv_mk, push_cast, ↓reduceIte, qa, qb, qc, qd, qe, qf, qg, qh, qi]
            refine ACall.pure hc rfl ?_
            simp (disch := first | exact dI | fail) only [rElem_zero, List.getElem?_cons_zero, List.map_cons, List.map_nil, Val.pv_mk, push_cast, ↓reduceIte, qa, qb, qc, qd, qe, qf, qg, qh, qi]
            refine ACall.pure h32 rfl ?_
            simp (disch := first | exact dI | fail) only [push_cast, ↓reduceIte, qa, qb, qc, qd, qe, qf, qg, qh, qi]
            refine ACall.pure hcall rfl ?_
            simp (disch := first | exact dI | fail) only [push_cast, ↓reduceIte, qa, qb, qc, qd, qe, qf, qg, qh, qi]
            exact ⟨i + 1, hd_z (by simp (disch := first | exact dI | fail) only [hsn, hFx, List.map_append, List.map_cons, List.map_nil, Fld.pv_mk, Val.pv_mk, push_cast, ↓reduceIte, qa, qb, qc, qd, qe, qf, qg, qh, qi]), by omega, by omega⟩
        · have hlI : ¬ (f5.length : Int) = 1 := by omega
          have hb : delB 3 fs (.mk xn (.mk x1 x2 x3 x4 x5 x6)) = false := hlnn (by exact hl)
          have hsn := hkeep (by rw [hQx, hb]; rfl)
          subst hn
          simp (disch := first | exact dI | fail) only [hx, Fld.pv_mk, Val.pv_mk, push_cast, ↓reduceIte, qa, qb, qc, qd, qe, qf, qg, qh, qi]
          refine ACall.pure hc rfl ?_
          simp (disch := first | exact dI | fail) only [push_cast, ↓reduceIte, qa, qb, qc, qd, qe, qf, qg, qh, qi]
          refine ACall.pure hcall rfl ?_
          simp (disch := first | exact dI | fail) only [push_cast, ↓reduceIte, qa, qb, qc, qd, qe, qf, qg, qh, qi]
          exact ⟨i + 1, hd_z (by simp (disch := first | exact dI | fail) only [hsn, hFx, List.map_append, List.map_cons, List.map_nil, Fld.pv_mk, Val.pv_mk, push_cast, ↓reduceIte, qa, qb, qc, qd, qe, qf, qg, qh, qi]), by omega, by omega⟩
      · have hb : delB 3 fs (.mk xn (.mk x1 x2 x3 x4 x5 x6)) = false := hneed (by exact hn)
        have hsn := hkeep (by rw [hQx, hb]; rfl)
        simp (disch := first | exact dI | fail) only [hx, Fld.pv_mk, Val.pv_mk, push_cast, ↓reduceIte, qa, qb, qc, qd, qe, qf, qg, qh, qi]
        refine ACall.pure hc rfl ?_
        simp (disch := first | exact dI | fail) only [push_cast, ↓reduceIte, qa, qb, qc, qd, qe, qf, qg, qh, qi]
        refine ACall.pure hcall rfl ?_
        simp (disch := first | exact dI | fail) only [push_cast, ↓reduceIte, qa, qb, qc, qd, qe, qf, qg, qh, qi]
        exact ⟨i + 1, hd_z (by simp (disch := first | exact dI | fail) only [hsn, hFx, List.map_append, List.map_cons, List.map_nil, Fld.pv_mk, Val.pv_mk, push_cast, ↓reduceIte, qa, qb, qc, qd, qe, qf, qg, qh, qi]), by omega, by omega⟩
    · have hltI : ¬ (i : Int) < vf.length := by omega
      rw [take_end hlt]
      simp (disch := first | exact dI | fail) only [Val.pv_mk, push_cast, ↓reduceIte, qa, qb, qc, qd, qe, qf, qg, qh, qi]
theorem refR : ∀ n, RefR n
  | 0 => fun t v p hd => hd.elim
  | n + 1 => fun t v p hd ht hD hv hm => by
    by_cases h8 : v.kind = 8
    · exact ref33_list n (refR n) t v p hd ht hD hv hm h8
    · by_cases h10 : v.kind = 10
      · exact ref33_var n (refR n) t v p hd ht hD hv hm h10
      · by_cases h9 : v.kind = 9
        · exact ref33_rec n (refR n) t v p hd ht hD hv hm h9
        · exact ref33_else n t v h8 h10 h9
end Go.Proofs.YtikmckfppnmlnaaDoor
