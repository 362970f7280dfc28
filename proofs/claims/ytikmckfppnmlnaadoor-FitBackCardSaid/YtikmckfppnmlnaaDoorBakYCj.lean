/- A part of the proof for FitBackCardSaid. -/
import Derived.Test.YtikmckfppnmlnaaDoorBakYCh
set_option maxRecDepth 100000
set_option linter.unusedVariables false
set_option linter.unusedSimpArgs false
namespace Go.Proofs.YtikmckfppnmlnaaDoor
open Go Go.Ab
open Nat renaming reduceEqDiff → qa, reduceAdd → qb, reduceMul → qc, reduceLeDiff → qd, reduceLT → qe, reduceBEq → qf, reduceSub → qg
open Int renaming reduceToNat → qh, reduceNeg → qi
attribute [local irreducible] vc
def fldD (D : Typ → Bool) (fs : List TFd) (i : Nat) : Bool :=
  match fs[i]? with
  | some f => D f.typ && (fs.take i).all fun g => !decide (g.name = f.name)
  | none => true
def dst : Nat → Typ → Bool
  | 0, _ => true
  | n + 1, t => t.elem.all (dst n) && allU (fldD (dst n) t.fields) t.fields.length
theorem fldD_some {D : Typ → Bool} {fs : List TFd} {i : Nat} {f : TFd} (h : fs[i]? = some f) : fldD D fs i = (D f.typ && (fs.take i).all fun g => !decide (g.name = f.name)) := by
  unfold fldD; rw [h]
set_option maxHeartbeats 4000000 in
theorem distinct34 : ∀ (n : Nat) (t : Typ), SizeOf.sizeOf t < n → t.ok → Pure Tryd.prog tabG 34 [t.pv] (.bool (dst n t))
  | 0, t, h, _ => absurd h (Nat.not_lt_zero _)
  | n + 1, t, hn, ho => by
    have ih := distinct34 n
    obtain ⟨k, a, b, c, w, el, fs⟩ := t
    rw [Typ.ok_mk] at ho
    obtain ⟨-, -, -, -, -, -, o1, o2, o3, o4⟩ := ho
    simp only [Typ.mk.sizeOf_spec] at hn
    have he : ∀ x ∈ el, Pure Tryd.prog tabG 34 [x.pv] (.bool (dst n x)) := fun x hx => ih x (by have := List.sizeOf_lt_of_mem hx; omega) (o2 x hx)
    have hf : ∀ x ∈ fs, Pure Tryd.prog tabG 34 [x.typ.pv] (.bool (dst n x.typ)) := fun x hx => by
      have hxo := o4 x hx
      have hsz := List.sizeOf_lt_of_mem hx
      obtain ⟨a, b, c, d, e⟩ := x
      rw [TFd.ok_mk] at hxo
      simp only [TFd.mk.sizeOf_spec] at hsz
      exact ih d (by omega) hxo.2.2.2.1
    have hD : dst (n + 1) (.mk k a b c w el fs) = (el.all (dst n) && allU (fldD (dst n) fs) fs.length) := rfl
    obtain ⟨D, hDe⟩ : ∃ D, dst (n + 1) (.mk k a b c w el fs) = D := ⟨_, rfl⟩
    rw [hDe] at hD ⊢
    refine Pure.intro F34_ok (by simp [F34]) ?_
    simp (disch := first | exact dI | fail) only [F34o0, F34o1, F34o2, F34o3, F34o4, F34o5, F34b6, F34o7, F34o8, F34o9, F34o10, F34o11, F34o12, F34o13, F34p13, F34o14, F34o15, F34b16, F34o17, F34b18, F34o19, F34c, F34, Typ.pv_mk, push_cast, ↓reduceIte, qa, qb, qc, qd, qe, qf, qg, qh, qi]
    refine vc_over ([]) (fun m : Nat => [(3, .pv (.int .i64 (m : Int)))]) (fun m => []) (fun m => m ≤ el.length ∧ D = ((el.drop m).all (dst n) && allU (fldD (dst n) fs) fs.length)) (fun m => el.length - m) (0) ?_; intro e0 σ0 n0 h0; simp (disch := first | exact dI | fail) only [push_cast, ↓reduceIte, qa, qb, qc, qd, qe, qf, qg, qh, qi] at h0; obtain ⟨rfl, rfl, rfl⟩ := h0; refine ⟨?_, ?_, ?_⟩
    · simp (disch := first | exact dI | fail) only [push_cast, ↓reduceIte, qa, qb, qc, qd, qe, qf, qg, qh, qi]
    · exact ⟨by omega, by simpa using hD⟩
    · rintro m ⟨hm, hI⟩
      by_cases hlt : m < el.length
      · have hltI : (m : Int) < el.length := by omega
        obtain ⟨x, hx⟩ : ∃ x, el[m]? = some x := ⟨_, List.getElem?_eq_getElem hlt⟩
        have hcall := he x (List.mem_of_getElem? hx)
        obtain ⟨R, hR⟩ : ∃ R, dst n x = R := ⟨_, rfl⟩
        rw [hR] at hcall
        obtain ⟨x1, x2, x3, x4, x5, x6, x7⟩ := x
        simp only [Typ.pv_mk] at hcall
        simp (disch := first | exact dI | fail) only [hx, Typ.pv_mk, push_cast, ↓reduceIte, qa, qb, qc, qd, qe, qf, qg, qh, qi]
        refine ACall.pure hcall rfl ?_
        cases R with
        | false =>
          rw [all_hit hx hR, Bool.false_and] at hI
          simp (disch := first | exact dI | fail) only [hI, push_cast, ↓reduceIte, qa, qb, qc, qd, qe, qf, qg, qh, qi]
        | true =>
          rw [all_miss hx hR] at hI
          simp (disch := first | exact dI | fail) only [push_cast, ↓reduceIte, qa, qb, qc, qd, qe, qf, qg, qh, qi]
          exact ⟨m + 1, hd_z (by simp (disch := first | exact dI | fail) only [push_cast, ↓reduceIte, qa, qb, qc, qd, qe, qf, qg, qh, qi]), ⟨by omega, hI⟩, by omega⟩
      · have hltI : ¬ (m : Int) < el.length := by omega
        rw [all_end hlt, Bool.true_and] at hI
        simp (disch := first | exact dI | fail) only [push_cast, ↓reduceIte, qa, qb, qc, qd, qe, qf, qg, qh, qi]
        refine vc_over ([]) (fun i : Nat => [(4, .pv (.int .i64 (i : Int)))]) (fun i => []) (fun i => i ≤ fs.length ∧ ∀ k, k < i → fldD (dst n) fs k = true) (fun i => fs.length - i) (0) ?_; intro e0 σ0 n0 h0; simp (disch := first | exact dI | fail) only [push_cast, ↓reduceIte, qa, qb, qc, qd, qe, qf, qg, qh, qi] at h0; obtain ⟨rfl, rfl, rfl⟩ := h0; refine ⟨?_, ?_, ?_⟩
        · simp (disch := first | exact dI | fail) only [push_cast, ↓reduceIte, qa, qb, qc, qd, qe, qf, qg, qh, qi]
        · exact ⟨by omega, fun k hk => absurd hk (Nat.not_lt_zero _)⟩
        · rintro i ⟨hi, hII⟩
          by_cases hli : i < fs.length
          · have hliI : (i : Int) < fs.length := by omega
            obtain ⟨f, hx⟩ : ∃ f, fs[i]? = some f := ⟨_, List.getElem?_eq_getElem hli⟩
            have hcall := hf f (List.mem_of_getElem? hx)
            have hfd := fldD_some (D := dst n) hx
            obtain ⟨R, hR⟩ : ∃ R, dst n f.typ = R := ⟨_, rfl⟩
            rw [hR] at hcall hfd
            obtain ⟨f1, f2, f3, ⟨g1, g2, g3, g4, g5, g6, g7⟩, f5⟩ := f
            simp only [TFd.typ, Typ.pv_mk] at hcall
            replace hfd : fldD (dst n) fs i = (R && (fs.take i).all fun g => !decide (g.name = f2)) := hfd
            simp (disch := first | exact dI | fail) only [hx, TFd.pv_mk, Typ.pv_mk, push_cast, ↓reduceIte, qa, qb, qc, qd, qe, qf, qg, qh, qi]
            refine ACall.pure hcall rfl ?_
            cases R with
            | false =>
              rw [Bool.false_and] at hfd
              rw [allU_false hfd hli] at hI
              simp (disch := first | exact dI | fail) only [hI, push_cast, ↓reduceIte, qa, qb, qc, qd, qe, qf, qg, qh, qi]
            | true =>
              rw [Bool.true_and] at hfd
              simp (disch := first | exact dI | fail) only [push_cast, ↓reduceIte, qa, qb, qc, qd, qe, qf, qg, qh, qi]
              refine vc_over ([]) (fun j : Nat => [(5, .pv (.int .i64 (j : Int)))]) (fun j => []) (fun j => j ≤ i ∧ fldD (dst n) fs i = ((fs.take i).drop j).all fun g => !decide (g.name = f2)) (fun j => i - j) (0) ?_; intro e0 σ0 n0 h0; simp (disch := first | exact dI | fail) only [push_cast, ↓reduceIte, qa, qb, qc, qd, qe, qf, qg, qh, qi] at h0; obtain ⟨rfl, rfl, rfl⟩ := h0; refine ⟨?_, ?_, ?_⟩
              · simp (disch := first | exact dI | fail) only [push_cast, ↓reduceIte, qa, qb, qc, qd, qe, qf, qg, qh, qi]
              · exact ⟨by omega, by rw [List.drop_zero]; exact hfd⟩
              · rintro j ⟨hj, hJ⟩
                by_cases hlj : j < i
                · have hljI : (j : Int) < i := by omega
                  obtain ⟨y, hy⟩ : ∃ y, fs[j]? = some y := ⟨_, List.getElem?_eq_getElem (by omega)⟩
                  have hy2 : (fs.take i)[j]? = some y := by rw [List.getElem?_take, if_pos hlj]; exact hy
                  cases hb : decide (y.name = f2) with
                  | true =>
                    rw [all_hit hy2 (by rw [hb]; rfl)] at hJ
                    rw [allU_false hJ hli] at hI
                    obtain ⟨y1, y2, y3, ⟨z1, z2, z3, z4, z5, z6, z7⟩, y5⟩ := y
                    replace hb : decide (y2 = f2) = true := hb
                    simp (disch := first | exact dI | fail) only [hx, hy, hb, hI, TFd.pv_mk, Typ.pv_mk, push_cast, ↓reduceIte, qa, qb, qc, qd, qe, qf, qg, qh, qi]
                  | false =>
                    rw [all_miss hy2 (by rw [hb]; rfl)] at hJ
                    obtain ⟨y1, y2, y3, ⟨z1, z2, z3, z4, z5, z6, z7⟩, y5⟩ := y
                    replace hb : decide (y2 = f2) = false := hb
                    simp (disch := first | exact dI | fail) only [hx, hy, hb, TFd.pv_mk, Typ.pv_mk, push_cast, ↓reduceIte, qa, qb, qc, qd, qe, qf, qg, qh, qi]
                    exact ⟨j + 1, hd_z (by simp (disch := first | exact dI | fail) only [push_cast, ↓reduceIte, qa, qb, qc, qd, qe, qf, qg, qh, qi]), ⟨by omega, hJ⟩, by omega⟩
                · have hljI : ¬ (j : Int) < i := by omega
                  rw [all_end (by rw [List.length_take]; omega)] at hJ
                  simp (disch := first | exact dI | fail) only [push_cast, ↓reduceIte, qa, qb, qc, qd, qe, qf, qg, qh, qi]
                  exact ⟨i + 1, hd_z (by simp (disch := first | exact dI | fail) only [push_cast, ↓reduceIte, qa, qb, qc, qd, qe, qf, qg, qh, qi]), ⟨by omega, fun k hk => by
                    by_cases hki : k = i
                    · subst hki; exact hJ
                    · exact hII k (by omega)⟩, by omega⟩
          · have hliI : ¬ (i : Int) < fs.length := by omega
            have : i = fs.length := by omega
            subst this
            rw [allU_iff.2 hII] at hI
            simp (disch := first | exact dI | fail) only [hI, push_cast, ↓reduceIte, qa, qb, qc, qd, qe, qf, qg, qh, qi]
end Go.Proofs.YtikmckfppnmlnaaDoor
set_option maxRecDepth 100000
set_option linter.unusedVariables false
set_option linter.unusedSimpArgs false
namespace Go.Proofs.YtikmckfppnmlnaaDoor
open Go Go.Ab
attribute [local irreducible] vc
theorem srt_up {f : List Fld} (h : Srt f) : upB f = true := by
  refine allU_iff.2 fun j hj => ?_
  have h1 : f[j]? = some f[j] := List.getElem?_eq_getElem (by omega)
  have h2 : f[j + 1]? = some f[j + 1] := List.getElem?_eq_getElem (by omega)
  unfold upJ
  rw [h1, h2]
  exact srt_get h h1 h2 (by omega)
theorem dst_elem {n : Nat} {t : Typ} (h : dst (n + 1) t = true) : ∀ e ∈ t.elem, dst n e = true := by
  rw [dst, Bool.and_eq_true] at h
  exact List.all_eq_true.1 h.1
theorem dst_fld {n : Nat} {t : Typ} (h : dst (n + 1) t = true) {i : Nat} {f : TFd} (hf : t.fields[i]? = some f) : dst n f.typ = true ∧ ∀ g ∈ t.fields.take i, ¬ g.name = f.name := by
  rw [dst, Bool.and_eq_true] at h
  have h1 := allU_iff.1 h.2 i (List.getElem?_eq_some_iff.1 hf).1
  rw [fldD_some hf, Bool.and_eq_true] at h1
  refine ⟨h1.1, fun g hg => ?_⟩
  have := List.all_eq_true.1 h1.2 g hg
  simpa using this
theorem dst_find {n : Nat} {t : Typ} (h : dst (n + 1) t = true) {f : TFd} (hf : f ∈ t.fields) : t.fields.find? (named f.name) = some f := by
  obtain ⟨i, hi⟩ := List.getElem?_of_mem hf
  have h1 := (dst_fld h hi).2
  have hl : i < t.fields.length := (List.getElem?_eq_some_iff.1 hi).1
  rw [← List.take_append_drop i t.fields, List.find?_append]
  have h2 : (t.fields.take i).find? (named f.name) = none := by
    rw [List.find?_eq_none]
    intro g hg
    simpa [named] using h1 g hg
  rw [h2, drop_at hi]
  simp [named, List.find?_cons]
theorem del_iff {fs : List TFd} {x : Fld} (hD : ∀ f ∈ fs, ∀ d ∈ f.dflt, dep 3 d) (h : delB 3 fs x = true) : ∃ f, fs.find? (named x.name) = some f ∧ dfl f = some x.value := by
  cases hfd : fs.find? (named x.name) with
  | none => rw [delB_none hfd] at h; cases h
  | some f =>
    by_cases hn : f.need = 3
    · by_cases hl : f.dflt.length = 1
      · obtain ⟨d, hd⟩ := List.length_eq_one_iff.1 hl
        rw [delB_one hfd hn hd, decide_eq_true_eq] at h
        have hdp := hD f (List.mem_of_find?_eq_some hfd) d (by rw [hd]; simp)
        have := (cmpV_zero 3 d x.value hdp).1 h
        refine ⟨f, rfl, ?_⟩
        unfold dfl; rw [if_pos hn, hd, this]
      · rw [delB_len hfd hl] at h; cases h
    · rw [delB_need hfd hn] at h; cases h
theorem named_eq {s : List UInt8} {fs : List TFd} {f : TFd} (h : fs.find? (named s) = some f) : f.name = s := by
  have := List.find?_some h
  simpa [named] using this
theorem back_fields {fs : List TFd} {v : List Fld} (hs : Srt v) (hD : ∀ f ∈ fs, ∀ d ∈ f.dflt, dep 3 d) (hu : ∀ f ∈ fs, fs.find? (named f.name) = some f)
    (hm : ∀ f ∈ fs, f.need = 3 → ∃ x ∈ v, x.name = f.name) : insA (keptF (delB 3 fs) v) fs = v := by
  have hsk : Srt (keptF (delB 3 fs) v) := hs.filter _
  have sub : ∀ (r : List TFd) (l : List Fld), (∀ f ∈ r, f ∈ fs) → (∀ x ∈ keptF (delB 3 fs) v, x ∈ l) → (∀ x ∈ l, x ∈ v) → ∀ x ∈ insA l r, x ∈ v := by
    intro r
    induction r with
    | nil => intro l _ _ h3 x hx; exact h3 x hx
    | cons f r ih =>
      intro l h1 h2 h3 x hx
      refine ih (insD l f) (fun g hg => h1 g (List.mem_cons_of_mem _ hg)) (fun y hy => mem_insD (h2 y hy)) (fun y hy => ?_) x hx
      cases hd : dfl f with
      | none => rw [insD_none hd] at hy; exact h3 y hy
      | some d =>
        cases hh : hasF l f.name with
        | true => rw [insD_has hh] at hy; exact h3 y hy
        | false =>
          rw [insD_ins hd hh] at hy
          rcases mem_insF.1 hy with rfl | hy
          · have hfm := h1 f (by simp)
            obtain ⟨z, hz, hzn⟩ := hm f hfm (dfl_mem hd).1
            have hzk : z ∉ keptF (delB 3 fs) v := fun hk => by
              have := hasF_iff.2 ⟨z, h2 z hk, hzn⟩
              rw [hh] at this; cases this
            have hdel : delB 3 fs z = true := by
              cases hb : delB 3 fs z with
              | true => rfl
              | false => exact absurd (List.mem_filter.2 ⟨hz, by simp [hb]⟩) hzk
            obtain ⟨g, hg, hgd⟩ := del_iff hD hdel
            rw [hzn, hu f hfm] at hg
            cases hg
            rw [hd] at hgd
            cases hgd
            have : (Fld.mk f.name z.value) = z := by
              rw [← hzn]; obtain ⟨a, b⟩ := z; rfl
            rw [this]; exact hz
          · exact h3 y hy
  refine srt_ext _ _ (srt_insA fs _ hsk) hs fun x => ⟨fun hx => sub fs _ (fun _ h => h) (fun _ h => h) (fun y hy => (List.mem_filter.1 hy).1) x hx, fun hx => ?_⟩
  cases hb : delB 3 fs x with
  | false => exact mem_insA fs _ (List.mem_filter.2 ⟨hx, by simp [hb]⟩)
  | true =>
    obtain ⟨f, hfd, hdf⟩ := del_iff hD hb
    have hfm := List.mem_of_find?_eq_some hfd
    obtain ⟨y, hy, hyn⟩ := hasF_iff.1 (hasF_done fs (keptF (delB 3 fs) v) f x.value hfm hdf)
    have hyv := sub fs _ (fun _ h => h) (fun _ h => h) (fun y hy => (List.mem_filter.1 hy).1) y hy
    have : y = x := srt_name hs hyv hx (by rw [hyn, named_eq hfd])
    rw [← this]; exact hy
theorem form8 {i s : Int} {x : List UInt8} {l k : List Val} {f : List Fld} : formedV (.mk 8 i s x l f) = formedV (.mk 8 i s x k f) := by simp [formedV]
theorem form9 {i s : Int} {x : List UInt8} {l : List Val} {f g : List Fld} (h : formedV (.mk 9 i s x l f) = true) (hg : upB g = true) : formedV (.mk 9 i s x l g) = true := by
  simp [formedV] at h ⊢
  exact ⟨hg, h.2⟩
theorem form10 {i s : Int} {x : List UInt8} {y z : Val} {f : List Fld} : formedV (.mk 10 i s x [y] f) = formedV (.mk 10 i s x [z] f) := by simp [formedV]
theorem com_red : ∀ (n m : Nat) (t : Typ) (v : Val) (p : List UInt8), tyD n t → dep n v → missN n t v p = [] → SizeOf.sizeOf t < m → dst m t = true → comN n t (redN n t v) = v
  | 0, _, _, _, _, _, hd, _, _, _ => hd.elim
  | _, 0, _, _, _, _, _, _, h, _ => absurd h (Nat.not_lt_zero _)
  | n + 1, m + 1, t, v, p, hD, hd, hm, hsz, hdt => by
    have ih := com_red n m
    have hDe := dst_elem hdt
    have hDf := fun f (hf : f ∈ t.fields) => dst_find hdt hf
    have hDt : ∀ f ∈ t.fields, dst m f.typ = true := fun f hf => by
      obtain ⟨i, hi⟩ := List.getElem?_of_mem hf
      exact (dst_fld hdt hi).1
    have hse : ∀ e ∈ t.elem, SizeOf.sizeOf e < m := fun e he => by
      have := List.sizeOf_lt_of_mem he
      obtain ⟨k, a, b, c, w, el, fs⟩ := t
      simp only [Typ.mk.sizeOf_spec, Typ.elem] at *; omega
    have hsf : ∀ f ∈ t.fields, SizeOf.sizeOf f.typ < m := fun f hf => by
      have := List.sizeOf_lt_of_mem hf
      obtain ⟨k, a, b, c, w, el, fs⟩ := t
      obtain ⟨f1, f2, f3, f4, f5⟩ := f
      simp only [Typ.mk.sizeOf_spec, Typ.fields, TFd.mk.sizeOf_spec, TFd.typ] at *; omega
    rw [missN_succ] at hm
    obtain ⟨hg, hf⟩ := fit_kind hm
    have hkt : v.kind = t.kind := by omega
    rw [comN_succ, redN_succ]
    simp only [tyD] at hD
    simp only [dep] at hd
    by_cases h8 : v.kind = 8
    · rw [miss1_list hg hf (by omega), List.append_eq_nil_iff] at hm
      have hx0 := fun i x => ixM_all hm.2 (i := i) (x := x)
      rw [red1_list h8]
      have hbk : (v.lst.map (redE (redN n) t.elem)).map (redE (comN n) t.elem) = v.lst := by
        rw [List.map_map]
        refine (List.map_congr_left fun x hx => ?_).trans (List.map_id _)
        show redE (comN n) t.elem (redE (redN n) t.elem x) = x
        by_cases he : t.elem.length = 1
        · obtain ⟨e, he2⟩ := List.length_eq_one_iff.1 he
          obtain ⟨i, hi⟩ := List.getElem?_of_mem hx
          have hxm := hx0 i x hi
          rw [elemM_one he2] at hxm
          have hem : e ∈ t.elem := by rw [he2]; simp
          rw [he2, redE_one, redE_one]
          exact ih e x _ (hD.2 e hem) (hd.2.2.2.1 x hx) hxm (hse e hem) (hDe e hem)
        · rw [redE_ne he, redE_ne he]
      have hb : ¬ (¬ (Val.mk v.kind v.num v.scale v.text (v.lst.map (redE (redN n) t.elem)) v.fields).kind = t.kind ∨ formedV (Val.mk v.kind v.num v.scale v.text (v.lst.map (redE (redN n) t.elem)) v.fields) = false) := by
        rintro (h | h)
        · exact h hkt
        · obtain ⟨vk, vi, vs, vt, vl, vf⟩ := v
          simp only [Val.kind] at h8
          subst h8
          simp only [Val.kind, Val.num, Val.scale, Val.text, Val.lst, Val.fields] at h
          rw [form8 (k := vl), hf] at h; cases h
      rw [com1_list hb h8]
      show Val.mk v.kind v.num v.scale v.text ((v.lst.map (redE (redN n) t.elem)).map (redE (comN n) t.elem)) v.fields = v
      rw [hbk]
      obtain ⟨vk, vi, vs, vt, vl, vf⟩ := v
      rfl
    · by_cases h10 : v.kind = 10
      · rw [miss1_var hg hf (by omega)] at hm
        obtain ⟨y, hy⟩ := List.length_eq_one_iff.1 (formed10 h10 hf)
        cases hfd : t.fields.find? (named v.text) with
        | none => rw [varM_none hfd] at hm; cases hm
        | some c =>
          rw [varM_some hfd, hy, List.headD_cons] at hm
          have hcm := List.mem_of_find?_eq_some hfd
          have hbk := ih c.typ y _ (hD.1 c hcm).2 (hd.2.2.2.1 y (by rw [hy]; simp)) hm (hsf c hcm) (hDt c hcm)
          rw [red1_var h10, redC_some hfd, hy, List.headD_cons]
          obtain ⟨vk, vi, vs, vt, vl, vf⟩ := v
          simp only [Val.kind, Val.num, Val.scale, Val.text, Val.lst, Val.fields] at *
          subst h10 hy
          have hb : ¬ (¬ (Val.mk 10 vi vs vt [redN n c.typ y] vf).kind = t.kind ∨ formedV (Val.mk 10 vi vs vt [redN n c.typ y] vf) = false) := by
            rintro (h | h)
            · exact h hkt
            · rw [form10 (z := y), hf] at h; cases h
          rw [com1_var hb rfl, redC_some (v := Val.mk 10 vi vs vt [redN n c.typ y] vf) hfd]
          simp only [Val.kind, Val.num, Val.scale, Val.text, Val.lst, Val.fields, List.headD_cons]
          rw [hbk]
      · by_cases h9 : v.kind = 9
        · rw [miss1_rec hg hf (by omega)] at hm
          have hup := formed9 h9 hf
          have hs := up_srt hup
          have hfit := fun x hx => fit_field hup hm (x := x) hx
          have hneed : ∀ f ∈ t.fields, f.need = 3 → ∃ x ∈ v.fields, x.name = f.name := by
            intro f hfm hn
            unfold recM at hm
            rw [List.append_eq_nil_iff, List.flatMap_eq_nil_iff] at hm
            have h1 := hm.1 f hfm
            cases hx : v.fields.find? (namedF f.name) with
            | none => rw [fieldM_need hx (by omega)] at h1; cases h1
            | some x =>
              refine ⟨x, List.mem_of_find?_eq_some hx, ?_⟩
              have := List.find?_some hx
              simpa [namedF] using this
          have hback := back_fields hs (fun f hf d hdm => ((hD.1 f hf).1 d hdm).1) hDf hneed
          rw [red1_rec h9]
          have hkp : (v.fields.filter fun x => !delB 3 t.fields x) = keptF (delB 3 t.fields) v.fields := rfl
          rw [hkp]
          have hbk : ((keptF (delB 3 t.fields) v.fields).map (redF (redN n) t.fields)).map (redF (comN n) t.fields) = keptF (delB 3 t.fields) v.fields := by
            rw [List.map_map]
            refine (List.map_congr_left fun x hx => ?_).trans (List.map_id _)
            have hxv := (List.mem_filter.1 hx).1
            obtain ⟨f, hfd, hfm, hfx⟩ := hfit x hxv
            show redF (comN n) t.fields (redF (redN n) t.fields x) = x
            rw [redF_some hfd, redF_some (x := .mk x.name (redN n f.typ x.value)) hfd]
            have := ih f.typ x.value _ (hD.1 f hfm).2 (hd.2.2.2.2 x hxv).2 hfx (hsf f hfm) (hDt f hfm)
            obtain ⟨a, b⟩ := x
            simp only [Fld.value, Fld.name] at this ⊢
            rw [this]
          have hsk : Srt ((keptF (delB 3 t.fields) v.fields).map (redF (redN n) t.fields)) := srt_map (redF_name _ _) (hs.filter _)
          obtain ⟨K, hK⟩ : ∃ K, (keptF (delB 3 t.fields) v.fields).map (redF (redN n) t.fields) = K := ⟨_, rfl⟩
          rw [hK] at hbk hsk ⊢
          have hb : ¬ (¬ (Val.mk v.kind v.num v.scale v.text v.lst K).kind = t.kind ∨ formedV (Val.mk v.kind v.num v.scale v.text v.lst K) = false) := by
            rintro (h | h)
            · exact h hkt
            · obtain ⟨vk, vi, vs, vt, vl, vf⟩ := v
              simp only [Val.kind] at h9
              subst h9
              simp only [Val.kind, Val.num, Val.scale, Val.text, Val.lst] at h
              rw [form9 hf (srt_up hsk)] at h; cases h
          rw [com1_rec hb h9]
          show Val.mk v.kind v.num v.scale v.text v.lst (insA (K.map (redF (comN n) t.fields)) t.fields) = v
          rw [hbk, hback]
          obtain ⟨vk, vi, vs, vt, vl, vf⟩ := v
          rfl
        · rw [red1_else h8 h10 h9, com1_else h8 h10 h9]
theorem redN_dep : ∀ (n : Nat) (t : Typ) (v : Val) (p : List UInt8), dep n v → missN n t v p = [] → dep n (redN n t v)
  | 0, t, v, p, hd, _ => hd.elim
  | n + 1, t, v, p, hd, hm => by
    have ih := redN_dep n
    have hd0 := hd
    simp only [dep] at hd
    rw [missN_succ] at hm
    obtain ⟨hg, hf⟩ := fit_kind hm
    rw [redN_succ]
    by_cases h8 : v.kind = 8
    · rw [miss1_list hg hf (by omega), List.append_eq_nil_iff] at hm
      have hx0 := fun i x => ixM_all hm.2 (i := i) (x := x)
      rw [red1_list h8, dep_mk]
      refine ⟨by simpa using hd.1, hd.2.1, hd.2.2.1, fun x hx => ?_, hd.2.2.2.2⟩
      obtain ⟨y, hy, rfl⟩ := List.mem_map.1 hx
      by_cases he : t.elem.length = 1
      · obtain ⟨e, he2⟩ := List.length_eq_one_iff.1 he
        obtain ⟨i, hi⟩ := List.getElem?_of_mem hy
        have hxm := hx0 i y hi
        rw [elemM_one he2] at hxm
        rw [he2, redE_one]
        exact ih e y _ (hd.2.2.2.1 y hy) hxm
      · rw [redE_ne he]; exact hd.2.2.2.1 y hy
    · by_cases h10 : v.kind = 10
      · rw [miss1_var hg hf (by omega)] at hm
        obtain ⟨y, hy⟩ := List.length_eq_one_iff.1 (formed10 h10 hf)
        cases hfd : t.fields.find? (named v.text) with
        | none => rw [varM_none hfd] at hm; cases hm
        | some c =>
          rw [varM_some hfd, hy, List.headD_cons] at hm
          rw [red1_var h10, redC_some hfd, dep_mk, hy, List.headD_cons]
          refine ⟨by simp, hd.2.1, hd.2.2.1, fun x hx => ?_, hd.2.2.2.2⟩
          simp only [List.mem_singleton] at hx
          subst hx
          exact ih _ _ _ (hd.2.2.2.1 y (by rw [hy]; simp)) hm
      · by_cases h9 : v.kind = 9
        · rw [miss1_rec hg hf (by omega)] at hm
          have hfit := fun x hx => fit_field (formed9 h9 hf) hm (x := x) hx
          rw [red1_rec h9, dep_mk]
          have h1 := List.length_filter_le (fun x => !delB 3 t.fields x) v.fields
          refine ⟨hd.1, by simp only [List.length_map]; omega, hd.2.2.1, hd.2.2.2.1, fun x hx => ?_⟩
          obtain ⟨y, hy, rfl⟩ := List.mem_map.1 hx
          have hyv := (List.mem_filter.1 hy).1
          obtain ⟨f, hfd, hfm, hfx⟩ := hfit y hyv
          have hyd := hd.2.2.2.2 y hyv
          rw [redF_some hfd]
          exact ⟨hyd.1, ih _ _ _ hyd.2 hfx⟩
        · rw [red1_else h8 h10 h9]; exact hd0
end Go.Proofs.YtikmckfppnmlnaaDoor
