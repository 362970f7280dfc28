/- A part of the proof for FitReducesCardSaid. -/
import Derived.Test.YtikmckfppnmlnaaDoorRedYE
import Derived.Test.YtikmckfppnmlnaaDoorRedYR
set_option maxRecDepth 100000
set_option linter.unusedVariables false
set_option linter.unusedSimpArgs false
namespace Go.Proofs.YtikmckfppnmlnaaDoor
open Go Go.Ab
open Nat renaming reduceEqDiff → qa, reduceAdd → qb, reduceMul → qc, reduceLeDiff → qd, reduceLT → qe, reduceBEq → qf, reduceSub → qg
open Int renaming reduceToNat → qh, reduceNeg → qi
attribute [local irreducible] vc
def redF (R : Typ → Val → Val) (fs : List TFd) (x : Fld) : Fld :=
  match fs.find? (named x.name) with
  | some f => .mk x.name (R f.typ x.value)
  | none => x
def redE (R : Typ → Val → Val) (e : List Typ) (x : Val) : Val :=
  match e with
  | [t] => R t x
  | _ => x
def redC (R : Typ → Val → Val) (t : Typ) (v : Val) : List Val :=
  match t.fields.find? (named v.text) with
  | some c => [R c.typ (v.lst.headD zeroV)]
  | none => v.lst
def red1 (R : Typ → Val → Val) (t : Typ) (v : Val) : Val :=
  if v.kind = 8 then .mk v.kind v.num v.scale v.text (v.lst.map (redE R t.elem)) v.fields
  else if v.kind = 10 then .mk v.kind v.num v.scale v.text (redC R t v) v.fields
  else if v.kind = 9 then .mk v.kind v.num v.scale v.text v.lst ((v.fields.filter fun x => !delB 3 t.fields x).map (redF R t.fields))
  else v
def redN : Nat → Typ → Val → Val
  | 0 => fun _ v => v
  | n + 1 => red1 (redN n)
def tyD : Nat → Typ → Prop
  | 0, _ => True
  | n + 1, t => (∀ f ∈ t.fields, (∀ d ∈ f.dflt, dep 3 d ∧ d.ok) ∧ tyD n f.typ) ∧ ∀ e ∈ t.elem, tyD n e
section
variable {R : Typ → Val → Val} {t : Typ} {v : Val}
theorem red1_list (h : v.kind = 8) : red1 R t v = .mk v.kind v.num v.scale v.text (v.lst.map (redE R t.elem)) v.fields := if_pos h
theorem red1_var (h : v.kind = 10) : red1 R t v = .mk v.kind v.num v.scale v.text (redC R t v) v.fields := by
  unfold red1; rw [if_neg (by omega), if_pos h]
theorem red1_rec (h : v.kind = 9) : red1 R t v = .mk v.kind v.num v.scale v.text v.lst ((v.fields.filter fun x => !delB 3 t.fields x).map (redF R t.fields)) := by
  unfold red1; rw [if_neg (by omega), if_neg (by omega), if_pos h]
theorem red1_else (h8 : ¬ v.kind = 8) (h10 : ¬ v.kind = 10) (h9 : ¬ v.kind = 9) : red1 R t v = v := by
  unfold red1; rw [if_neg h8, if_neg h10, if_neg h9]
theorem redC_some {c : TFd} (h : t.fields.find? (named v.text) = some c) : redC R t v = [R c.typ (v.lst.headD zeroV)] := by unfold redC; rw [h]
theorem redF_some {fs : List TFd} {x : Fld} {f : TFd} (h : fs.find? (named x.name) = some f) : redF R fs x = .mk x.name (R f.typ x.value) := by unfold redF; rw [h]
end
theorem redN_succ (n : Nat) (t : Typ) (v : Val) : redN (n + 1) t v = red1 (redN n) t v := rfl
theorem fit_kind {R : Typ → Val → List UInt8 → List Mis} {t : Typ} {v : Val} {p : List UInt8} (h : miss1 R t v p = []) : ¬ (t.kind < 1 ∨ 10 < t.kind ∨ ¬ v.kind = t.kind) ∧ formedV v = true := by
  by_cases g : t.kind < 1 ∨ 10 < t.kind ∨ ¬ v.kind = t.kind
  · rw [miss1_kind g] at h; cases h
  · refine ⟨g, ?_⟩
    cases hf : formedV v with
    | true => rfl
    | false => rw [miss1_bad g hf] at h; cases h
theorem ixM_all {α β : Type} {F : α → Nat → List β} {l : List α} (h : ixM F l = []) {i : Nat} {x : α} (hx : l[i]? = some x) : F x i = [] := by
  unfold ixM at h
  rw [List.flatMap_eq_nil_iff] at h
  refine h (x, i) ?_
  rw [List.mem_zipIdx_iff_getElem?]; exact hx
def RefR (n : Nat) : Prop := ∀ (t : Typ) (v : Val) (p : List UInt8), dep n v → tyOk n t → tyD n t → v.ok → missN n t v p = [] → Pure Tryd.prog tabG 33 [t.pv, v.pv] (redN n t v).pv
set_option maxHeartbeats 4000000 in
theorem ref33_list (n : Nat) (ih : RefR n) (t : Typ) (v : Val) (p : List UInt8) (hd : dep (n + 1) v) (ht : tyOk (n + 1) t) (hD : tyD (n + 1) t) (hv : v.ok) (hm : missN (n + 1) t v p = []) (hk : v.kind = 8) : Pure Tryd.prog tabG 33 [t.pv, v.pv] (redN (n + 1) t v).pv := by
  rw [missN_succ] at hm
  obtain ⟨hg, hf⟩ := fit_kind hm
  rw [miss1_list hg hf (by omega), List.append_eq_nil_iff] at hm
  have hx0 := fun i x => ixM_all hm.2 (i := i) (x := x)
  rw [redN_succ, red1_list hk]
  obtain ⟨k, m, M, s, w, e, fs⟩ := t
  obtain ⟨vk, vi, vs, vt, vl, vf⟩ := v
  simp only [dep, tyOk, tyD, Val.lst, Val.fields, Val.text, Typ.fields, Typ.words, Typ.elem, Val.kind, Val.num, Val.scale] at *
  obtain ⟨d1, d2, d3, d4, d5⟩ := hd
  obtain ⟨t1, t2, t3, t4⟩ := ht
  rw [Val.ok_mk] at hv
  subst hk
  generalize hF : redE (redN n) e = F
  refine Pure.intro F33_ok (by simp [F33]) ?_
  simp (disch := first | exact dI | fail) only [F33o0, F33o1, F33o2, F33o3, F33o4, F33o5, F33o6, F33p6, F33o7, F33b8, F33o9, F33o10, F33o11, F33o12, F33p12, F33o13, F33o14, F33o15, F33o16, F33o17, F33o18, F33o19, F33p19, F33o20, F33o21, F33o22, F33b23, F33o24, F33o25, F33c, F33, Typ.pv_mk, Val.pv_mk, push_cast, ↓reduceIte, qa, qb, qc, qd, qe, qf, qg, qh, qi]
  refine vc_over ([(5, 0, 62, 6)]) (fun i : Nat => [(5, .olist 2 6 (((vl.take i).map F).map Val.pv)), (6, .pv (.int .i64 (i : Int)))]) (fun i => []) (fun i => i ≤ vl.length) (fun i => vl.length - i) (0) ?_; intro e0 σ0 n0 h0; simp (disch := first | exact dI | fail) only [push_cast, ↓reduceIte, qa, qb, qc, qd, qe, qf, qg, qh, qi] at h0; obtain ⟨rfl, rfl, rfl⟩ := h0; refine ⟨?_, ?_, ?_⟩
  · simp (disch := first | exact dI | fail) only [List.take_zero, List.map_nil, push_cast, ↓reduceIte, qa, qb, qc, qd, qe, qf, qg, qh, qi]
  · omega
  · intro i hi
    by_cases hlt : i < vl.length
    · have hltI : (i : Int) < vl.length := by omega
      obtain ⟨x, hx⟩ : ∃ x, vl[i]? = some x := ⟨_, List.getElem?_eq_getElem hlt⟩
      have hsn := take_snoc hx
      have hxm := hx0 i x hx
      have he : e.length = 1 := by
        by_cases he : e.length = 1
        · exact he
        · rw [elemM_bad he] at hxm; cases hxm
      obtain ⟨y, rfl⟩ := List.length_eq_one_iff.1 he
      rw [elemM_one rfl] at hxm
      have hcall := ih y x _ (d4 x (List.mem_of_getElem? hx)) (t3 y (by simp)) (hD.2 y (by simp)) (hv.2.2.2.2.2.1 x (List.mem_of_getElem? hx)) hxm
      have hFx : F x = redN n y x := by rw [← hF]; rfl
      rw [← hFx] at hcall
      have hco := Val.cells_len (F x)
      have hon := Val.ones (F x)
      generalize hT : F x = T at hcall hco hon
      obtain ⟨y1, y2, y3, y4, y5, y6, y7⟩ := y
      obtain ⟨x1, x2, x3, x4, x5, x6⟩ := x
      simp only [Typ.pv_mk, Val.pv_mk] at hcall
      simp (disch := first | exact dI | fail) only [hx, Typ.pv_mk, Val.pv_mk, rElem_zero, List.getElem?_cons_zero, List.map_cons, List.map_nil, push_cast, ↓reduceIte, qa, qb, qc, qd, qe, qf, qg, qh, qi]
      refine callDL_pure hcall rfl ?_
      simp (disch := first | exact dI | fail) only [Val.cells_len, Val.isAgg, Val.ones, push_cast, ↓reduceIte, qa, qb, qc, qd, qe, qf, qg, qh, qi]
      exact ⟨i + 1, hd_z (by simp (disch := first | exact dI | fail) only [hsn, hT, List.map_append, List.map_cons, List.map_nil, push_cast, ↓reduceIte, qa, qb, qc, qd, qe, qf, qg, qh, qi]), by omega, by omega⟩
    · have hltI : ¬ (i : Int) < vl.length := by omega
      rw [take_end hlt]
      simp (disch := first | exact dI | fail) only [Val.pv_mk, push_cast, ↓reduceIte, qa, qb, qc, qd, qe, qf, qg, qh, qi]
set_option maxHeartbeats 4000000 in
theorem ref33_var (n : Nat) (ih : RefR n) (t : Typ) (v : Val) (p : List UInt8) (hd : dep (n + 1) v) (ht : tyOk (n + 1) t) (hD : tyD (n + 1) t) (hv : v.ok) (hm : missN (n + 1) t v p = []) (hk : v.kind = 10) : Pure Tryd.prog tabG 33 [t.pv, v.pv] (redN (n + 1) t v).pv := by
  rw [missN_succ] at hm
  obtain ⟨hg, hf⟩ := fit_kind hm
  have hl1 := formed10 hk hf
  rw [miss1_var hg hf (by omega)] at hm
  have h61 := typeField61 t v.text (by have := ht; simp only [tyOk] at this; omega)
  rw [redN_succ, red1_var hk]
  cases hfd : t.fields.find? (named v.text) with
  | none => rw [varM_none hfd] at hm; cases hm
  | some z =>
    rw [varM_some hfd] at hm
    rw [redC_some hfd]
    rw [hfd] at h61
    have hzm := List.mem_of_find?_eq_some hfd
    obtain ⟨k, m, M, s, w, e, fs⟩ := t
    obtain ⟨vk, vi, vs, vt, vl, vf⟩ := v
    simp only [dep, tyOk, tyD, Val.lst, Val.fields, Val.text, Typ.fields, Typ.words, Typ.elem, Val.kind, Val.num, Val.scale] at *
    obtain ⟨x, rfl⟩ := List.length_eq_one_iff.1 hl1
    obtain ⟨d1, d2, d3, d4, d5⟩ := hd
    obtain ⟨t1, t2, t3, t4⟩ := ht
    rw [Val.ok_mk] at hv
    subst hk
    have hcall := ih z.typ x _ (d4 x (by simp)) (t4 z hzm).2 (hD.1 z hzm).2 (hv.2.2.2.2.2.1 x (by simp)) hm
    simp only [List.headD_cons]
    generalize redN n z.typ x = T at *
    have hco := Val.cells_len T
    have hon := Val.ones T
    obtain ⟨z1, z2, z3, ⟨y1, y2, y3, y4, y5, y6, y7⟩, z5⟩ := z
    obtain ⟨x1, x2, x3, x4, x5, x6⟩ := x
    simp only [tfR, Option.getD_some, Option.isSome_some, TFd.pv_mk, TFd.typ, Typ.pv_mk, Val.pv_mk] at hcall h61
    refine Pure.intro F33_ok (by simp [F33]) ?_
    simp (disch := first | exact dI | fail) only [F33o0, F33o1, F33o2, F33o3, F33o4, F33o5, F33o6, F33p6, F33o7, F33b8, F33o9, F33o10, F33o11, F33o12, F33p12, F33o13, F33o14, F33o15, F33o16, F33o17, F33o18, F33o19, F33p19, F33o20, F33o21, F33o22, F33b23, F33o24, F33o25, F33c, F33, Typ.pv_mk, Val.pv_mk, List.map_cons, List.map_nil, push_cast, ↓reduceIte, qa, qb, qc, qd, qe, qf, qg, qh, qi]
    refine ACall.pure h61 rfl ?_
    simp (disch := first | exact dI | fail) only [Typ.pv_mk, Val.pv_mk, rElem_zero, List.getElem?_cons_zero, List.map_cons, List.map_nil, push_cast, ↓reduceIte, qa, qb, qc, qd, qe, qf, qg, qh, qi]
    refine ACall.pure hcall rfl ?_
    simp (disch := first | exact dI | fail) only [Val.cells_len, Val.isAgg, Val.ones, Val.pv_mk, List.map_cons, List.map_nil, push_cast, ↓reduceIte, qa, qb, qc, qd, qe, qf, qg, qh, qi]
theorem ref33_else (n : Nat) (t : Typ) (v : Val) (h8 : ¬ v.kind = 8) (h10 : ¬ v.kind = 10) (h9 : ¬ v.kind = 9) : Pure Tryd.prog tabG 33 [t.pv, v.pv] (redN (n + 1) t v).pv := by
  rw [redN_succ, red1_else h8 h10 h9]
  obtain ⟨k, m, M, s, w, e, fs⟩ := t
  obtain ⟨vk, vi, vs, vt, vl, vf⟩ := v
  simp only [Val.kind] at h8 h10 h9
  refine Pure.intro F33_ok (by simp [F33]) ?_
  simp (disch := first | exact dI | fail) only [F33o0, F33o1, F33o2, F33o3, F33o4, F33o5, F33o6, F33p6, F33o7, F33b8, F33o9, F33o10, F33o11, F33o12, F33p12, F33o13, F33o14, F33o15, F33o16, F33o17, F33o18, F33o19, F33p19, F33o20, F33o21, F33o22, F33b23, F33o24, F33o25, F33c, F33, Typ.pv_mk, Val.pv_mk, push_cast, ↓reduceIte, qa, qb, qc, qd, qe, qf, qg, qh, qi]
end Go.Proofs.YtikmckfppnmlnaaDoor
