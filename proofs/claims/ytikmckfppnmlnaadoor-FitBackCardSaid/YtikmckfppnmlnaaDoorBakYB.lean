/- A part of the proof for FitBackCardSaid. -/
import Derived.Test.YtikmckfppnmlnaaDoorBakYK
set_option maxRecDepth 100000
set_option linter.unusedVariables false
set_option linter.unusedSimpArgs false
namespace Go.Proofs.YtikmckfppnmlnaaDoor
open Go Go.Ab
open Nat renaming reduceEqDiff → qa, reduceAdd → qb, reduceMul → qc, reduceLeDiff → qd, reduceLT → qe, reduceBEq → qf, reduceSub → qg
open Int renaming reduceToNat → qh, reduceNeg → qi
attribute [local irreducible] vc
def cmpI (x y : Int) : Int := if x < y then -1 else if y < x then 1 else 0
def orI : List Int → Int
  | [] => 0
  | x :: r => if x = 0 then orI r else x
def lexL {α : Type} (c : α → α → Int) : List α → List α → Int
  | [], [] => 0
  | [], _ :: _ => -1
  | _ :: _, [] => 1
  | x :: r, y :: q => if c x y = 0 then lexL c r q else c x y
def cmpF (c : Val → Val → Int) (x y : Fld) : Int := orI [Lib.compareBytes x.name y.name, c x.value y.value]
def cmpV : Nat → Val → Val → Int
  | 0 => fun _ _ => 0
  | n + 1 => fun a b => orI [cmpI a.kind b.kind, cmpI a.num b.num, cmpI a.scale b.scale, Lib.compareBytes a.text b.text, lexL (cmpV n) a.lst b.lst, lexL (cmpF (cmpV n)) a.fields b.fields]
theorem cmpI_zero {x y : Int} : cmpI x y = 0 ↔ x = y := by
  unfold cmpI; constructor
  · intro h; split at h; · omega
    split at h <;> omega
  · rintro rfl; rw [if_neg (by omega), if_neg (by omega)]
theorem orI_zero : ∀ l : List Int, orI l = 0 ↔ ∀ x ∈ l, x = 0
  | [] => by simp [orI]
  | x :: r => by
    rw [orI]
    by_cases h : x = 0
    · rw [if_pos h, orI_zero r]; simp [h]
    · rw [if_neg h]; simp [h]
theorem bytes_zero : ∀ a b : List UInt8, Lib.compareBytes a b = 0 ↔ a = b
  | [], [] => by simp [Lib.compareBytes]
  | [], _ :: _ => by simp [Lib.compareBytes]
  | _ :: _, [] => by simp [Lib.compareBytes]
  | a :: r, b :: q => by
    have ih := bytes_zero r q
    rw [Lib.compareBytes]
    by_cases h1 : a < b
    · have : ¬ a = b := by rintro rfl; exact (UInt8.lt_irrefl a) h1
      simp [h1, this]
    · by_cases h2 : b < a
      · have : ¬ a = b := by rintro rfl; exact (UInt8.lt_irrefl a) h2
        simp [h1, h2, this]
      · have h3 : a = b := UInt8.le_antisymm (UInt8.not_lt.1 h2) (UInt8.not_lt.1 h1)
        simp [h1, h2, h3, ih]
theorem lexL_zero {α : Type} {c : α → α → Int} : ∀ (l k : List α), (∀ x ∈ l, ∀ y, c x y = 0 ↔ x = y) → (lexL c l k = 0 ↔ l = k)
  | [], [], _ => by simp [lexL]
  | [], _ :: _, _ => by simp [lexL]
  | _ :: _, [], _ => by simp [lexL]
  | x :: r, y :: q, h => by
    have ih := lexL_zero r q (fun z hz => h z (by simp [hz]))
    have h1 := h x (by simp) y
    rw [lexL]
    by_cases h0 : c x y = 0
    · rw [if_pos h0, ih]; simp [h1.1 h0]
    · rw [if_neg h0]
      constructor
      · intro hh; exact absurd hh h0
      · intro hh; cases hh; exact absurd (h1.2 rfl) h0
theorem nan_ok (x : Int) : Pure Tryd.prog tabG 145 [.int .i64 x] (.bool false) := by
  refine Pure.intro F145_ok (by simp [F145]) ?_
  simp (disch := first | exact dI | fail) only [F145o0, F145o1, F145c, F145, eq_self, push_cast, ↓reduceIte, qa, qb, qc, qd, qe, qf, qg, qh, qi]
theorem cmp131 (x y : Int) : Pure Tryd.prog tabG 131 [.int .i64 x, .int .i64 y] (.int .i64 (cmpI x y)) := by
  refine Pure.intro F131_ok (by simp [F131]) ?_
  simp (disch := first | exact dI | fail) only [F131o0, F131o1, F131o2, F131o3, F131o4, F131o5, F131o6, F131o7, F131o8, F131o9, F131o10, F131o11, F131o12, F131o13, F131c, F131, push_cast, ↓reduceIte, qa, qb, qc, qd, qe, qf, qg, qh, qi]
  refine ACall.pure (nan_ok x) rfl ?_
  simp (disch := first | exact dI | fail) only [push_cast, ↓reduceIte, qa, qb, qc, qd, qe, qf, qg, qh, qi]
  refine ACall.pure (nan_ok y) rfl ?_
  by_cases h1 : x < y
  · simp (disch := first | exact dI | fail) only [cmpI, h1, push_cast, ↓reduceIte, qa, qb, qc, qd, qe, qf, qg, qh, qi]
  · by_cases h2 : y < x
    · simp (disch := first | exact dI | fail) only [cmpI, h1, h2, push_cast, ↓reduceIte, qa, qb, qc, qd, qe, qf, qg, qh, qi]
    · simp (disch := first | exact dI | fail) only [cmpI, h1, h2, push_cast, ↓reduceIte, qa, qb, qc, qd, qe, qf, qg, qh, qi]
theorem or130 (l : List Int) (hl : l.length ≤ 1000) : Pure Tryd.prog tabG 130 [.list (l.map (PV.int .i64))] (.int .i64 (orI l)) := by
  refine Pure.intro F130_ok (by simp [F130]) ?_
  simp (disch := first | exact dI | fail) only [F130o0, F130o1, F130o2, F130o3, F130o4, F130o5, F130o6, F130o7, F130b8, F130o9, F130c, F130, push_cast, ↓reduceIte, qa, qb, qc, qd, qe, qf, qg, qh, qi]
  refine vc_over ([]) (fun i : Nat => [(8, .pv (.int .i64 (i : Int)))]) (fun _ => []) (fun i => i ≤ l.length ∧ orI l = orI (l.drop i)) (fun i => l.length - i) (0) ?_; intro e0 σ0 n0 h0; simp (disch := first | exact dI | fail) only [push_cast, ↓reduceIte, qa, qb, qc, qd, qe, qf, qg, qh, qi] at h0; obtain ⟨rfl, rfl, rfl⟩ := h0; refine ⟨?_, ?_, ?_⟩
  · simp (disch := first | exact dI | fail) only [push_cast, ↓reduceIte, qa, qb, qc, qd, qe, qf, qg, qh, qi]
  · exact ⟨Nat.zero_le _, rfl⟩
  rintro i ⟨hi, hpre⟩
  by_cases hlt : i < l.length
  · have hltI : (i : Int) < l.length := by omega
    obtain ⟨x, hx⟩ : ∃ x, l[i]? = some x := ⟨l[i], List.getElem?_eq_getElem hlt⟩
    have hd := drop_at hx
    by_cases h0 : x = 0
    · simp (disch := first | exact dI | fail) only [hx, h0, eq_self, push_cast, ↓reduceIte, qa, qb, qc, qd, qe, qf, qg, qh, qi]
      exact ⟨i + 1, hd_z (by simp (disch := first | exact dI | fail) only [push_cast, ↓reduceIte, qa, qb, qc, qd, qe, qf, qg, qh, qi]), ⟨by omega, by rw [hpre, hd, orI, if_pos h0]⟩, by omega⟩
    · simp (disch := first | exact dI | fail) only [hx, h0, push_cast, ↓reduceIte, qa, qb, qc, qd, qe, qf, qg, qh, qi]
      rw [hpre, hd, orI, if_neg h0]
  · have hltI : ¬ (i : Int) < l.length := by omega
    simp (disch := first | exact dI | fail) only [push_cast, ↓reduceIte, qa, qb, qc, qd, qe, qf, qg, qh, qi]
    rw [hpre, List.drop_eq_nil_of_le (by omega)]; rfl
theorem lexL_go {α : Type} {c : α → α → Int} {l k : List α} {i : Nat} {x y : α} (h : lexL c l k = lexL c (l.drop i) (k.drop i)) (hx : l[i]? = some x) (hy : k[i]? = some y) (h0 : c x y = 0) : lexL c l k = lexL c (l.drop (i + 1)) (k.drop (i + 1)) := by
  rw [h, drop_at hx, drop_at hy, lexL, if_pos h0]
theorem lexL_hit {α : Type} {c : α → α → Int} {l k : List α} {i : Nat} {x y : α} (h : lexL c l k = lexL c (l.drop i) (k.drop i)) (hx : l[i]? = some x) (hy : k[i]? = some y) (h0 : ¬ c x y = 0) : lexL c l k = c x y := by
  rw [h, drop_at hx, drop_at hy, lexL, if_neg h0]
theorem lexL_more {α : Type} {c : α → α → Int} {l k : List α} {i : Nat} {x : α} (h : lexL c l k = lexL c (l.drop i) (k.drop i)) (hx : l[i]? = some x) (hy : ¬ i < k.length) : lexL c l k = 1 := by
  have e : k.drop i = [] := List.drop_eq_nil_of_le (by omega)
  rw [h, drop_at hx, e, lexL]
theorem lexL_less {α : Type} {c : α → α → Int} {l k : List α} (h : lexL c l k = lexL c (l.drop l.length) (k.drop l.length)) (hk : l.length < k.length) : lexL c l k = -1 := by
  obtain ⟨y, hy⟩ : ∃ y, k[l.length]? = some y := ⟨_, List.getElem?_eq_getElem hk⟩
  rw [h, drop_at hy, List.drop_length, lexL]
theorem lexL_end {α : Type} {c : α → α → Int} {l k : List α} (h : lexL c l k = lexL c (l.drop l.length) (k.drop l.length)) (hk : ¬ l.length < k.length) : lexL c l k = 0 := by
  rw [h, List.drop_length, List.drop_eq_nil_of_le (by omega), lexL]
set_option maxHeartbeats 4000000 in
theorem compare132 (l k : List Val) (g : Nat) (c : Val → Val → Int) (hg : ∀ x ∈ l, ∀ y ∈ k, Pure Tryd.prog tabG g [x.pv, y.pv] (.int .i64 (c x y))) (hl : l.length ≤ 9000000000000) (hk : k.length ≤ 9000000000000) : Pure Tryd.prog tabG 132 [.list (l.map Val.pv), .list (k.map Val.pv), .clo g [] []] (.int .i64 (lexL c l k)) := by
  refine Pure.intro F132_ok (by simp [F132]) ?_
  generalize hR : lexL c l k = R
  simp (disch := first | exact dI | fail) only [F132o0, F132o1, F132o2, F132o3, F132o4, F132o5, F132o6, F132o7, F132o8, F132o9, F132o10, F132b11, F132o12, F132o13, F132o14, F132c, F132, push_cast, ↓reduceIte, qa, qb, qc, qd, qe, qf, qg, qh, qi]
  refine vc_over ([]) (fun m : Nat => [(13, .pv (.int .i64 (m : Int)))]) (fun m => []) (fun m => m ≤ l.length ∧ m ≤ k.length ∧ lexL c l k = lexL c (l.drop m) (k.drop m)) (fun m => l.length - m) (0) ?_; intro e0 σ0 n0 h0; simp (disch := first | exact dI | fail) only [push_cast, ↓reduceIte, qa, qb, qc, qd, qe, qf, qg, qh, qi] at h0; obtain ⟨rfl, rfl, rfl⟩ := h0; refine ⟨?_, ?_, ?_⟩
  · simp (disch := first | exact dI | fail) only [push_cast, ↓reduceIte, qa, qb, qc, qd, qe, qf, qg, qh, qi]
  · exact ⟨Nat.zero_le _, Nat.zero_le _, rfl⟩
  · rintro m ⟨hm, hm2, he⟩
    by_cases hlt : m < l.length
    · have hltI : (m : Int) < l.length := by omega
      obtain ⟨x, hx⟩ : ∃ x, l[m]? = some x := ⟨_, List.getElem?_eq_getElem hlt⟩
      by_cases hlt2 : m < k.length
      · have hlt2I : (m : Int) < k.length := by omega
        obtain ⟨y, hy⟩ : ∃ y, k[m]? = some y := ⟨_, List.getElem?_eq_getElem hlt2⟩
        have hcall := hg x (List.mem_of_getElem? hx) y (List.mem_of_getElem? hy)
        have hgo := lexL_go he hx hy
        have hhit := lexL_hit he hx hy
        generalize c x y = C at *
        obtain ⟨w1, w2, w3, w4, w5, w6⟩ := x
        obtain ⟨z1, z2, z3, z4, z5, z6⟩ := y
        rw [Val.pv_mk, Val.pv_mk] at hcall
        simp (disch := first | exact dI | fail) only [hx, hy, Val.pv_mk, push_cast, ↓reduceIte, qa, qb, qc, qd, qe, qf, qg, qh, qi]
        refine ACall.pure hcall rfl ?_
        by_cases h0 : C = 0
        · subst h0
          simp (disch := first | exact dI | fail) only [push_cast, ↓reduceIte, qa, qb, qc, qd, qe, qf, qg, qh, qi]
          exact ⟨m + 1, hd_z (by simp (disch := first | exact dI | fail) only [push_cast, ↓reduceIte, qa, qb, qc, qd, qe, qf, qg, qh, qi]), ⟨by omega, by omega, hgo rfl⟩, by omega⟩
        · simp (disch := first | exact dI | fail) only [h0, push_cast, ↓reduceIte, qa, qb, qc, qd, qe, qf, qg, qh, qi]
          rw [← hR, hhit h0]
      · have hlt2I : ¬ (m : Int) < k.length := by omega
        rw [lexL_more he hx hlt2] at hR
        subst hR
        obtain ⟨w1, w2, w3, w4, w5, w6⟩ := x
        simp (disch := first | exact dI | fail) only [hx, Val.pv_mk, push_cast, ↓reduceIte, qa, qb, qc, qd, qe, qf, qg, qh, qi]
    · have hltI : ¬ (m : Int) < l.length := by omega
      obtain rfl : m = l.length := by omega
      by_cases hk2 : l.length < k.length
      · have hk2I : (l.length : Int) < k.length := by omega
        rw [lexL_less he hk2] at hR
        subst hR
        simp (disch := first | exact dI | fail) only [push_cast, ↓reduceIte, qa, qb, qc, qd, qe, qf, qg, qh, qi]
      · have hk2I : ¬ (l.length : Int) < k.length := by omega
        rw [lexL_end he hk2] at hR
        subst hR
        simp (disch := first | exact dI | fail) only [push_cast, ↓reduceIte, qa, qb, qc, qd, qe, qf, qg, qh, qi]
set_option maxHeartbeats 4000000 in
theorem compare133 (l k : List Fld) (g : Nat) (c : Fld → Fld → Int) (hg : ∀ x ∈ l, ∀ y ∈ k, Pure Tryd.prog tabG g [x.pv, y.pv] (.int .i64 (c x y))) (hl : l.length ≤ 9000000000000) (hk : k.length ≤ 9000000000000) : Pure Tryd.prog tabG 133 [.list (l.map Fld.pv), .list (k.map Fld.pv), .clo g [] []] (.int .i64 (lexL c l k)) := by
  refine Pure.intro F133_ok (by simp [F133]) ?_
  generalize hR : lexL c l k = R
  simp (disch := first | exact dI | fail) only [F133o0, F133o1, F133o2, F133o3, F133o4, F133o5, F133o6, F133o7, F133o8, F133o9, F133o10, F133b11, F133o12, F133o13, F133o14, F133c, F133, push_cast, ↓reduceIte, qa, qb, qc, qd, qe, qf, qg, qh, qi]
  refine vc_over ([]) (fun m : Nat => [(13, .pv (.int .i64 (m : Int)))]) (fun m => []) (fun m => m ≤ l.length ∧ m ≤ k.length ∧ lexL c l k = lexL c (l.drop m) (k.drop m)) (fun m => l.length - m) (0) ?_; intro e0 σ0 n0 h0; simp (disch := first | exact dI | fail) only [push_cast, ↓reduceIte, qa, qb, qc, qd, qe, qf, qg, qh, qi] at h0; obtain ⟨rfl, rfl, rfl⟩ := h0; refine ⟨?_, ?_, ?_⟩
  · simp (disch := first | exact dI | fail) only [push_cast, ↓reduceIte, qa, qb, qc, qd, qe, qf, qg, qh, qi]
  · exact ⟨Nat.zero_le _, Nat.zero_le _, rfl⟩
  · rintro m ⟨hm, hm2, he⟩
    by_cases hlt : m < l.length
    · have hltI : (m : Int) < l.length := by omega
      obtain ⟨x, hx⟩ : ∃ x, l[m]? = some x := ⟨_, List.getElem?_eq_getElem hlt⟩
      by_cases hlt2 : m < k.length
      · have hlt2I : (m : Int) < k.length := by omega
        obtain ⟨y, hy⟩ : ∃ y, k[m]? = some y := ⟨_, List.getElem?_eq_getElem hlt2⟩
        have hcall := hg x (List.mem_of_getElem? hx) y (List.mem_of_getElem? hy)
        have hgo := lexL_go he hx hy
        have hhit := lexL_hit he hx hy
        generalize c x y = C at *
        obtain ⟨w0, ⟨w1, w2, w3, w4, w5, w6⟩⟩ := x
        obtain ⟨z0, ⟨z1, z2, z3, z4, z5, z6⟩⟩ := y
        simp only [Fld.pv_mk, Val.pv_mk] at hcall
        simp (disch := first | exact dI | fail) only [hx, hy, Fld.pv_mk, Val.pv_mk, push_cast, ↓reduceIte, qa, qb, qc, qd, qe, qf, qg, qh, qi]
        refine ACall.pure hcall rfl ?_
        by_cases h0 : C = 0
        · subst h0
          simp (disch := first | exact dI | fail) only [push_cast, ↓reduceIte, qa, qb, qc, qd, qe, qf, qg, qh, qi]
          exact ⟨m + 1, hd_z (by simp (disch := first | exact dI | fail) only [push_cast, ↓reduceIte, qa, qb, qc, qd, qe, qf, qg, qh, qi]), ⟨by omega, by omega, hgo rfl⟩, by omega⟩
        · simp (disch := first | exact dI | fail) only [h0, push_cast, ↓reduceIte, qa, qb, qc, qd, qe, qf, qg, qh, qi]
          rw [← hR, hhit h0]
      · have hlt2I : ¬ (m : Int) < k.length := by omega
        rw [lexL_more he hx hlt2] at hR
        subst hR
        obtain ⟨w0, ⟨w1, w2, w3, w4, w5, w6⟩⟩ := x
        simp (disch := first | exact dI | fail) only [hx, Fld.pv_mk, Val.pv_mk, push_cast, ↓reduceIte, qa, qb, qc, qd, qe, qf, qg, qh, qi]
    · have hltI : ¬ (m : Int) < l.length := by omega
      obtain rfl : m = l.length := by omega
      by_cases hk2 : l.length < k.length
      · have hk2I : (l.length : Int) < k.length := by omega
        rw [lexL_less he hk2] at hR
        subst hR
        simp (disch := first | exact dI | fail) only [push_cast, ↓reduceIte, qa, qb, qc, qd, qe, qf, qg, qh, qi]
      · have hk2I : ¬ (l.length : Int) < k.length := by omega
        rw [lexL_end he hk2] at hR
        subst hR
        simp (disch := first | exact dI | fail) only [push_cast, ↓reduceIte, qa, qb, qc, qd, qe, qf, qg, qh, qi]
set_option maxHeartbeats 4000000 in
theorem clo134 (n : Nat) (ih : ∀ a b, dep n a → a.ok → b.ok → Pure Tryd.prog tabG 118 [a.pv, b.pv] (.int .i64 (cmpV n a b))) (x y : Fld) (hx : dep n x.value) (hxo : x.ok) (hyo : y.ok) : Pure Tryd.prog tabG 134 [x.pv, y.pv] (.int .i64 (cmpF (cmpV n) x y)) := by
  obtain ⟨xn, xv⟩ := x
  obtain ⟨yn, yv⟩ := y
  rw [Fld.ok_mk] at hxo hyo
  simp only [Fld.value] at hx
  have hcall := ih xv yv hx hxo.2 hyo.2
  have h102 := compare_ok xn yn
  simp only [cmpF, Fld.name, Fld.value]
  have h130 := or130 [Lib.compareBytes xn yn, cmpV n xv yv] (by simp)
  generalize cmpV n xv yv = C at *
  generalize Lib.compareBytes xn yn = D at *
  obtain ⟨w1, w2, w3, w4, w5, w6⟩ := xv
  obtain ⟨z1, z2, z3, z4, z5, z6⟩ := yv
  simp only [Val.pv_mk] at hcall
  refine Pure.intro F134_ok (by simp [F134]) ?_
  simp (disch := first | exact dI | fail) only [F134o0, F134o1, F134p1, F134c, F134, Fld.pv_mk, Val.pv_mk, push_cast, ↓reduceIte, qa, qb, qc, qd, qe, qf, qg, qh, qi]
  refine callDL_pure h102 rfl ?_
  simp (disch := first | exact dI | fail) only [push_cast, ↓reduceIte, qa, qb, qc, qd, qe, qf, qg, qh, qi]
  refine ACall.pure hcall rfl ?_
  simp (disch := first | exact dI | fail) only [push_cast, ↓reduceIte, qa, qb, qc, qd, qe, qf, qg, qh, qi]
  refine ACall.pure h130 rfl ?_
  simp (disch := first | exact dI | fail) only [push_cast, ↓reduceIte, qa, qb, qc, qd, qe, qf, qg, qh, qi]
set_option maxHeartbeats 4000000 in
theorem compare118 : ∀ (n : Nat) (a b : Val), dep n a → a.ok → b.ok → Pure Tryd.prog tabG 118 [a.pv, b.pv] (.int .i64 (cmpV n a b))
  | 0, a, b, h, _, _ => h.elim
  | n + 1, a, b, hd, ha, hb => by
    have ih := compare118 n
    obtain ⟨w1, w2, w3, w4, w5, w6⟩ := a
    obtain ⟨z1, z2, z3, z4, z5, z6⟩ := b
    simp only [dep, Val.lst, Val.fields, Val.text] at hd
    obtain ⟨d1, d2, d3, d4, d5⟩ := hd
    rw [Val.ok_mk] at ha hb
    obtain ⟨a1, a2, a3, a4, a5, a7, a6, a8⟩ := ha
    obtain ⟨b1, b2, b3, b4, b5, b7, b6, b8⟩ := hb
    have h132 := compare132 w5 z5 118 (cmpV n) (fun x hx y hy => ih x y (d4 x hx) (a7 x hx) (b7 y hy)) (by omega) (by omega)
    have h133 := compare133 w6 z6 134 (cmpF (cmpV n)) (fun x hx y hy => clo134 n ih x y (d5 x hx).2 (a8 x hx) (b8 y hy)) (by omega) (by omega)
    have h1 := cmp131 w1 z1
    have h2 := cmp131 w2 z2
    have h3 := cmp131 w3 z3
    have h4 := compare_ok w4 z4
    simp only [cmpV, Val.kind, Val.num, Val.scale, Val.text, Val.lst, Val.fields]
    generalize lexL (cmpV n) w5 z5 = C5 at *
    generalize lexL (cmpF (cmpV n)) w6 z6 = C6 at *
    generalize cmpI w1 z1 = C1 at *
    generalize cmpI w2 z2 = C2 at *
    generalize cmpI w3 z3 = C3 at *
    generalize Lib.compareBytes w4 z4 = C4 at *
    have h130 := or130 [C1, C2, C3, C4, C5, C6] (by simp)
    refine Pure.intro F118_ok (by simp [F118]) ?_
    simp (disch := first | exact dI | fail) only [F118o0, F118o1, F118p1, F118c, F118, Val.pv_mk, push_cast, ↓reduceIte, qa, qb, qc, qd, qe, qf, qg, qh, qi]
    refine callDL_pure h1 rfl ?_
    simp (disch := first | exact dI | fail) only [push_cast, ↓reduceIte, qa, qb, qc, qd, qe, qf, qg, qh, qi]
    refine callDL_pure h2 rfl ?_
    simp (disch := first | exact dI | fail) only [push_cast, ↓reduceIte, qa, qb, qc, qd, qe, qf, qg, qh, qi]
    refine callDL_pure h3 rfl ?_
    simp (disch := first | exact dI | fail) only [push_cast, ↓reduceIte, qa, qb, qc, qd, qe, qf, qg, qh, qi]
    refine callDL_pure h4 rfl ?_
    simp (disch := first | exact dI | fail) only [push_cast, ↓reduceIte, qa, qb, qc, qd, qe, qf, qg, qh, qi]
    refine callDL_pure h132 rfl ?_
    simp (disch := first | exact dI | fail) only [push_cast, ↓reduceIte, qa, qb, qc, qd, qe, qf, qg, qh, qi]
    refine ACall.pure h133 rfl ?_
    simp (disch := first | exact dI | fail) only [push_cast, ↓reduceIte, qa, qb, qc, qd, qe, qf, qg, qh, qi]
    refine ACall.pure h130 rfl ?_
    simp (disch := first | exact dI | fail) only [push_cast, ↓reduceIte, qa, qb, qc, qd, qe, qf, qg, qh, qi]
theorem cmpF_zero {c : Val → Val → Int} {x : Fld} (h : ∀ y, c x.value y = 0 ↔ x.value = y) (y : Fld) : cmpF c x y = 0 ↔ x = y := by
  obtain ⟨a, v⟩ := x
  obtain ⟨b, w⟩ := y
  unfold cmpF
  rw [orI_zero]
  simp only [List.mem_cons, List.not_mem_nil, or_false, forall_eq_or_imp, forall_eq, Fld.name, Fld.value] at h ⊢
  rw [bytes_zero, h w, Fld.mk.injEq]
theorem cmpV_zero : ∀ (n : Nat) (a b : Val), dep n a → (cmpV n a b = 0 ↔ a = b)
  | 0, a, b, h => h.elim
  | n + 1, a, b, hd => by
    have ih := cmpV_zero n
    obtain ⟨w1, w2, w3, w4, w5, w6⟩ := a
    obtain ⟨z1, z2, z3, z4, z5, z6⟩ := b
    simp only [dep, Val.lst, Val.fields, Val.text] at hd
    obtain ⟨d1, d2, d3, d4, d5⟩ := hd
    simp only [cmpV, orI_zero, List.mem_cons, List.not_mem_nil, or_false, forall_eq_or_imp, forall_eq, Val.kind, Val.num, Val.scale, Val.text, Val.lst, Val.fields]
    rw [cmpI_zero, cmpI_zero, cmpI_zero, bytes_zero, lexL_zero w5 z5 (fun x hx y => ih x y (d4 x hx)), lexL_zero w6 z6 (fun x hx y => cmpF_zero (fun v => ih x.value v (d5 x hx).2) y), Val.mk.injEq]
theorem equal98 (n : Nat) (a b : Val) (hd : dep n a) (ha : a.ok) (hb : b.ok) : Pure Tryd.prog tabG 98 [a.pv, b.pv] (.bool (decide (cmpV n a b = 0))) := by
  have hcall := compare118 n a b hd ha hb
  generalize cmpV n a b = C at *
  obtain ⟨w1, w2, w3, w4, w5, w6⟩ := a
  obtain ⟨z1, z2, z3, z4, z5, z6⟩ := b
  simp only [Val.pv_mk] at hcall ⊢
  refine Pure.intro F98_ok (by simp [F98]) ?_
  simp (disch := first | exact dI | fail) only [F98o0, F98o1, F98c, F98, push_cast, ↓reduceIte, qa, qb, qc, qd, qe, qf, qg, qh, qi]
  refine ACall.pure hcall rfl ?_
  by_cases h0 : C = 0
  · simp (disch := first | exact dI | fail) only [h0, push_cast, ↓reduceIte, qa, qb, qc, qd, qe, qf, qg, qh, qi]
  · simp (disch := first | exact dI | fail) only [h0, push_cast, ↓reduceIte, qa, qb, qc, qd, qe, qf, qg, qh, qi]
end Go.Proofs.YtikmckfppnmlnaaDoor
