/- A part of the proof for FitBackCardSaid. -/
import Derived.Test.YtikmckfppnmlnaaDoorBakYRj
import Derived.Test.YtikmckfppnmlnaaDoorCore5
set_option maxRecDepth 100000
set_option linter.unusedVariables false
set_option linter.unusedSimpArgs false
namespace Go.Proofs.YtikmckfppnmlnaaDoor
open Go Go.Ab
theorem bl_total : ∀ a b : List UInt8, bytesLt a b = false → bytesLt b a = false → a = b
  | [], [], _, _ => rfl
  | [], _ :: _, h, _ => by cases h
  | _ :: _, [], _, h => by cases h
  | a :: r, b :: q, h1, h2 => by
    have ih : Op.bytesLess r q = false → Op.bytesLess q r = false → r = q := bl_total r q
    have k1 : Op.bytesLess (a :: r) (b :: q) = false := h1
    have k2 : Op.bytesLess (b :: q) (a :: r) = false := h2
    rw [Op.bytesLess] at k1 k2
    simp only [Bool.or_eq_false_iff, Bool.and_eq_false_iff, decide_eq_false_iff_not, beq_eq_false_iff_ne, UInt8.lt_iff_toNat_lt] at k1 k2
    have hab : a = b := UInt8.toNat_inj.1 (by omega)
    subst hab
    simp only [ne_eq, not_true_eq_false, false_or] at k1 k2
    rw [ih k1.2 k2.2]
theorem cmp_lt : ∀ a b : List UInt8, decide (Lib.compareBytes a b < 0) = bytesLt a b
  | [], [] => rfl
  | [], _ :: _ => rfl
  | _ :: _, [] => rfl
  | a :: r, b :: q => by
    have ih : decide (Lib.compareBytes r q < 0) = Op.bytesLess r q := cmp_lt r q
    show _ = Op.bytesLess (a :: r) (b :: q)
    rw [Lib.compareBytes, Op.bytesLess]
    by_cases h1 : a < b
    · simp [h1]
    · by_cases h2 : b < a
      · have : ¬ a = b := by rintro rfl; exact (UInt8.lt_irrefl a) h2
        simp [h1, h2, this]
      · have h3 : a = b := UInt8.le_antisymm (UInt8.not_lt.1 h2) (UInt8.not_lt.1 h1)
        simp [h1, h2, h3, ih]
def Srt (l : List Fld) : Prop := l.Pairwise fun x y => bytesLt x.name y.name = true
theorem srt_get {l : List Fld} (h : Srt l) {i j : Nat} {x y : Fld} (hx : l[i]? = some x) (hy : l[j]? = some y) (hij : i < j) : bytesLt x.name y.name = true := by
  obtain ⟨h1, rfl⟩ := List.getElem?_eq_some_iff.1 hx
  obtain ⟨h2, rfl⟩ := List.getElem?_eq_some_iff.1 hy
  exact List.pairwise_iff_getElem.1 h i j h1 h2 hij
theorem up_srt {f : List Fld} (h : upB f = true) : Srt f := by
  refine List.pairwise_iff_getElem.2 fun i j hi hj hij => ?_
  exact up_lt h (j - i - 1) i f[i] f[j] (List.getElem?_eq_getElem hi) (by rw [show i + (j - i - 1) + 1 = j by omega]; exact List.getElem?_eq_getElem hj)
theorem srt_map {g : Fld → Fld} (hg : ∀ x, (g x).name = x.name) {l : List Fld} (h : Srt l) : Srt (l.map g) := by
  refine List.pairwise_map.2 (h.imp fun {x y} hxy => ?_)
  rw [hg, hg]; exact hxy
def ltN (s : List UInt8) (x : Fld) : Bool := bytesLt x.name s
def posF (l : List Fld) (s : List UInt8) : Nat := (l.takeWhile (ltN s)).length
def hasF (l : List Fld) (s : List UInt8) : Bool := l.any (namedF s)
def insF (l : List Fld) (x : Fld) : List Fld := l.takeWhile (ltN x.name) ++ x :: l.dropWhile (ltN x.name)
theorem tw_take {α : Type} (p : α → Bool) : ∀ l : List α, l.take (l.takeWhile p).length = l.takeWhile p ∧ l.drop (l.takeWhile p).length = l.dropWhile p
  | [] => ⟨rfl, rfl⟩
  | a :: r => by
    obtain ⟨h1, h2⟩ := tw_take p r
    cases h : p a with
    | true => simp only [List.takeWhile_cons, List.dropWhile_cons, h, if_true, List.length_cons, List.take_succ_cons, List.drop_succ_cons, h1, h2, and_self]
    | false => simp [List.takeWhile_cons, List.dropWhile_cons, h]
theorem insF_pos (l : List Fld) (x : Fld) : insF l x = l.take (posF l x.name) ++ x :: l.drop (posF l x.name) := by
  obtain ⟨h1, h2⟩ := tw_take (ltN x.name) l
  unfold insF posF; rw [h1, h2]
theorem posF_le (l : List Fld) (s : List UInt8) : posF l s ≤ l.length := by
  have := congrArg List.length (List.takeWhile_append_dropWhile (p := ltN s) (l := l))
  rw [List.length_append] at this
  unfold posF; omega
theorem posF_eq (s : List UInt8) : ∀ (l : List Fld) (i : Nat), i ≤ l.length → (∀ k x, k < i → l[k]? = some x → ltN s x = true) → (∀ k x, i ≤ k → l[k]? = some x → ltN s x = false) → posF l s = i
  | [], i, hi, _, _ => by simp at hi; subst hi; rfl
  | a :: r, 0, _, _, h2 => by
    have := h2 0 a (Nat.le_refl _) rfl
    simp [posF, List.takeWhile_cons, this]
  | a :: r, i + 1, hi, h1, h2 => by
    have h0 := h1 0 a (by omega) rfl
    have ih := posF_eq s r i (by simpa using hi) (fun k x hk hx => h1 (k + 1) x (by omega) hx) (fun k x hk hx => h2 (k + 1) x (by omega) hx)
    simp only [posF, List.takeWhile_cons, h0, if_true, List.length_cons]
    simp only [posF] at ih
    rw [ih]
theorem mem_insF {l : List Fld} {x y : Fld} : y ∈ insF l x ↔ y = x ∨ y ∈ l := by
  have h := List.takeWhile_append_dropWhile (p := ltN x.name) (l := l)
  constructor
  · intro hy
    simp only [insF, List.mem_append, List.mem_cons] at hy
    rcases hy with hy | hy | hy
    · right; rw [← h]; exact List.mem_append_left _ hy
    · exact .inl hy
    · right; rw [← h]; exact List.mem_append_right _ hy
  · intro hy
    simp only [insF, List.mem_append, List.mem_cons]
    rcases hy with hy | hy
    · exact .inr (.inl hy)
    · rw [← h] at hy
      rcases List.mem_append.1 hy with hy | hy
      · exact .inl hy
      · exact .inr (.inr hy)
theorem hasF_iff {l : List Fld} {s : List UInt8} : hasF l s = true ↔ ∃ x ∈ l, x.name = s := by
  simp [hasF, List.any_eq_true, namedF]
theorem dw_head {α : Type} (p : α → Bool) : ∀ (l : List α) (a : α) (r : List α), l.dropWhile p = a :: r → p a = false
  | [], a, r, h => by simp at h
  | x :: q, a, r, h => by
    rw [List.dropWhile_cons] at h
    cases hx : p x with
    | true => rw [if_pos hx] at h; exact dw_head p q a r h
    | false => rw [hx] at h; simp at h; rw [← h.1]; exact hx
theorem tw_all {α : Type} (p : α → Bool) : ∀ (l : List α) (a : α), a ∈ l.takeWhile p → p a = true
  | [], a, h => by simp at h
  | x :: q, a, h => by
    rw [List.takeWhile_cons] at h
    cases hx : p x with
    | true =>
      rw [if_pos hx] at h
      rcases List.mem_cons.1 h with rfl | h
      · exact hx
      · exact tw_all p q a h
    | false => rw [hx] at h; simp at h
theorem srt_insF {l : List Fld} {x : Fld} (h : Srt l) (hn : hasF l x.name = false) : Srt (insF l x) := by
  have hl := List.takeWhile_append_dropWhile (p := ltN x.name) (l := l)
  have h' : Srt (l.takeWhile (ltN x.name) ++ l.dropWhile (ltN x.name)) := by rw [hl]; exact h
  obtain ⟨h1, h2, h3⟩ := List.pairwise_append.1 h'
  have hlt : ∀ b ∈ l.dropWhile (ltN x.name), bytesLt x.name b.name = true := by
    intro b hb
    cases hd : l.dropWhile (ltN x.name) with
    | nil => rw [hd] at hb; cases hb
    | cons a r =>
      have ha := dw_head _ _ _ _ hd
      have ham : a ∈ l := by rw [← hl, hd]; simp
      have hax : ¬ a.name = x.name := fun e => by
        have := hasF_iff.2 ⟨a, ham, e⟩
        rw [hn] at this; cases this
      have hxa : bytesLt x.name a.name = true := by
        cases hc : bytesLt x.name a.name with
        | true => rfl
        | false => exact absurd (bl_total _ _ ha hc) hax
      rw [hd] at hb h2
      rcases List.mem_cons.1 hb with rfl | hb
      · exact hxa
      · exact bl_trans _ _ _ hxa (List.rel_of_pairwise_cons h2 hb)
  refine List.pairwise_append.2 ⟨h1, List.pairwise_cons.2 ⟨hlt, h2⟩, fun a ha b hb => ?_⟩
  have hax : bytesLt a.name x.name = true := tw_all (ltN x.name) l a ha
  rcases List.mem_cons.1 hb with rfl | hb
  · exact hax
  · exact h3 a ha b hb
theorem srt_ext : ∀ (l k : List Fld), Srt l → Srt k → (∀ x, x ∈ l ↔ x ∈ k) → l = k
  | [], [], _, _, _ => rfl
  | [], b :: q, _, _, h => by have := (h b).2 (by simp); cases this
  | a :: r, [], _, _, h => by have := (h a).1 (by simp); cases this
  | a :: r, b :: q, hl, hk, h => by
    obtain ⟨l1, l2⟩ := List.pairwise_cons.1 hl
    obtain ⟨k1, k2⟩ := List.pairwise_cons.1 hk
    have hab : a = b := by
      rcases List.mem_cons.1 ((h a).1 (by simp)) with e | ha
      · exact e
      · rcases List.mem_cons.1 ((h b).2 (by simp)) with e | hb
        · exact e.symm
        · have := bl_trans _ _ _ (l1 b hb) (k1 a ha)
          rw [bl_irrefl] at this; cases this
    subst hab
    have ha1 : a ∉ r := fun hh => by have := l1 a hh; rw [bl_irrefl] at this; cases this
    have ha2 : a ∉ q := fun hh => by have := k1 a hh; rw [bl_irrefl] at this; cases this
    rw [srt_ext r q l2 k2 fun x => ⟨fun hx => by
      rcases List.mem_cons.1 ((h x).1 (List.mem_cons_of_mem _ hx)) with rfl | hh
      · exact absurd hx ha1
      · exact hh, fun hx => by
      rcases List.mem_cons.1 ((h x).2 (List.mem_cons_of_mem _ hx)) with rfl | hh
      · exact absurd hx ha2
      · exact hh⟩]
theorem srt_name {l : List Fld} (h : Srt l) {x y : Fld} (hx : x ∈ l) (hy : y ∈ l) (e : x.name = y.name) : x = y := by
  obtain ⟨i, hi⟩ := List.getElem?_of_mem hx
  obtain ⟨j, hj⟩ := List.getElem?_of_mem hy
  rcases Nat.lt_trichotomy i j with hij | hij | hij
  · have := srt_get h hi hj hij
    rw [e, bl_irrefl] at this; cases this
  · subst hij; rw [hi] at hj; cases hj; rfl
  · have := srt_get h hj hi hij
    rw [e, bl_irrefl] at this; cases this
def dfl (f : TFd) : Option Val :=
  if f.need = 3 then (match f.dflt with | [d] => some d | _ => none) else none
def insD (l : List Fld) (f : TFd) : List Fld :=
  match dfl f with
  | some d => if hasF l f.name then l else insF l (.mk f.name d)
  | none => l
def insA (l : List Fld) (fs : List TFd) : List Fld := fs.foldl insD l
def com1 (R : Typ → Val → Val) (t : Typ) (v : Val) : Val :=
  if ¬ v.kind = t.kind ∨ formedV v = false then v
  else if v.kind = 8 then .mk v.kind v.num v.scale v.text (v.lst.map (redE R t.elem)) v.fields
  else if v.kind = 10 then .mk v.kind v.num v.scale v.text (redC R t v) v.fields
  else if v.kind = 9 then .mk v.kind v.num v.scale v.text v.lst (insA (v.fields.map (redF R t.fields)) t.fields)
  else v
def comN : Nat → Typ → Val → Val
  | 0 => fun _ v => v
  | n + 1 => com1 (comN n)
theorem comN_succ (n : Nat) (t : Typ) (v : Val) : comN (n + 1) t v = com1 (comN n) t v := rfl
section
variable {R : Typ → Val → Val} {t : Typ} {v : Val}
theorem com1_bad (h : ¬ v.kind = t.kind ∨ formedV v = false) : com1 R t v = v := if_pos h
theorem com1_list (hg : ¬ (¬ v.kind = t.kind ∨ formedV v = false)) (h : v.kind = 8) : com1 R t v = .mk v.kind v.num v.scale v.text (v.lst.map (redE R t.elem)) v.fields := by
  unfold com1; rw [if_neg hg, if_pos h]
theorem com1_var (hg : ¬ (¬ v.kind = t.kind ∨ formedV v = false)) (h : v.kind = 10) : com1 R t v = .mk v.kind v.num v.scale v.text (redC R t v) v.fields := by
  unfold com1; rw [if_neg hg, if_neg (by omega), if_pos h]
theorem com1_rec (hg : ¬ (¬ v.kind = t.kind ∨ formedV v = false)) (h : v.kind = 9) : com1 R t v = .mk v.kind v.num v.scale v.text v.lst (insA (v.fields.map (redF R t.fields)) t.fields) := by
  unfold com1; rw [if_neg hg, if_neg (by omega), if_neg (by omega), if_pos h]
theorem com1_else (h8 : ¬ v.kind = 8) (h10 : ¬ v.kind = 10) (h9 : ¬ v.kind = 9) : com1 R t v = v := by
  unfold com1
  rw [if_neg h8, if_neg h10, if_neg h9]
  split <;> rfl
end
theorem redF_name (R : Typ → Val → Val) (fs : List TFd) (x : Fld) : (redF R fs x).name = x.name := by
  unfold redF; split <;> rfl
theorem insD_none {l : List Fld} {f : TFd} (h : dfl f = none) : insD l f = l := by unfold insD; rw [h]
theorem insD_has {l : List Fld} {f : TFd} (h : hasF l f.name = true) : insD l f = l := by
  unfold insD; split
  · rw [if_pos h]
  · rfl
theorem insD_ins {l : List Fld} {f : TFd} {d : Val} (h : dfl f = some d) (hn : hasF l f.name = false) : insD l f = insF l (.mk f.name d) := by
  unfold insD; rw [h]; simp [hn]
theorem mem_insD {l : List Fld} {f : TFd} {x : Fld} (hx : x ∈ l) : x ∈ insD l f := by
  unfold insD; split
  · split
    · exact hx
    · exact mem_insF.2 (.inr hx)
  · exact hx
theorem hasF_insD {l : List Fld} {f : TFd} {s : List UInt8} (h : hasF l s = true) : hasF (insD l f) s = true := by
  obtain ⟨x, hx, e⟩ := hasF_iff.1 h
  exact hasF_iff.2 ⟨x, mem_insD hx, e⟩
theorem hasF_insA {s : List UInt8} : ∀ (fs : List TFd) (l : List Fld), hasF l s = true → hasF (insA l fs) s = true
  | [], l, h => h
  | f :: r, l, h => hasF_insA r (insD l f) (hasF_insD h)
theorem mem_insA {x : Fld} : ∀ (fs : List TFd) (l : List Fld), x ∈ l → x ∈ insA l fs
  | [], l, h => h
  | f :: r, l, h => mem_insA r (insD l f) (mem_insD h)
theorem hasF_done : ∀ (fs : List TFd) (l : List Fld) (f : TFd) (d : Val), f ∈ fs → dfl f = some d → hasF (insA l fs) f.name = true
  | [], l, f, d, h, _ => by cases h
  | g :: r, l, f, d, h, hd => by
    rcases List.mem_cons.1 h with rfl | h
    · refine hasF_insA r _ ?_
      cases hh : hasF l f.name with
      | true => exact hasF_insD hh
      | false => rw [insD_ins hd hh]; exact hasF_iff.2 ⟨_, mem_insF.2 (.inl rfl), rfl⟩
    · exact hasF_done r _ f d h hd
theorem srt_insD {l : List Fld} {f : TFd} (h : Srt l) : Srt (insD l f) := by
  cases hd : dfl f with
  | none => rw [insD_none hd]; exact h
  | some d =>
    cases hh : hasF l f.name with
    | true => rw [insD_has hh]; exact h
    | false => rw [insD_ins hd hh]; exact srt_insF h hh
theorem srt_insA : ∀ (fs : List TFd) (l : List Fld), Srt l → Srt (insA l fs)
  | [], l, h => h
  | f :: r, l, h => srt_insA r _ (srt_insD h)
theorem insA_snoc (l : List Fld) (fs : List TFd) (f : TFd) : insA l (fs ++ [f]) = insD (insA l fs) f := by
  simp [insA]
theorem insF_len (l : List Fld) (x : Fld) : (insF l x).length = l.length + 1 := by
  have h := congrArg List.length (List.takeWhile_append_dropWhile (p := ltN x.name) (l := l))
  rw [List.length_append] at h
  simp only [insF, List.length_append, List.length_cons]; omega
theorem insD_len (l : List Fld) (f : TFd) : (insD l f).length ≤ l.length + 1 := by
  unfold insD; split
  · split
    · omega
    · rw [insF_len]; omega
  · omega
theorem insA_len : ∀ (fs : List TFd) (l : List Fld), (insA l fs).length ≤ l.length + fs.length
  | [], l => by simp [insA]
  | f :: r, l => by
    have h1 := insA_len r (insD l f)
    have h2 := insD_len l f
    have e : insA l (f :: r) = insA (insD l f) r := rfl
    rw [e, List.length_cons]; omega
theorem dfl_mem {f : TFd} {d : Val} (h : dfl f = some d) : f.need = 3 ∧ f.dflt = [d] := by
  unfold dfl at h
  split at h
  · rename_i hn
    split at h
    · cases h; exact ⟨hn, ‹_›⟩
    · cases h
  · cases h
end Go.Proofs.YtikmckfppnmlnaaDoor
set_option maxRecDepth 100000
set_option linter.unusedVariables false
set_option linter.unusedSimpArgs false
namespace Go.Proofs.YtikmckfppnmlnaaDoor
open Go Go.Ab
open Nat renaming reduceEqDiff → qa, reduceAdd → qb, reduceMul → qc, reduceLeDiff → qd, reduceLT → qe, reduceBEq → qf, reduceSub → qg
open Int renaming reduceToNat → qh, reduceNeg → qi
attribute [local irreducible] vc
theorem clo101 (x : Fld) (s : List UInt8) : Pure Tryd.prog tabG 101 [x.pv, .str s] (.int .i64 (Lib.compareBytes x.name s)) := by
  obtain ⟨a, ⟨x1, x2, x3, x4, x5, x6⟩⟩ := x
  have h := compare_ok a s
  refine Pure.intro F101_ok (by simp [F101]) ?_
  simp (disch := first | exact dI | fail) only [F101o0, F101o1, F101c, F101, Fld.pv_mk, Val.pv_mk, Fld.name, push_cast, ↓reduceIte, qa, qb, qc, qd, qe, qf, qg, qh, qi]
  refine ACall.pure h rfl ?_
  simp (disch := first | exact dI | fail) only [push_cast, ↓reduceIte, qa, qb, qc, qd, qe, qf, qg, qh, qi]
theorem shr_half {a : Int} {h : Nat} (hh : a / 2 = (h : Int)) : rBin .shr (.pv (.int .u64 a)) (.pv (.int .u64 1)) = some (.pv (.int .u64 (h : Int))) := by
  have e : a.fdiv 2 = a / 2 := Int.fdiv_eq_ediv_of_nonneg a (by omega)
  simp [rBin, rShift, IntKind.bits, e, hh]
def midI (l : List Fld) (s : List UInt8) (x : Nat × Nat) : Prop :=
  x.1 ≤ x.2 ∧ x.2 ≤ l.length ∧ (∀ k y, k < x.1 → l[k]? = some y → ltN s y = true) ∧ ∀ k y, x.2 ≤ k → l[k]? = some y → ltN s y = false
theorem mid_up {l : List Fld} {s : List UInt8} {i j h : Nat} {y : Fld} (hs : Srt l) (hI : midI l s (i, j)) (hi : i ≤ h) (hj : h < j) (hy : l[h]? = some y) (hlt : ltN s y = true) : midI l s (h + 1, j) := by
  obtain ⟨h1, h2, h3, h4⟩ := hI
  refine ⟨by simp only; omega, h2, fun k z hk hz => ?_, h4⟩
  simp only at hk
  by_cases hkh : k = h
  · subst hkh; rw [hy] at hz; cases hz; exact hlt
  · exact bl_trans _ _ _ (srt_get hs hz hy (by omega)) hlt
theorem mid_dn {l : List Fld} {s : List UInt8} {i j h : Nat} {y : Fld} (hs : Srt l) (hI : midI l s (i, j)) (hi : i ≤ h) (hj : h < j) (hy : l[h]? = some y) (hlt : ltN s y = false) : midI l s (i, h) := by
  obtain ⟨h1, h2, h3, h4⟩ := hI
  refine ⟨by simp only; omega, by simp only at h2 ⊢; omega, h3, fun k z hk hz => ?_⟩
  simp only at hk
  by_cases hkh : k = h
  · subst hkh; rw [hy] at hz; cases hz; exact hlt
  · cases hz2 : ltN s z with
    | false => rfl
    | true =>
      have := bl_trans _ _ _ (srt_get hs hy hz (by omega)) hz2
      unfold ltN at hlt
      rw [hlt] at this; cases this
theorem mid_end {l : List Fld} {s : List UInt8} {i j : Nat} (hI : midI l s (i, j)) (h : ¬ i < j) : posF l s = i := by
  obtain ⟨h1, h2, h3, h4⟩ := hI
  simp only at h1 h2 h3 h4
  have e : i = j := by omega
  subst e
  exact posF_eq s l i h2 h3 h4
theorem has_pos {l : List Fld} {s : List UInt8} (hs : Srt l) {y : Fld} (hy : l[posF l s]? = some y) : hasF l s = decide (Lib.compareBytes y.name s = 0) := by
  rw [Bool.eq_iff_iff, hasF_iff, decide_eq_true_eq, bytes_zero]
  constructor
  · rintro ⟨x, hx, e⟩
    obtain ⟨i, hi⟩ := List.getElem?_of_mem hx
    have hdw := (tw_take (ltN s) l).2
    have hyd : (l.dropWhile (ltN s))[0]? = some y := by
      rw [← hdw, List.getElem?_drop, Nat.add_zero]; exact hy
    cases hd : l.dropWhile (ltN s) with
    | nil => rw [hd] at hyd; cases hyd
    | cons a r =>
      rw [hd] at hyd
      simp only [List.getElem?_cons_zero, Option.some.injEq] at hyd
      subst hyd
      have ha := dw_head _ _ _ _ hd
      rcases Nat.lt_trichotomy i (posF l s) with hip | hip | hip
      · have hxm : x ∈ l.takeWhile (ltN s) := by
          rw [← (tw_take (ltN s) l).1]
          exact List.mem_of_getElem? (i := i) (by rw [List.getElem?_take]; exact (if_pos hip).trans hi)
        have := tw_all _ _ _ hxm
        unfold ltN at this
        rw [e, bl_irrefl] at this; cases this
      · rw [hip, hy] at hi; cases hi; exact e
      · have := srt_get hs hy hi hip
        unfold ltN at ha
        rw [e, ha] at this; cases this
  · intro e; exact ⟨y, List.mem_of_getElem? hy, e⟩
theorem has_end {l : List Fld} {s : List UInt8} (h : ¬ posF l s < l.length) : hasF l s = false := by
  cases hh : hasF l s with
  | false => rfl
  | true =>
    obtain ⟨x, hx, e⟩ := hasF_iff.1 hh
    have h1 := (tw_take (ltN s) l).1
    have hle := posF_le l s
    rw [show (l.takeWhile (ltN s)).length = l.length by unfold posF at h hle; omega, List.take_length] at h1
    rw [h1] at hx
    have := tw_all _ _ _ hx
    unfold ltN at this
    rw [e, bl_irrefl] at this; cases this
set_option maxHeartbeats 4000000 in
theorem search100 (l : List Fld) (s : List UInt8) (hs : Srt l) (hl : l.length ≤ 1000) :
    Lent Tryd.prog tabG 1 100 [.row 0 7 0 l.length, .pv (.str s), .pv (.clo 101 [] [])] [.cells 127 false ((rowP l).map .pv)] (.pv (.tup [.int .i64 (posF l s), .bool (hasF l s)])) [.cells 127 false ((rowP l).map .pv)] := by
  have hrl := rowP_len l
  refine Lent.intro F100_ok (by simp [F100]) ?_
  simp (disch := first | exact dI | fail) only [F100o0, F100o1, F100o2, F100o3, F100o4, F100o5, F100o6, F100o7, F100b8, F100o9, F100c, F100, push_cast, ↓reduceIte, qa, qb, qc, qd, qe, qf, qg, qh, qi]
  refine vc_over ([]) (fun x : Nat × Nat => [(9, .pv (.int .i64 (x.1 : Int))), (10, .pv (.int .i64 (x.2 : Int)))]) (fun x => []) (midI l s) (fun x => x.2 - x.1) ((0, l.length)) ?_; intro e0 σ0 n0 h0; simp (disch := first | exact dI | fail) only [push_cast, ↓reduceIte, qa, qb, qc, qd, qe, qf, qg, qh, qi] at h0; obtain ⟨rfl, rfl, rfl⟩ := h0; refine ⟨?_, ?_, ?_⟩
  · simp (disch := first | exact dI | fail) only [push_cast, ↓reduceIte, qa, qb, qc, qd, qe, qf, qg, qh, qi]
  · exact ⟨Nat.zero_le _, Nat.le_refl _, fun k y hk => absurd hk (Nat.not_lt_zero _), fun k y hk hy => by rw [List.getElem?_eq_none hk] at hy; cases hy⟩
  · rintro ⟨i, j⟩ hI
    have hI0 := hI
    obtain ⟨h1, h2, h3, h4⟩ := hI0
    simp only at h1 h2
    by_cases hlt : i < j
    · have hltI : (i : Int) < j := by omega
      obtain ⟨h, hh⟩ : ∃ h, h = (i + j) / 2 := ⟨_, rfl⟩
      have hsh := shr_half (a := (i : Int) + (j : Int)) (h := h) (by omega)
      obtain ⟨x, hx⟩ : ∃ x, l[h]? = some x := ⟨_, List.getElem?_eq_getElem (by omega)⟩
      have hcall := clo101 x s
      have hcmp := cmp_lt x.name s
      have hld := rowP_load hx
      have hhl : h < l.length := by omega
      simp (disch := first | exact dI | fail) only [hsh, hx, hld, Fld.cells_len, Fld.isAgg, push_cast, ↓reduceIte, qa, qb, qc, qd, qe, qf, qg, qh, qi]
      refine ACall.pure hcall rfl ?_
      cases hb : bytesLt x.name s with
      | true =>
        rw [hb, decide_eq_true_eq] at hcmp
        simp (disch := first | exact dI | fail) only [push_cast, ↓reduceIte, qa, qb, qc, qd, qe, qf, qg, qh, qi]
        exact ⟨(h + 1, j), hd_z (by simp (disch := first | exact dI | fail) only [push_cast, ↓reduceIte, qa, qb, qc, qd, qe, qf, qg, qh, qi]), mid_up hs hI (by omega) (by omega) hx hb, by simp only; omega⟩
      | false =>
        rw [hb, decide_eq_false_iff_not] at hcmp
        simp (disch := first | exact dI | fail) only [push_cast, ↓reduceIte, qa, qb, qc, qd, qe, qf, qg, qh, qi]
        exact ⟨(i, h), hd_z (by simp (disch := first | exact dI | fail) only [push_cast, ↓reduceIte, qa, qb, qc, qd, qe, qf, qg, qh, qi]), mid_dn hs hI (by omega) (by omega) hx hb, by simp only; omega⟩
    · have hltI : ¬ (i : Int) < j := by omega
      have hp := mid_end hI hlt
      by_cases hil : i < l.length
      · have hilI : (i : Int) < l.length := by omega
        obtain ⟨x, hx⟩ : ∃ x, l[i]? = some x := ⟨_, List.getElem?_eq_getElem hil⟩
        have hcall := clo101 x s
        have hld := rowP_load hx
        have hhp := has_pos hs (y := x) (by rw [hp]; exact hx)
        simp (disch := first | exact dI | fail) only [hx, hld, Fld.cells_len, Fld.isAgg, push_cast, ↓reduceIte, qa, qb, qc, qd, qe, qf, qg, qh, qi]
        refine ACall.pure hcall rfl ?_
        rw [hhp, hp]
        by_cases hz : Lib.compareBytes x.name s = 0
        · simp (disch := first | exact dI | fail) only [hz, push_cast, ↓reduceIte, qa, qb, qc, qd, qe, qf, qg, qh, qi]
          exact lent_z [] (by simp (disch := first | exact dI | fail) only [push_cast, ↓reduceIte, qa, qb, qc, qd, qe, qf, qg, qh, qi])
        · simp (disch := first | exact dI | fail) only [hz, push_cast, ↓reduceIte, qa, qb, qc, qd, qe, qf, qg, qh, qi]
          exact lent_z [] (by simp (disch := first | exact dI | fail) only [push_cast, ↓reduceIte, qa, qb, qc, qd, qe, qf, qg, qh, qi])
      · have hilI : ¬ (i : Int) < l.length := by omega
        have hhp := has_end (l := l) (s := s) (by rw [hp]; exact hil)
        rw [hhp, hp]
        simp (disch := first | exact dI | fail) only [push_cast, ↓reduceIte, qa, qb, qc, qd, qe, qf, qg, qh, qi]
        exact lent_z [] (by simp (disch := first | exact dI | fail) only [push_cast, ↓reduceIte, qa, qb, qc, qd, qe, qf, qg, qh, qi])
end Go.Proofs.YtikmckfppnmlnaaDoor
set_option maxRecDepth 100000
set_option linter.unusedVariables false
set_option linter.unusedSimpArgs false
namespace Go.Proofs.YtikmckfppnmlnaaDoor
open Go Go.Ab
attribute [local irreducible] vc
theorem rowF_one (l : List Fld) : (rowF l).all AV.one = true := by
  rw [List.all_eq_true]
  intro y hy
  obtain ⟨x, _, hx⟩ := List.mem_flatMap.1 hy
  obtain ⟨p, hp, rfl⟩ := List.mem_map.1 hx
  exact (List.all_eq_true.1 (Fld.ones x)) p hp
structure Cut (l : List Fld) (L : List AV) (i : Nat) (K : List AV) : Prop where
  eq : L = rowF (l.take i) ++ (rowF (l.drop i) ++ K)
theorem cutR {l : List Fld} {K : List AV} (i : Nat) : rowF l ++ K = rowF (l.take i) ++ (rowF (l.drop i) ++ K) := by
  rw [← List.append_assoc, ← rowF_app, List.take_append_drop]
section
variable {l : List Fld} {i n : Nat} (hi : i ≤ l.length) (K : List AV)
theorem shift_eq {A B K L1 : List AV} {X : List AV} {o m : Nat} (hA : A.length = o) (hB : B.length = m) (hX : X.length = 7) (hK : 7 ≤ K.length)
    (h1 : (A ++ (B ++ K)).take (o + 7) ++ (((A ++ (B ++ K)).drop o).take (m + 7)).take m ++ (A ++ (B ++ K)).drop (o + 7 + m) = L1) : L1.length = (A ++ (B ++ K)).length ∧ L1.take o ++ X ++ L1.drop (o + 7) = A ++ (X ++ (B ++ K.drop 7)) := by
  subst hA hB
  have e1 : (A ++ (B ++ K)).drop A.length = B ++ K := List.drop_left
  have e2 : ((B ++ K).take (B.length + 7)).take B.length = B := by
    rw [List.take_take, Nat.min_eq_left (by omega), List.take_left]
  have e3 : (A ++ (B ++ K)).drop (A.length + 7 + B.length) = K.drop 7 := by
    rw [show A.length + 7 + B.length = A.length + (B.length + 7) by omega, ← List.drop_drop, e1, ← List.drop_drop, List.drop_left]
  rw [e1, e2, e3] at h1
  have hT : ((A ++ (B ++ K)).take (A.length + 7)).length = A.length + 7 := by simp; omega
  subst h1
  refine ⟨by simp; omega, ?_⟩
  have f1 : (((A ++ (B ++ K)).take (A.length + 7) ++ B) ++ K.drop 7).take A.length = A := by
    rw [List.append_assoc, List.take_append_of_le_length (by omega), List.take_take, Nat.min_eq_left (by omega), List.take_left]
  have f2 : (((A ++ (B ++ K)).take (A.length + 7) ++ B) ++ K.drop 7).drop (A.length + 7) = B ++ K.drop 7 := by
    rw [List.append_assoc]; exact List.drop_left' hT
  rw [f1, f2]
  simp
theorem grow_eq {A B Z M1 X : List AV} {o m : Nat} (hA : A.length = o) (hB : B.length = m) (hX : X.length = 7) (hZ : Z.length = m + 7)
    (h1 : (A ++ Z).take o ++ X ++ (A ++ Z).drop (o + 7) = M1) : M1.length = o + (m + 7) ∧ M1.take (o + 7) ++ B ++ M1.drop (o + 7 + m) = A ++ (X ++ B) := by
  subst hA hB
  have e1 : (A ++ Z).take A.length = A := List.take_left
  have e2 : (A ++ Z).drop (A.length + 7) = Z.drop 7 := by rw [← List.drop_drop, List.drop_left]
  rw [e1, e2] at h1
  subst h1
  have hT : (A ++ X).length = A.length + 7 := by simp; omega
  refine ⟨by simp; omega, ?_⟩
  have f1 : ((A ++ X) ++ Z.drop 7).take (A.length + 7) = A ++ X := by rw [← hT, List.take_left]
  have f2 : ((A ++ X) ++ Z.drop 7).drop (A.length + 7 + B.length) = [] := List.drop_eq_nil_of_le (by simp; omega)
  rw [f1, f2]
  simp
end
def insAt (l : List Fld) (i : Nat) (x : Fld) : List Fld := l.take i ++ x :: l.drop i
theorem insAt_row (l : List Fld) (i : Nat) (x : Fld) : (rowP (insAt l i x)).map AV.pv = rowF (l.take i) ++ (cellF x ++ rowF (l.drop i)) := by
  rw [← rowF_map, insAt, rowF_app, rowF_cons]
theorem insAt_end (l : List Fld) (x : Fld) : (rowP l).map AV.pv ++ (rowP [x]).map AV.pv = (rowP (insAt l l.length x)).map AV.pv := by
  rw [← rowF_map, ← rowF_map, insAt_row, List.take_length, List.drop_length]
  simp [rowF]
theorem flat_row (x : Fld) : flat [x.pv] = (rowP [x]).map AV.pv := by
  simp [flat, rowP]
theorem row_one (x : Fld) : (rowP [x]).map AV.pv = cellF x := by
  rw [← rowF_map]; simp [rowF]
end Go.Proofs.YtikmckfppnmlnaaDoor
