/- A part of the proof for FitReducesSameCardSaid. -/
import Derived.Test.YtikmckfppnmlnaaDoorSamYRj
set_option maxRecDepth 100000
set_option linter.unusedVariables false
set_option linter.unusedSimpArgs false
namespace Go.Proofs.YtikmckfppnmlnaaDoor
open Go Go.Ab
theorem bl_total : ∀ a b : List UInt8, bytesLt a b = false → bytesLt b a = false → a = b
  | [], [], _, _ => rfl
  | [], _ :: _, h, _ => by cases h
  | _ :: _, [], _, h => by cases h
  | a :: r, b :: q, h1, h2 => by
    have ih : Op.bytesLess r q = false → Op.bytesLess q r = false → r = q := bl_total r q
    have k1 : Op.bytesLess (a :: r) (b :: q) = false := h1
    have k2 : Op.bytesLess (b :: q) (a :: r) = false := h2
    rw [Op.bytesLess] at k1 k2
    simp only [Bool.or_eq_false_iff, Bool.and_eq_false_iff, decide_eq_false_iff_not, beq_eq_false_iff_ne, UInt8.lt_iff_toNat_lt] at k1 k2
    have hab : a = b := UInt8.toNat_inj.1 (by omega)
    subst hab
    simp only [ne_eq, not_true_eq_false, false_or] at k1 k2
    rw [ih k1.2 k2.2]
theorem cmp_lt : ∀ a b : List UInt8, decide (Lib.compareBytes a b < 0) = bytesLt a b
  | [], [] => rfl
  | [], _ :: _ => rfl
  | _ :: _, [] => rfl
  | a :: r, b :: q => by
    have ih : decide (Lib.compareBytes r q < 0) = Op.bytesLess r q := cmp_lt r q
    show _ = Op.bytesLess (a :: r) (b :: q)
    rw [Lib.compareBytes, Op.bytesLess]
    by_cases h1 : a < b
    · simp [h1]
    · by_cases h2 : b < a
      · have : ¬ a = b := by rintro rfl; exact (UInt8.lt_irrefl a) h2
        simp [h1, h2, this]
      · have h3 : a = b := UInt8.le_antisymm (UInt8.not_lt.1 h2) (UInt8.not_lt.1 h1)
        simp [h1, h2, h3, ih]
def Srt (l : List Fld) : Prop := l.Pairwise fun x y => bytesLt x.name y.name = true
theorem srt_get {l : List Fld} (h : Srt l) {i j : Nat} {x y : Fld} (hx : l[i]? = some x) (hy : l[j]? = some y) (hij : i < j) : bytesLt x.name y.name = true := by
  obtain ⟨h1, rfl⟩ := List.getElem?_eq_some_iff.1 hx
  obtain ⟨h2, rfl⟩ := List.getElem?_eq_some_iff.1 hy
  exact List.pairwise_iff_getElem.1 h i j h1 h2 hij
theorem up_srt {f : List Fld} (h : upB f = true) : Srt f := by
  refine List.pairwise_iff_getElem.2 fun i j hi hj hij => ?_
  exact up_lt h (j - i - 1) i f[i] f[j] (List.getElem?_eq_getElem hi) (by rw [show i + (j - i - 1) + 1 = j by omega]; exact List.getElem?_eq_getElem hj)
theorem srt_map {g : Fld → Fld} (hg : ∀ x, (g x).name = x.name) {l : List Fld} (h : Srt l) : Srt (l.map g) := by
  refine List.pairwise_map.2 (h.imp fun {x y} hxy => ?_)
  rw [hg, hg]; exact hxy
def ltN (s : List UInt8) (x : Fld) : Bool := bytesLt x.name s
def posF (l : List Fld) (s : List UInt8) : Nat := (l.takeWhile (ltN s)).length
def hasF (l : List Fld) (s : List UInt8) : Bool := l.any (namedF s)
def insF (l : List Fld) (x : Fld) : List Fld := l.takeWhile (ltN x.name) ++ x :: l.dropWhile (ltN x.name)
theorem tw_take {α : Type} (p : α → Bool) : ∀ l : List α, l.take (l.takeWhile p).length = l.takeWhile p ∧ l.drop (l.takeWhile p).length = l.dropWhile p
  | [] => ⟨rfl, rfl⟩
  | a :: r => by
    obtain ⟨h1, h2⟩ := tw_take p r
    cases h : p a with
    | true => simp only [List.takeWhile_cons, List.dropWhile_cons, h, if_true, List.length_cons, List.take_succ_cons, List.drop_succ_cons, h1, h2, and_self]
    | false => simp [List.takeWhile_cons, List.dropWhile_cons, h]
theorem insF_pos (l : List Fld) (x : Fld) : insF l x = l.take (posF l x.name) ++ x :: l.drop (posF l x.name) := by
  obtain ⟨h1, h2⟩ := tw_take (ltN x.name) l
  unfold insF posF; rw [h1, h2]
theorem posF_le (l : List Fld) (s : List UInt8) : posF l s ≤ l.length := by
  have := congrArg List.length (List.takeWhile_append_dropWhile (p := ltN s) (l := l))
  rw [List.length_append] at this
  unfold posF; omega
theorem posF_eq (s : List UInt8) : ∀ (l : List Fld) (i : Nat), i ≤ l.length → (∀ k x, k < i → l[k]? = some x → ltN s x = true) → (∀ k x, i ≤ k → l[k]? = some x → ltN s x = false) → posF l s = i
  | [], i, hi, _, _ => by simp at hi; subst hi; rfl
  | a :: r, 0, _, _, h2 => by
    have := h2 0 a (Nat.le_refl _) rfl
    simp [posF, List.takeWhile_cons, this]
  | a :: r, i + 1, hi, h1, h2 => by
    have h0 := h1 0 a (by omega) rfl
    have ih := posF_eq s r i (by simpa using hi) (fun k x hk hx => h1 (k + 1) x (by omega) hx) (fun k x hk hx => h2 (k + 1) x (by omega) hx)
    simp only [posF, List.takeWhile_cons, h0, if_true, List.length_cons]
    simp only [posF] at ih
    rw [ih]
theorem mem_insF {l : List Fld} {x y : Fld} : y ∈ insF l x ↔ y = x ∨ y ∈ l := by
  have h := List.takeWhile_append_dropWhile (p := ltN x.name) (l := l)
  constructor
  · intro hy
    simp only [insF, List.mem_append, List.mem_cons] at hy
    rcases hy with hy | hy | hy
    · right; rw [← h]; exact List.mem_append_left _ hy
    · exact .inl hy
    · right; rw [← h]; exact List.mem_append_right _ hy
  · intro hy
    simp only [insF, List.mem_append, List.mem_cons]
    rcases hy with hy | hy
    · exact .inr (.inl hy)
    · rw [← h] at hy
      rcases List.mem_append.1 hy with hy | hy
      · exact .inl hy
      · exact .inr (.inr hy)
theorem hasF_iff {l : List Fld} {s : List UInt8} : hasF l s = true ↔ ∃ x ∈ l, x.name = s := by
  simp [hasF, List.any_eq_true, namedF]
theorem dw_head {α : Type} (p : α → Bool) : ∀ (l : List α) (a : α) (r : List α), l.dropWhile p = a :: r → p a = false
  | [], a, r, h => by simp at h
  | x :: q, a, r, h => by
    rw [List.dropWhile_cons] at h
    cases hx : p x with
    | true => rw [if_pos hx] at h; exact dw_head p q a r h
    | false => rw [hx] at h; simp at h; rw [← h.1]; exact hx
theorem tw_all {α : Type} (p : α → Bool) : ∀ (l : List α) (a : α), a ∈ l.takeWhile p → p a = true
  | [], a, h => by simp at h
  | x :: q, a, h => by
    rw [List.takeWhile_cons] at h
    cases hx : p x with
    | true =>
      rw [if_pos hx] at h
      rcases List.mem_cons.1 h with rfl | h
      · exact hx
      · exact tw_all p q a h
    | false => rw [hx] at h; simp at h
theorem srt_insF {l : List Fld} {x : Fld} (h : Srt l) (hn : hasF l x.name = false) : Srt (insF l x) := by
  have hl := List.takeWhile_append_dropWhile (p := ltN x.name) (l := l)
  have h' : Srt (l.takeWhile (ltN x.name) ++ l.dropWhile (ltN x.name)) := by rw [hl]; exact h
  obtain ⟨h1, h2, h3⟩ := List.pairwise_append.1 h'
  have hlt : ∀ b ∈ l.dropWhile (ltN x.name), bytesLt x.name b.name = true := by
    intro b hb
    cases hd : l.dropWhile (ltN x.name) with
    | nil => rw [hd] at hb; cases hb
    | cons a r =>
      have ha := dw_head _ _ _ _ hd
      have ham : a ∈ l := by rw [← hl, hd]; simp
      have hax : ¬ a.name = x.name := fun e => by
        have := hasF_iff.2 ⟨a, ham, e⟩
        rw [hn] at this; cases this
      have hxa : bytesLt x.name a.name = true := by
        cases hc : bytesLt x.name a.name with
        | true => rfl
        | false => exact absurd (bl_total _ _ ha hc) hax
      rw [hd] at hb h2
      rcases List.mem_cons.1 hb with rfl | hb
      · exact hxa
      · exact bl_trans _ _ _ hxa (List.rel_of_pairwise_cons h2 hb)
  refine List.pairwise_append.2 ⟨h1, List.pairwise_cons.2 ⟨hlt, h2⟩, fun a ha b hb => ?_⟩
  have hax : bytesLt a.name x.name = true := tw_all (ltN x.name) l a ha
  rcases List.mem_cons.1 hb with rfl | hb
  · exact hax
  · exact h3 a ha b hb
def dfl (f : TFd) : Option Val :=
  if f.need = 3 then (match f.dflt with | [d] => some d | _ => none) else none
def insD (l : List Fld) (f : TFd) : List Fld :=
  match dfl f with
  | some d => if hasF l f.name then l else insF l (.mk f.name d)
  | none => l
def insA (l : List Fld) (fs : List TFd) : List Fld := fs.foldl insD l
def com1 (R : Typ → Val → Val) (t : Typ) (v : Val) : Val :=
  if ¬ v.kind = t.kind ∨ formedV v = false then v
  else if v.kind = 8 then .mk v.kind v.num v.scale v.text (v.lst.map (redE R t.elem)) v.fields
  else if v.kind = 10 then .mk v.kind v.num v.scale v.text (redC R t v) v.fields
  else if v.kind = 9 then .mk v.kind v.num v.scale v.text v.lst (insA (v.fields.map (redF R t.fields)) t.fields)
  else v
def comN : Nat → Typ → Val → Val
  | 0 => fun _ v => v
  | n + 1 => com1 (comN n)
theorem comN_succ (n : Nat) (t : Typ) (v : Val) : comN (n + 1) t v = com1 (comN n) t v := rfl
section
variable {R : Typ → Val → Val} {t : Typ} {v : Val}
theorem com1_bad (h : ¬ v.kind = t.kind ∨ formedV v = false) : com1 R t v = v := if_pos h
theorem com1_list (hg : ¬ (¬ v.kind = t.kind ∨ formedV v = false)) (h : v.kind = 8) : com1 R t v = .mk v.kind v.num v.scale v.text (v.lst.map (redE R t.elem)) v.fields := by
  unfold com1; rw [if_neg hg, if_pos h]
theorem com1_var (hg : ¬ (¬ v.kind = t.kind ∨ formedV v = false)) (h : v.kind = 10) : com1 R t v = .mk v.kind v.num v.scale v.text (redC R t v) v.fields := by
  unfold com1; rw [if_neg hg, if_neg (by omega), if_pos h]
theorem com1_rec (hg : ¬ (¬ v.kind = t.kind ∨ formedV v = false)) (h : v.kind = 9) : com1 R t v = .mk v.kind v.num v.scale v.text v.lst (insA (v.fields.map (redF R t.fields)) t.fields) := by
  unfold com1; rw [if_neg hg, if_neg (by omega), if_neg (by omega), if_pos h]
theorem com1_else (h8 : ¬ v.kind = 8) (h10 : ¬ v.kind = 10) (h9 : ¬ v.kind = 9) : com1 R t v = v := by
  unfold com1
  rw [if_neg h8, if_neg h10, if_neg h9]
  split <;> rfl
end
theorem redF_name (R : Typ → Val → Val) (fs : List TFd) (x : Fld) : (redF R fs x).name = x.name := by
  unfold redF; split <;> rfl
theorem insD_none {l : List Fld} {f : TFd} (h : dfl f = none) : insD l f = l := by unfold insD; rw [h]
theorem insD_has {l : List Fld} {f : TFd} (h : hasF l f.name = true) : insD l f = l := by
  unfold insD; split
  · rw [if_pos h]
  · rfl
theorem insD_ins {l : List Fld} {f : TFd} {d : Val} (h : dfl f = some d) (hn : hasF l f.name = false) : insD l f = insF l (.mk f.name d) := by
  unfold insD; rw [h]; simp [hn]
theorem srt_insD {l : List Fld} {f : TFd} (h : Srt l) : Srt (insD l f) := by
  cases hd : dfl f with
  | none => rw [insD_none hd]; exact h
  | some d =>
    cases hh : hasF l f.name with
    | true => rw [insD_has hh]; exact h
    | false => rw [insD_ins hd hh]; exact srt_insF h hh
theorem srt_insA : ∀ (fs : List TFd) (l : List Fld), Srt l → Srt (insA l fs)
  | [], l, h => h
  | f :: r, l, h => srt_insA r _ (srt_insD h)
theorem insA_snoc (l : List Fld) (fs : List TFd) (f : TFd) : insA l (fs ++ [f]) = insD (insA l fs) f := by
  simp [insA]
theorem insF_len (l : List Fld) (x : Fld) : (insF l x).length = l.length + 1 := by
  have h := congrArg List.length (List.takeWhile_append_dropWhile (p := ltN x.name) (l := l))
  rw [List.length_append] at h
  simp only [insF, List.length_append, List.length_cons]; omega
theorem insD_len (l : List Fld) (f : TFd) : (insD l f).length ≤ l.length + 1 := by
  unfold insD; split
  · split
    · omega
    · rw [insF_len]; omega
  · omega
theorem insA_len : ∀ (fs : List TFd) (l : List Fld), (insA l fs).length ≤ l.length + fs.length
  | [], l => by simp [insA]
  | f :: r, l => by
    have h1 := insA_len r (insD l f)
    have h2 := insD_len l f
    have e : insA l (f :: r) = insA (insD l f) r := rfl
    rw [e, List.length_cons]; omega
theorem insA_mem {x : Fld} : ∀ (fs : List TFd) (l : List Fld), x ∈ insA l fs → x ∈ l ∨ ∃ f ∈ fs, ∃ d, dfl f = some d ∧ x = .mk f.name d
  | [], l, h => .inl h
  | f :: r, l, h => by
    rcases insA_mem r (insD l f) h with h | ⟨g, h1, h2⟩
    · cases hd : dfl f with
      | none => rw [insD_none hd] at h; exact .inl h
      | some d =>
        cases hh : hasF l f.name with
        | true => rw [insD_has hh] at h; exact .inl h
        | false =>
          rw [insD_ins hd hh] at h
          rcases mem_insF.1 h with h | h
          · exact .inr ⟨f, by simp, d, hd, h⟩
          · exact .inl h
    · exact .inr ⟨g, List.mem_cons_of_mem _ h1, h2⟩
theorem dfl_mem {f : TFd} {d : Val} (h : dfl f = some d) : f.need = 3 ∧ f.dflt = [d] := by
  unfold dfl at h
  split at h
  · rename_i hn
    split at h
    · cases h; exact ⟨hn, ‹_›⟩
    · cases h
  · cases h
end Go.Proofs.YtikmckfppnmlnaaDoor
