/- A program logic over the model: part 3 (a proof is built on it; nothing of the statement is said here). -/
import Derived.Orders
import Derived.Test.YtikmckfppnmlnaaDoorCore2
import Derived.Test.YtikmckfppnmlnaaDoorCore1
set_option linter.unusedVariables false
set_option linter.unusedSimpArgs false
namespace Go.Ab
open Go Go.RowKit
def AOp.slots : AOp → List Nat
  | .t o => o.slots
  | .m o => o.slots
  | .call f xs => f.slots ++ xs.flatMap AX.slots
  | .fz _ x => x.slots
def AOper.slots (o : AOper) : List Nat :=
  (match o.guard with
   | some (i, _) => [i]
   | none => []) ++ o.op.slots
def depsOf (o : Oper) : List Nat := (o.after.toList.filter (Region.binds .any)).map (·.on)
def dedN : List Nat → List Nat
  | [] => []
  | x :: r => if (dedN r).contains x = true then dedN r else x :: dedN r
theorem mem_dedN {x : Nat} : ∀ {l : List Nat}, x ∈ dedN l ↔ x ∈ l
  | [] => by simp [dedN]
  | y :: r => by
    simp only [dedN]
    split
    · rename_i h
      rw [mem_dedN, List.mem_cons]
      refine ⟨.inr, fun h' => h'.elim (fun e => ?_) id⟩
      subst e
      exact mem_dedN.1 (by simpa using h)
    · rw [List.mem_cons, List.mem_cons, mem_dedN]
def ancTab : List (List Nat) → List (List Nat) → List (List Nat)
  | [], acc => acc
  | d :: r, acc => ancTab r (acc ++ [dedN (d ++ d.flatMap fun j => acc.getD j [])])
def ordB (A : List (List Nat)) (i j : Nat) : Bool :=
  if i < j then (A.getD j []).contains i else (A.getD i []).contains j
def meets (a b : List Nat) : Bool := a.any fun x => b.contains x
def okB (A : List (List Nat)) (l : List (List Nat × List Nat)) : Bool :=
  (l.zipIdx).all fun p => (l.zipIdx).all fun q => p.2 == q.2 || !(meets p.1.1 (q.1.2 ++ q.1.1)) || ordB A p.2 q.2
def slotPairs (ops : List AOper) : List (List Nat × List Nat) := ops.map fun o => (o.dst.toList, o.slots)
def drawOk (ops : List Oper) (aops : List AOper) (k : Nat) : Bool :=
  let ds := ops.map depsOf
  okB (ancTab ds []) (slotPairs (aops.take k)) && ((ds.zipIdx).all fun p => p.1.all fun j => decide (j < p.2)) &&
    (List.range ops.length).all fun i => decide (i < k) || (List.range i).all fun j => ((ancTab ds []).getD i []).contains j
def headN (A : List (List Nat)) : Nat → Nat
  | 0 => 0
  | n + 1 => if (List.range n).all (fun j => (A.getD n []).contains j) = true then headN A n else n + 1
def waitsL (md : Region.Mode) (ops : Array Oper) : List (List Nat) := ops.toList.map fun o => (o.after.toList.filter (Region.binds md)).map (·.on)
def posN (x : Nat) : List Nat → Nat
  | [] => 0
  | y :: r => if y = x then 0 else posN x r + 1
def passN : List (Nat × List Nat) → List Nat → List (Nat × List Nat) × List Nat
  | [], d => ([], d)
  | p :: r, d => if p.2.all (fun j => d.contains j) = true then passN r (d ++ [p.1]) else ((p :: (passN r d).1), (passN r d).2)
def topoN : Nat → List (Nat × List Nat) → List Nat → List Nat
  | 0, _, d => d
  | n + 1, ps, d => match passN ps d with
    | ([], d') => d'
    | (q, d') => topoN n q d'
def ranked (md : Region.Mode) (ops : Array Oper) : Bool :=
  let ps := (waitsL md ops).zipIdx.map fun p => (p.2, p.1)
  let L := topoN ps.length ps []
  ps.all fun p => p.2.all fun j => decide (j < ps.length) && decide (posN j L < posN p.1 L)
def modesOk (ops : Array Oper) : Bool := !(Region.departs ops) || (ranked .text ops && ranked .gc ops)
def callD (P : Program) (G : Nat → List PV) (args : List AV) (K : PV → Prop) (p : Nat × List AV × List AV) : Prop :=
  ∃ ps r, pvs (p.2.1 ++ args ++ p.2.2) = some ps ∧ Pure P G p.1 ps r ∧ K r
def rowT (mk : Nat) (ks rs : List Nat) : List Nat × List Nat := ((if mk = 2 then [0] else []) ++ ks.map (· + 1), (if mk = 1 then [0] else []) ++ rs.map (· + 1))
def makesN (o : MOp) : Nat := if o.makes = true then 1 else 0
def callDL (P : Program) (G : Nat → List PV) (F : List (List Nat × List Nat) → St → Prop) (T : List (List Nat × List Nat)) (s : St) (d : Option Nat) (args : List AV) (p : Nat × List AV × List AV) : Prop :=
  callD P G args (fun r => F (T ++ [([], [])]) (s.put d (.pv r))) p ∨
  ∃ v δ top, TCalls P G p.1 (p.2.1 ++ args ++ p.2.2) s.sto s.next (fun v' sto' n' => v' = v ∧ sto' = updB s.sto δ ∧ n' = top) ∧ s.next ≤ top ∧ F (T ++ [rowT 2 (keysL δ) (s.sto.map (·.1))]) ((⟨s.env, updB s.sto δ, top⟩ : St).put d v)
def stepT (F : List (List Nat × List Nat) → St → Prop) (T : List (List Nat × List Nat)) (s : St) (d : Option Nat) (v : AV) : Prop := F (T ++ [([], [])]) (s.put d v)
def stepM (F : List (List Nat × List Nat) → St → Prop) (T : List (List Nat × List Nat)) (s : St) (d : Option Nat) (mk : Nat) (rd : List Nat) (p : AV × List (Nat × Blk)) : Prop := F (T ++ [rowT mk (keysL p.2) rd]) ((s.mem p.2).put d p.1)
def doOpD (P : Program) (G : Nat → List PV) (F : List (List Nat × List Nat) → St → Prop) (T : List (List Nat × List Nat)) (s : St) (d : Option Nat) : AOp → Prop
  | .t o => onSome (o.run s.E) (stepT F T s d)
  | .m o => onSome (o.run G s.next s.E s.σ) (stepM F T s d (makesN o) (o.reads s.E))
  | .call f xs => onSome (cloOf (f.ev s.E)) (callDL P G F T s d (xs.map (·.ev s.E)))
  | .fz _ _ => False
def doIfD (P : Program) (G : Nat → List PV) (F : List (List Nat × List Nat) → St → Prop) (T : List (List Nat × List Nat)) (s : St) (d : Option Nat) (o : AOp) (b : Bool) : Prop :=
  match b with
  | true => doOpD P G F T s d o
  | false => F (T ++ [([], [])]) (s.put d (.pv .undef))
def vcD (P : Program) (G : Nat → List PV) (A : List (List Nat)) (F : St → Prop) : List AOper → List (List Nat × List Nat) → St → Prop
  | [], T, s => okB A T = true ∧ F s
  | o :: r, T, s => onSome (wantedA s o.guard) (doIfD P G (vcD P G A F r) T s o.dst o.op)
structure Ent where
  dst : Option Nat
  v : AV
  δ : List (Nat × Blk)
  reads : List Nat
  isM : Bool
  new : Nat
  top : Nat
  kd : Nat
def Ent.env (e : Ent) : List (Nat × AV) :=
  match e.dst with
  | some d => [(d, e.v)]
  | none => []
def StepE (P : Program) (G : Nat → List PV) (E : Nat → AV) (σ : Store) (wt : Option Bool) (op : AOp) (e : Ent) : Prop :=
  (wt = some false ∧ e.v = .pv .undef ∧ e.δ = [] ∧ e.reads = [] ∧ e.isM = false ∧ e.kd = 0) ∨
  (wt = some true ∧ match op with
    | .t o => o.run E = some e.v ∧ e.δ = [] ∧ e.reads = [] ∧ e.isM = false ∧ e.kd = 0
    | .m o => o.run G e.new E σ = some (e.v, e.δ) ∧ e.reads = o.reads E ∧ e.isM = true ∧ e.top = e.new + 1 ∧ e.kd = makesN o
    | .call f xs => ∃ p, cloOf (f.ev E) = some p ∧
        ((∃ ps r, pvs (p.2.1 ++ xs.map (·.ev E) ++ p.2.2) = some ps ∧ Pure P G p.1 ps r ∧ e.v = .pv r ∧ e.δ = [] ∧ e.reads = [] ∧ e.isM = false ∧ e.kd = 0) ∨
         (∃ sto, (fun r => lookB r sto) = σ ∧ TCalls P G p.1 (p.2.1 ++ xs.map (·.ev E) ++ p.2.2) sto e.new (fun v' sto' n' => v' = e.v ∧ (fun r => lookB r sto') = σ.upd e.δ ∧ n' = e.top) ∧ e.new ≤ e.top ∧ e.isM = true ∧ e.kd = 2 ∧ ∀ r, σ r ≠ .none → r ∈ e.reads))
    | .fz _ _ => False)
def nextSt (s : St) (e : Ent) : St := if e.isM = true then (⟨s.env, updB s.sto e.δ, e.top⟩ : St).put e.dst e.v else s.put e.dst e.v
def Tr (P : Program) (G : Nat → List PV) : List AOper → St → List Ent → St → Prop
  | [], s, [], s' => s' = s
  | o :: r, s, e :: T, s' => e.dst = o.dst ∧ e.new = s.next ∧ StepE P G s.E s.σ (wantedA s o.guard) o.op e ∧ Tr P G r (nextSt s e) T s'
  | _, _, _, _ => False
theorem lookB_mem {r : Nat} : ∀ {l : List (Nat × Blk)}, lookB r l ≠ .none → r ∈ l.map (·.1)
  | [], h => by simp [lookB] at h
  | p :: q, h => by
    simp only [lookB] at h
    by_cases hp : p.1 = r
    · simp [hp]
    · rw [if_neg hp] at h
      have := lookB_mem h
      simp only [List.map_cons, List.mem_cons]; exact .inr this
theorem vcD_tr {P : Program} {G : Nat → List PV} {A : List (List Nat)} {F : St → Prop} : ∀ (ops : List AOper) (T0 : List (List Nat × List Nat)) (s : St), vcD P G A F ops T0 s →
    ∃ T s', Tr P G ops s T s' ∧ okB A (T0 ++ T.map fun e => rowT e.kd (keysL e.δ) e.reads) = true ∧ F s'
  | [], T0, s, h => ⟨[], s, rfl, by simpa using h.1, h.2⟩
  | o :: r, T0, s, h => by
    simp only [vcD, onSome] at h
    split at h
    · rename_i b hb
      cases b with
      | false =>
        simp only [doIfD] at h
        obtain ⟨T, s', h1, h2, h3⟩ := vcD_tr r _ _ h
        exact ⟨⟨o.dst, .pv .undef, [], [], false, s.next, s.next, 0⟩ :: T, s', ⟨rfl, rfl, .inl ⟨hb, rfl, rfl, rfl, rfl, rfl⟩, h1⟩, by simpa [keysL, rowT] using h2, h3⟩
      | true =>
        simp only [doIfD] at h
        cases hop : o.op with
        | t op =>
          rw [hop] at h
          simp only [doOpD, onSome] at h
          split at h
          · rename_i v hv
            obtain ⟨T, s', h1, h2, h3⟩ := vcD_tr r _ _ h
            exact ⟨⟨o.dst, v, [], [], false, s.next, s.next, 0⟩ :: T, s', ⟨rfl, rfl, .inr ⟨hb, by rw [hop]; exact ⟨hv, rfl, rfl, rfl, rfl⟩⟩, h1⟩, by simpa [keysL, rowT] using h2, h3⟩
          · exact h.elim
        | m op =>
          rw [hop] at h
          simp only [doOpD, onSome] at h
          split at h
          · rename_i p hp
            obtain ⟨T, s', h1, h2, h3⟩ := vcD_tr r _ _ h
            exact ⟨⟨o.dst, p.1, p.2, op.reads s.E, true, s.next, s.next + 1, makesN op⟩ :: T, s', ⟨rfl, rfl, .inr ⟨hb, by rw [hop]; exact ⟨hp, rfl, rfl, rfl, rfl⟩⟩, h1⟩, by simpa using h2, h3⟩
          · exact h.elim
        | call f xs =>
          rw [hop] at h
          simp only [doOpD, onSome] at h
          split at h
          · rename_i p hp
            rcases h with ⟨ps, q, hps, hP, hk⟩ | ⟨v, δ, top, hT, htop, hk⟩
            · obtain ⟨T, s', h1, h2, h3⟩ := vcD_tr r _ _ hk
              exact ⟨⟨o.dst, .pv q, [], [], false, s.next, s.next, 0⟩ :: T, s', ⟨rfl, rfl, .inr ⟨hb, by rw [hop]; exact ⟨p, hp, .inl ⟨ps, q, hps, hP, rfl, rfl, rfl, rfl, rfl⟩⟩⟩, h1⟩, by simpa [keysL, rowT] using h2, h3⟩
            · obtain ⟨T, s', h1, h2, h3⟩ := vcD_tr r _ _ hk
              refine ⟨⟨o.dst, v, δ, s.sto.map (·.1), true, s.next, top, 2⟩ :: T, s', ⟨rfl, rfl, .inr ⟨hb, by
                rw [hop]
                refine ⟨p, hp, .inr ⟨s.sto, rfl, ?_, htop, rfl, rfl, fun r hr => lookB_mem hr⟩⟩
                obtain ⟨t1, t2⟩ := hT
                refine ⟨t1, fun κ vals a1 a2 a3 a4 => (t2 κ vals a1 a2 a3 a4).mono ?_⟩
                rintro e w' ⟨u, v', κ', sto', next', b1, b2, b3, b4, b5, b6, b7, rfl, rfl, rfl⟩
                exact ⟨u, _, κ', _, _, b1, b2, b3, b4, b5, b6, b7, rfl, by funext r; exact lookB_upd δ s.sto r, rfl⟩⟩, h1⟩, by simpa using h2, h3⟩
          · exact h.elim
        | fz g x =>
          rw [hop] at h
          exact h.elim
    · exact h.elim
theorem put_E (s : St) (d : Option Nat) (v : AV) : (s.put d v).E = appL s.E (match d with | some d => [(d, v)] | none => []) := by
  cases d with
  | none => rfl
  | some d =>
    funext i
    simp only [St.put, St.E, look, appL]
    by_cases h : i = d
    · simp [h]
    · rw [if_neg (fun e => h e.symm), if_neg h]
theorem upd_appL (σ : Store) (δ : List (Nat × Blk)) : Store.upd σ δ = appL σ δ := by
  induction δ generalizing σ with
  | nil => rfl
  | cons p q ih => rw [Store.upd, appL, ih]; rfl
theorem nextSt_E (s : St) (e : Ent) : (nextSt s e).E = appL s.E e.env := by
  unfold nextSt Ent.env
  split
  · rw [put_E]; rfl
  · rw [put_E]
theorem nextSt_σ0 (s : St) (δ : List (Nat × Blk)) (n : Nat) : (⟨s.env, updB s.sto δ, n⟩ : St).σ = Store.upd s.σ δ := by
  funext r; exact lookB_upd δ s.sto r
theorem nextSt_σ (s : St) (e : Ent) (h : e.isM = false → e.δ = []) : (nextSt s e).σ = appL s.σ e.δ := by
  have hp : ∀ (s : St) (d : Option Nat) (v : AV), (s.put d v).σ = s.σ := by intro s d v; cases d <;> rfl
  unfold nextSt
  split
  · rw [hp]
    rw [nextSt_σ0, upd_appL]
  · rename_i hm
    rw [hp, h (by simpa using hm)]; rfl
theorem StepE.noM {P : Program} {G : Nat → List PV} {E : Nat → AV} {σ : Store} {wt : Option Bool} {op : AOp} {e : Ent} (h : StepE P G E σ wt op e) : e.isM = false → e.δ = [] := by
  intro hm
  rcases h with ⟨_, _, h, _⟩ | ⟨_, h⟩
  · exact h
  · cases op with
    | t o => exact h.2.1
    | m o => rw [h.2.2.1] at hm; cases hm
    | call f xs =>
      obtain ⟨p, _, ⟨ps, r, _, _, _, h, _⟩ | ⟨sto, _, _, _, h, _⟩⟩ := h
      · exact h
      · rw [hm] at h; cases h
    | fz g x => exact h.elim
theorem StepE.tops {P : Program} {G : Nat → List PV} {E : Nat → AV} {σ : Store} {wt : Option Bool} {op : AOp} {e : Ent} (h : StepE P G E σ wt op e) : (e.isM = true → e.new ≤ e.top) ∧ (e.kd ≠ 0 → e.isM = true) ∧ (e.kd = 1 → e.top = e.new + 1) := by
  rcases h with ⟨_, _, _, _, h1, h2⟩ | ⟨_, h⟩
  · exact ⟨fun h => (by rw [h1] at h; cases h), fun h => absurd h2 h, fun h => (by rw [h2] at h; cases h)⟩
  · cases op with
    | t o =>
      obtain ⟨_, _, _, h1, h2⟩ := h
      exact ⟨fun h => (by rw [h1] at h; cases h), fun h => absurd h2 h, fun h => (by rw [h2] at h; cases h)⟩
    | m o =>
      obtain ⟨_, _, h1, h2, _⟩ := h
      exact ⟨fun _ => by omega, fun _ => h1, fun _ => h2⟩
    | call f xs =>
      obtain ⟨p, _, ⟨ps, r, _, _, _, _, _, h1, h2⟩ | ⟨sto, _, _, h0, h1, h2, _⟩⟩ := h
      · exact ⟨fun h => (by rw [h1] at h; cases h), fun h => absurd h2 h, fun h => (by rw [h2] at h; cases h)⟩
      · exact ⟨fun _ => h0, fun _ => h1, fun h => (by rw [h2] at h; cases h)⟩
    | fz g x => exact h.elim
theorem Tr_at {P : Program} {G : Nat → List PV} : ∀ (ops : List AOper) (s : St) (T : List Ent) (s' : St), Tr P G ops s T s' →
    ops.length = T.length ∧ s'.E = accS (fun _ => true) (T.map Ent.env) 0 s.E ∧ s'.σ = accS (fun _ => true) (T.map (·.δ)) 0 s.σ ∧ s.next ≤ s'.next ∧
    (∀ (i : Nat) (e : Ent), T[i]? = some e → e.isM = true → s.next ≤ e.new ∧ e.top ≤ s'.next) ∧
    (∀ (i j : Nat) (e e' : Ent), i < j → T[i]? = some e → T[j]? = some e' → e.isM = true → e'.isM = true → e.top ≤ e'.new) ∧
    ∀ (i : Nat) (e : Ent), T[i]? = some e → ∃ o, ops[i]? = some o ∧ e.dst = o.dst ∧ ∃ si : St, si.E = accS (fun j => decide (j < i)) (T.map Ent.env) 0 s.E ∧ si.σ = accS (fun j => decide (j < i)) (T.map (·.δ)) 0 s.σ ∧
      StepE P G si.E si.σ (wantedA si o.guard) o.op e
  | [], s, [], s', h => by
    have h : s' = s := h
    subst h
    exact ⟨rfl, rfl, rfl, Nat.le_refl _, by simp, by simp, by simp⟩
  | o :: r, s, e :: T, s', h => by
    obtain ⟨hd, hn, hst, hr⟩ := h
    obtain ⟨h1, h2, h3, h4, h5, h6, h7⟩ := Tr_at r (nextSt s e) T s' hr
    have hnx : (nextSt s e).next = if e.isM = true then e.top else s.next := by
      have hp : ∀ (s : St) (d : Option Nat) (v : AV), (s.put d v).next = s.next := by intro s d v; cases d <;> rfl
      unfold nextSt
      split
      · rw [hp]
      · rw [hp]
    have htp := hst.tops.1
    have hle : s.next ≤ (nextSt s e).next := by
      rw [hnx]
      split
      · have := htp ‹_›; omega
      · exact Nat.le_refl _
    have shift : ∀ {β : Type} (S : Nat → Bool) (W : List (List (Nat × β))) (k : Nat) (g : Nat → β), accS (fun j => S (j + 1)) W k g = accS S W (k + 1) g := by
      intro β S W
      induction W with
      | nil => intros; rfl
      | cons a b ih => intro k g; simp only [accS]; exact ih (k + 1) _
    refine ⟨by simp [h1], ?_, ?_, by omega, ?_, ?_, ?_⟩
    · rw [h2, nextSt_E]
      simp only [List.map_cons, accS, if_true]
      rw [← shift]
    · rw [h3, nextSt_σ s e hst.noM]
      simp only [List.map_cons, accS, if_true]
      rw [← shift]
    · intro i e' hi hm
      cases i with
      | zero =>
        simp only [List.getElem?_cons_zero, Option.some.injEq] at hi
        subst hi
        rw [if_pos hm] at hnx
        omega
      | succ i =>
        have := h5 i e' (by simpa using hi) hm
        omega
    · intro i j e1 e2 hij hi hj hm1 hm2
      cases j with
      | zero => omega
      | succ j =>
        cases i with
        | zero =>
          simp only [List.getElem?_cons_zero, Option.some.injEq] at hi
          subst hi
          have := (h5 j e2 (by simpa using hj) hm2).1
          rw [if_pos hm1] at hnx
          omega
        | succ i => exact h6 i j e1 e2 (by omega) (by simpa using hi) (by simpa using hj) hm1 hm2
    · intro i e' hi
      cases i with
      | zero =>
        simp only [List.getElem?_cons_zero, Option.some.injEq] at hi
        subst hi
        have hno : ∀ {β : Type} (W : List (List (Nat × β))) (k : Nat) (g : Nat → β), accS (fun j => decide (j < 0)) W k g = g := by
          intro β W
          induction W with
          | nil => intros; rfl
          | cons a b ih => intro k g; rw [accS]; simpa using ih (k + 1) g
        exact ⟨o, rfl, hd, s, (hno _ _ _).symm, (hno _ _ _).symm, hst⟩
      | succ i =>
        obtain ⟨o', ho', hd', si, k1, k2, k3⟩ := h7 i e' (by simpa using hi)
        refine ⟨o', by simpa using ho', hd', si, ?_, ?_, k3⟩
        · rw [k1, nextSt_E]
          simp only [List.map_cons, accS, Nat.zero_lt_succ, decide_true, if_true]
          rw [← shift]
          simp
        · rw [k2, nextSt_σ s e hst.noM]
          simp only [List.map_cons, accS, Nat.zero_lt_succ, decide_true, if_true]
          rw [← shift]
          simp
  | [], s, e :: T, s', h => h.elim
  | o :: r, s, [], s', h => h.elim
end Go.Ab
set_option linter.unusedVariables false
set_option linter.unusedSimpArgs false
namespace Go.Ab
open Go Go.RowKit
theorem ord_of {A : List (List Nat)} {L : List (List Nat × List Nat)} (h : okB A L = true) {i j x : Nat} {p q : List Nat × List Nat} (hj : L[j]? = some p) (hi : L[i]? = some q) (hne : j ≠ i) (hx : x ∈ p.1) (hy : x ∈ q.2 ∨ x ∈ q.1) : ordB A j i = true := by
  have h1 := (List.all_eq_true.1 h) (p, j) (List.mem_of_getElem? (i := j) (by simp [List.getElem?_zipIdx, hj]))
  have h2 := (List.all_eq_true.1 h1) (q, i) (List.mem_of_getElem? (i := i) (by simp [List.getElem?_zipIdx, hi]))
  simp only [Bool.or_eq_true, beq_iff_eq, Bool.not_eq_true'] at h2
  rcases h2 with (h2 | h2) | h2
  · exact absurd h2 hne
  · exfalso
    have : meets p.1 (q.2 ++ q.1) = true := by
      refine List.any_eq_true.2 ⟨x, hx, ?_⟩
      simp only [List.contains_eq_mem, decide_eq_true_eq, List.mem_append]
      exact hy
    rw [this] at h2; cases h2
  · exact h2
theorem anc_closed {S : Nat → Bool} : ∀ (ds acc : List (List Nat)) (k : Nat), acc.length = k → (∀ i d, ds[i]? = some d → S (k + i) = true → ∀ j ∈ d, S j = true) →
    (∀ i a, acc[i]? = some a → S i = true → ∀ j ∈ a, S j = true) → (∀ i a, acc[i]? = some a → i < k) →
    (∀ i a, (ancTab ds acc)[i]? = some a → S i = true → ∀ j ∈ a, S j = true) ∧
    ∀ i d, ds[i]? = some d → (∀ j ∈ d, S j = true) → ∀ a, (ancTab ds acc)[k + i]? = some a → ∀ j ∈ a, S j = true
  | [], acc, k, hk, _, h2, _ => ⟨h2, by simp⟩
  | d :: r, acc, k, hk, h1, h2, h3 => by
    have hrow : (∀ j ∈ d, S j = true) → ∀ j ∈ dedN (d ++ d.flatMap fun j => acc.getD j []), S j = true := by
      intro hd j hj
      rw [mem_dedN] at hj
      rcases List.mem_append.1 hj with hj | hj
      · exact hd j hj
      · obtain ⟨m, hm, hj⟩ := List.mem_flatMap.1 hj
        cases ha : acc[m]? with
        | none => rw [List.getD_eq_getElem?_getD, ha] at hj; simp at hj
        | some a => rw [List.getD_eq_getElem?_getD, ha] at hj; exact h2 m a ha (hd m hm) j hj
    have hacc : ∀ i a, (acc ++ [dedN (d ++ d.flatMap fun j => acc.getD j [])])[i]? = some a → S i = true → ∀ j ∈ a, S j = true := by
      intro i a ha hS
      by_cases hi : i < k
      · rw [List.getElem?_append_left (by omega)] at ha
        exact h2 i a ha hS
      · rw [List.getElem?_append_right (by omega)] at ha
        have hik : i = k := by
          have := (List.getElem?_eq_some_iff.1 ha).1
          simp at this; omega
        subst hik
        rw [hk] at ha
        simp only [Nat.sub_self, List.getElem?_cons_zero, Option.some.injEq] at ha
        subst ha
        exact hrow (h1 0 d rfl (by simpa using hS))
    obtain ⟨k1, k2⟩ := anc_closed r (acc ++ [dedN (d ++ d.flatMap fun j => acc.getD j [])]) (k + 1) (by simp [hk]) (fun i e he hS => h1 (i + 1) e (by simpa using he) (by rw [show k + (i + 1) = k + 1 + i by omega]; exact hS)) hacc
      (fun i a ha => by have := (List.getElem?_eq_some_iff.1 ha).1; simp at this; omega)
    refine ⟨k1, fun i e he hd a ha => ?_⟩
    have keep : ∀ (ds acc : List (List Nat)) (i : Nat), i < acc.length → (ancTab ds acc)[i]? = acc[i]? := by
      intro ds
      induction ds with
      | nil => intros; rfl
      | cons d r ih =>
        intro acc i hi
        rw [ancTab, ih _ i (by simp; omega), List.getElem?_append_left hi]
    cases i with
    | zero =>
      simp only [List.getElem?_cons_zero, Option.some.injEq] at he
      subst he
      rw [ancTab, Nat.add_zero, keep _ _ _ (by simp; omega), List.getElem?_append_right (by omega), hk] at ha
      simp only [Nat.sub_self, List.getElem?_cons_zero, Option.some.injEq] at ha
      subst ha
      exact hrow hd
    | succ i =>
      rw [ancTab, show k + (i + 1) = k + 1 + i by omega] at ha
      exact k2 i e (by simpa using he) hd a ha
theorem ancTab_len : ∀ (ds acc : List (List Nat)), (ancTab ds acc).length = acc.length + ds.length
  | [], acc => by simp [ancTab]
  | d :: r, acc => by rw [ancTab, ancTab_len]; simp; omega
section
variable {P : Program} {c : Ctx} {κ0 : Kap} {N : Nat}
theorem cOps_at {muts : List Nat} {ops : Array Oper} : ∀ (l : List Oper) (aops : List AOper), cOps P muts N ops l = some aops → l.length = aops.length ∧ ∀ (i : Nat) (o : Oper), l[i]? = some o → ∃ ao, aops[i]? = some ao ∧ cOper P muts N ops o = some ao
  | [], aops, h => by simp [cOps] at h; subst h; simp
  | o :: r, aops, h => by
    simp only [cOps] at h
    split at h
    · rename_i a b ha hb
      cases h
      obtain ⟨h1, h2⟩ := cOps_at r b hb
      refine ⟨by simp [h1], fun i o' hi => ?_⟩
      cases i with
      | zero => simp only [List.getElem?_cons_zero, Option.some.injEq] at hi; subst hi; exact ⟨a, rfl, ha⟩
      | succ i => exact h2 i o' (by simpa using hi)
    · cases h
structure Mid (c : Ctx) (κ0 : Kap) (N : Nat) (s : St) (T : List Ent) (S : Nat → Bool) (a : Act) (w : World) (κ : Kap) : Prop where
  w_eq : κ.w = w
  ext0 : Ext κ0 κ
  rel : SRel c κ (accS S (T.map (·.δ)) 0 s.σ)
  left : Left c κ0.imm κ
  env : ∀ x, ARel κ (accS S (T.map Ent.env) 0 s.E x) (a.tmps.getD x Go.undef)
  size : a.tmps.size = N
  defers : a.defers = []
  fresh : ∀ r, s.next ≤ r → κ.nm r ≠ none → ∃ j e, S j = true ∧ T[j]? = some e ∧ ((e.kd = 1 ∧ e.new = r) ∨ (e.kd = 2 ∧ r < e.top))
theorem env_keys {e : Ent} {x : Nat} : x ∈ keysL e.env ↔ e.dst = some x := by
  unfold Ent.env keysL
  cases e.dst with
  | none => simp
  | some d => simp [eq_comm]
theorem mid_step {muts : List Nat} {ops : Array Oper} {o : Oper} {ao : AOper} {s si : St} {T : List Ent} {S S' : Nat → Bool} {a : Act} {w : World} {κ : Kap} {e : Ent} {i : Nat} {K : Act → World → Prop} {Q : Exit → Act → World → Prop}
    (hc : cOper P muts N ops o = some ao) (hM : Mid c κ0 N s T S a w κ) (hi : T[i]? = some e) (hSi : S i = false) (hS' : S' i = true) (hSS : ∀ j, j ≠ i → S' j = S j) (hdst : e.dst = ao.dst)
    (hstep : StepE P c.G si.E si.σ (wantedA si ao.guard) ao.op e)
    (hE : ∀ x ∈ ao.slots, accS S (T.map Ent.env) 0 s.E x = si.E x) (hσ : ∀ r ∈ e.reads, accS S (T.map (·.δ)) 0 s.σ r = si.σ r)
    (hoE : ∀ j v r, j ≠ i → (T.map Ent.env)[j]? = some v → r ∈ keysL v → r ∈ keysL e.env → i < j → S j = false) (hoσ : ∀ j v r, j ≠ i → (T.map (·.δ))[j]? = some v → r ∈ keysL v → r ∈ keysL e.δ → i < j → S j = false)
    (hnew : e.isM = true → s.next ≤ e.new) (hnone : e.kd ≠ 0 → ∀ r, (e.kd = 1 → r = e.new) → e.new ≤ r → ∀ j e', S j = true → T[j]? = some e' → ¬ ((e'.kd = 1 ∧ e'.new = r) ∨ (e'.kd = 2 ∧ r < e'.top)))
    (hK : ∀ a w κ, Mid c κ0 N s T S' a w κ → K a w) :
    if Region.wanted o (yielded ops a.tmps) = true then o.wp P a w K Q else K (a.put o.dst Go.undef) w := by
  have hw := hM.w_eq
  subst hw
  unfold cOper at hc
  split at hc
  · rename_i g op hg hop
    split at hc
    · rename_i hd
      cases hc
      simp only at hstep hdst
      let sS : St := ⟨[], [], 0⟩
      have hEenv : accS S' (T.map Ent.env) 0 s.E = appL (accS S (T.map Ent.env) 0 s.E) e.env := accS_step (by simp [hi]) hS' hSS hoE
      have hσenv : accS S' (T.map (·.δ)) 0 s.σ = appL (accS S (T.map (·.δ)) 0 s.σ) e.δ := accS_step (by simp [hi]) hS' hSS hoσ
      have put' : ∀ (κ' : Kap) (u : Value), (∀ x, ARel κ' (accS S (T.map Ent.env) 0 s.E x) (a.tmps.getD x Go.undef)) → ARel κ' e.v u →
          (∀ x, ARel κ' (accS S' (T.map Ent.env) 0 s.E x) ((a.put o.dst u).tmps.getD x Go.undef)) ∧ (a.put o.dst u).tmps.size = N ∧ (a.put o.dst u).defers = [] := by
        intro κ' u h1 h2
        rw [hEenv]
        cases hod : o.dst with
        | none =>
          have : e.env = [] := by unfold Ent.env; rw [hdst, hod]
          rw [this]
          exact ⟨h1, hM.size, hM.defers⟩
        | some d =>
          have hev : e.env = [(d, e.v)] := by unfold Ent.env; rw [hdst, hod]
          rw [hev]
          rw [hod] at hd
          simp only [dstOk, decide_eq_true_eq] at hd
          refine ⟨fun x => ?_, by simp [Act.put, hM.size], hM.defers⟩
          simp only [appL, Act.put]
          by_cases hx : x = d
          · subst hx
            rw [if_pos rfl]
            have : (a.tmps.setIfInBounds x u).getD x Go.undef = u := by simp [Array.getD_eq_getD_getElem?, hM.size, hd]
            rw [this]; exact h2
          · rw [if_neg hx]
            have : (a.tmps.setIfInBounds d u).getD x Go.undef = a.tmps.getD x Go.undef := by
              simp only [Array.getD_eq_getD_getElem?, Array.getElem?_setIfInBounds]
              rw [if_neg (fun h => hx h.symm)]
            rw [this]; exact h1 x
      have hguard : ∀ b, wantedA si g = some b → Region.wanted o (yielded ops a.tmps) = b := by
        intro b hb
        have hcg : wantedA ⟨(match g with | some (i, _) => [(i, si.E i)] | none => []), [], 0⟩ g = some b := by
          cases g with
          | none => exact hb
          | some p =>
            obtain ⟨x, y⟩ := p
            simp only [wantedA, St.E, look, if_true] at hb ⊢
            exact hb
        refine wanted_sound (κ := κ) (a := a) hg (fun x => ?_) hcg
        cases g with
        | none => exact .any _
        | some p =>
          obtain ⟨y, z⟩ := p
          simp only [St.E, look]
          by_cases hx : y = x
          · subst hx
            rw [if_pos rfl]
            have := hM.env y
            rw [hE y (by simp [AOper.slots])] at this
            exact this
          · rw [if_neg hx]; exact .any _
      have fresh0 : ∀ r, s.next ≤ r → κ.nm r ≠ none → ∃ j e, S' j = true ∧ T[j]? = some e ∧ ((e.kd = 1 ∧ e.new = r) ∨ (e.kd = 2 ∧ r < e.top)) := by
        intro r hr hn
        obtain ⟨j, e', h1, h2, h3⟩ := hM.fresh r hr hn
        have hj : j ≠ i := by rintro rfl; rw [hSi] at h1; cases h1
        exact ⟨j, e', by rw [hSS j hj]; exact h1, h2, h3⟩
      have slotsE : ∀ x ∈ op.slots, accS S (T.map Ent.env) 0 s.E x = si.E x := fun x hx => hE x (by simp [AOper.slots, hx])
      rcases hstep with ⟨hb, hv, hδ, hrd, hm, _⟩ | ⟨hb, hst⟩
      · rw [hguard _ hb, if_neg (by simp)]
        obtain ⟨p1, p2, p3⟩ := put' κ Go.undef hM.env (by rw [hv]; exact .pv _ _ .undef)
        exact hK _ _ κ ⟨rfl, hM.ext0, by rw [hσenv, hδ]; exact hM.rel, hM.left, p1, p2, p3, fresh0⟩
      · rw [hguard _ hb, if_pos rfl]
        generalize hmu : muOf muts o.dst = mu at hop
        obtain ⟨mu, fz⟩ := mu
        cases fz with
        | true =>
          obtain ⟨g, x, rfl, hz⟩ := cF_op hop
          exact hst.elim
        | false =>
        simp only [cA] at hop
        unfold cA0 at hop
        split at hop
        · rename_i t ht
          replace ht := cT1_some ht
          cases hop
          obtain ⟨hrun, hδ, hrd, hm, _⟩ := hst
          rw [← TOp.run_congr (E := accS S (T.map Ent.env) 0 s.E) (E' := si.E) (fun x hx => slotsE x hx)] at hrun
          obtain ⟨u, h1, h2⟩ := tOp_sound (P := P) (κ := κ) (E := accS S (T.map Ent.env) 0 s.E) (a := a) ht (fun x _ => hM.env x) hrun
          unfold Oper.wp
          rw [h1]
          obtain ⟨p1, p2, p3⟩ := put' κ u hM.env h2
          exact hK _ _ κ ⟨rfl, hM.ext0, by rw [hσenv, hδ]; exact hM.rel, hM.left, p1, p2, p3, fresh0⟩
        · split at hop
          · rename_i m hmm
            cases hop
            obtain ⟨hrun, hrd, hm, htop, hkd⟩ := hst
            have hreads : m.reads (accS S (T.map Ent.env) 0 s.E) = m.reads si.E := by
              have hh : ∀ x ∈ m.slots, accS S (T.map Ent.env) 0 s.E x = si.E x := fun x hx => slotsE x hx
              cases m <;> simp only [MOp.reads, MOp.slots, List.mem_append] at hh ⊢
              case load g sz x => rw [ev_congr hh]
              case clear sz zs x => rw [ev_congr hh]
              case toStr x => rw [ev_congr hh]
              case xop o => exact XOp.reads_congr hh
              case store sz x v => rw [ev_congr (x := x) (fun i hi => hh i (.inl hi))]
              case append mu e sz b x y => rw [ev_congr (x := x) (fun i hi => hh i (.inl hi)), ev_congr (x := y) (fun i hi => hh i (.inr hi))]
              case sliceA n sz x l h => rw [ev_congr (x := x) (fun i hi => hh i (.inl (.inl hi)))]
            rw [← MOp.run_congr (E := accS S (T.map Ent.env) 0 s.E) (E' := si.E) (σ := accS S (T.map (·.δ)) 0 s.σ) (σ' := si.σ) (fun x hx => slotsE x hx) (fun r hr => hσ r (by rw [hrd, ← hreads]; exact hr))] at hrun
            have hn : m.makes = true → κ.nm e.new = none := by
              intro hmk
              have hk1 : e.kd = 1 := by rw [hkd, makesN, if_pos hmk]
              cases hk : κ.nm e.new with
              | none => rfl
              | some d =>
                obtain ⟨j, e', h1, h2, h3⟩ := hM.fresh e.new (hnew hm) (by rw [hk]; simp)
                exact absurd h3 (hnone (by omega) e.new (fun _ => rfl) (Nat.le_refl _) j e' h1 h2)
            obtain ⟨x, u, κ', h1, h2, h3, h4, h5, h6⟩ := mOp_sound (P := P) hmm hM.rel hM.left.size hn (fun x _ => hM.env x) hrun
            obtain ⟨p1, p2, p3⟩ := put' κ' u (fun x => (hM.env x).ext h4.ext) h3
            have hMid : Mid c κ0 N s T S' (a.put o.dst u) κ'.w κ' := by
              refine ⟨rfl, hM.ext0.trans h4.ext, ?_, h4.left _ hM.left, p1, p2, p3, fun r hr hnn => ?_⟩
              · rw [hσenv, ← upd_appL]; exact h5
              · cases hmk : m.makes with
                | false => rw [h6 hmk] at hnn; exact fresh0 r hr hnn
                | true =>
                  by_cases hre : r = e.new
                  · exact ⟨i, e, hS', hi, .inl ⟨by rw [hkd, makesN, if_pos hmk], hre.symm⟩⟩
                  · refine fresh0 r hr fun hz => hnn (h4.fresh r hre hz)
            unfold Oper.wp
            rw [h1]
            rcases h2 with rfl | ⟨rfl, rfl⟩
            · exact hK _ _ κ' hMid
            · exact hK _ _ κ' hMid
          · split at hop
            · rename_i f args argTypes hoo
              split at hop
              · rename_i af xs hf hxs
                cases hop
                obtain ⟨p, hcl, hst⟩ := hst
                have hevf : af.ev (accS S (T.map Ent.env) 0 s.E) = af.ev si.E := ev_congr fun x hx => slotsE x (by simp [AOp.slots, hx])
                have hevx : xs.map (·.ev (accS S (T.map Ent.env) 0 s.E)) = xs.map (·.ev si.E) := evs_congr fun x hx => slotsE x (by simp only [AOp.slots, List.mem_append]; exact .inr hx)
                rw [← hevf] at hcl
                obtain ⟨vs, us, hfu, hvs, hus, hv1, hu1⟩ := clo_inv (cX_rel (κ := κ) (E := accS S (T.map Ent.env) 0 s.E) (a := a) hf (fun x _ => hM.env x)) hcl
                obtain ⟨hxl, hxr⟩ := cXs_rel (κ := κ) (E := accS S (T.map Ent.env) 0 s.E) (a := a) hxs (fun x _ => hM.env x)
                have hmid : ∀ (i : Nat) (x : AV), (xs.map (·.ev (accS S (T.map Ent.env) 0 s.E)))[i]? = some x → ARel κ x ((args.map a.eval).getD i Go.undef) := by
                  intro i x hx
                  rw [getD_toList]; simpa using hxr i x hx
                have hall := rel_arr_append (κ := κ) (by simp [hvs]; exact hxl) (rel_arr_append (κ := κ) hvs hv1 hmid) hu1
                rcases hst with ⟨ps, r, hps, ⟨hcal, hP⟩, hv, hδ, hrd, hm, _⟩ | ⟨sto, hsto, ⟨hcal, hT⟩, htop, hm, hkd, hlive⟩
                rotate_left
                · -- a call that is lent memory
                  rw [← hevx] at hT
                  have hrun : (execOp a.eval o).run P κ.w = .ok (.enter p.1 (vs ++ args.map a.eval ++ us)) κ.w := by
                    simp [execOp, hoo, resolve, hfu, Deferred.ofValue, invoke, callable_run hcal]
                  unfold Oper.wp
                  rw [hrun]
                  simp only [Oper.upon_enter]
                  have hR := hM.rel
                  have hL := hM.left
                  have hreads : ∀ r, si.σ r ≠ .none → accS S (T.map (·.δ)) 0 s.σ r = si.σ r := fun r hr => hσ r (hlive r hr)
                  have hzz : ∀ r, si.σ r ≠ .none → accS S (T.map (·.δ)) 0 s.σ r ≠ .none := fun r hr => by rw [hreads r hr]; exact hr
                  have hS0 : SRel (ctxOf κ si.σ c.G) κ si.σ := by
                    refine ⟨fun r => ?_, fun r r' d d' b h1 h2 => hR.apart r r' d d' b (hzz r h1) (hzz r' h2), fun r d b h1 h2 h3 => .inr ⟨r, d, h1, h2, h3⟩, hR.immLt, hR.glob.lend fun b ⟨r, d, h1, h2, h3⟩ => hR.mine r d b (hzz r h1) h2 h3⟩
                    by_cases hr : si.σ r = .none
                    · rw [hr]; trivial
                    · rw [← hreads r hr]; exact hR.blk r
                  have hfr : ∀ r, e.new ≤ r → κ.nm r = none := by
                    intro r hr
                    cases hk : κ.nm r with
                    | none => rfl
                    | some d =>
                      obtain ⟨j, e', h1, h2, h3⟩ := hM.fresh r (Nat.le_trans (hnew hm) hr) (by rw [hk]; simp)
                      exact absurd h3 (hnone (by omega) r (fun h => by omega) hr j e' h1 h2)
                  refine (hT κ _ (by rw [hsto]; exact hS0) hfr (by simp [hvs, hus]; simpa using hxl) hall).mono ?_
                  rintro e1 w' ⟨u, v', κ', sto', next', rfl, rfl, he, hL1, hv1, hS1, hf1, rfl, hsto', rfl⟩
                  rw [hsto] at hL1 hS1
                  rw [hsto'] at hS1
                  obtain ⟨p1, p2, p3⟩ := put' κ' u (fun x => (hM.env x).ext he) hv1
                  have hlent : ∀ b, (ctxOf κ si.σ c.G).lent b → c.mine b := by
                    rintro b ⟨r, d, h1, h2, h3⟩
                    exact hR.mine r d b (hzz r h1) h2 h3
                  have hmine : ∀ b, (ctxOf κ si.σ c.G).mine b → c.mine b := by
                    intro b hb
                    rcases hb with hb | hb
                    · exact .inl (Nat.le_trans hL.size hb)
                    · exact hlent b hb
                  have hupd : ∀ r, r ∈ keysL e.δ ∨ si.σ r ≠ .none → Store.upd (accS S (T.map (·.δ)) 0 s.σ) e.δ r = Store.upd si.σ e.δ r := by
                    intro r hr
                    rw [upd_appL, upd_appL]
                    exact appL_at e.δ _ _ (hr.imp id (hreads r))
                  have hout : ∀ r, ¬ (r ∈ keysL e.δ ∨ si.σ r ≠ .none) → Store.upd (accS S (T.map (·.δ)) 0 s.σ) e.δ r = accS S (T.map (·.δ)) 0 s.σ r ∧ Store.upd si.σ e.δ r = .none := by
                    intro r hr
                    have hk : r ∉ keysL e.δ := fun h => hr (.inl h)
                    have hz : si.σ r = .none := Classical.byContradiction fun h => hr (.inr h)
                    rw [upd_appL, upd_appL, appL_not _ _ hk, appL_not _ _ hk]
                    exact ⟨rfl, hz⟩
                  have hfar : ∀ r d b, accS S (T.map (·.δ)) 0 s.σ r ≠ .none → ¬ (r ∈ keysL e.δ ∨ si.σ r ≠ .none) → κ.nm r = some d → d.block = some b → b < κ.w.heap.size ∧ ¬ (ctxOf κ si.σ c.G).lent b := by
                    intro r d b h1 h2 h3 h4
                    refine ⟨(hR.blk r).lt h1 h3 h4, ?_⟩
                    rintro ⟨r', d', k1, k2, k3⟩
                    have hne : r ≠ r' := by rintro rfl; exact h2 (.inr k1)
                    exact hR.apart r r' d d' b h1 (hzz r' k1) hne h3 k2 h4 k3
                  have hnm : ∀ r d', accS S (T.map (·.δ)) 0 s.σ r ≠ .none → κ'.nm r = some d' → ∃ d, κ.nm r = some d ∧ d = d' := by
                    intro r d' h1 h2
                    have hb := hR.blk r
                    generalize accS S (T.map (·.δ)) 0 s.σ r = B at hb h1
                    cases B with
                    | none => exact absurd rfl h1
                    | cells A f l =>
                      rcases hb with ⟨_, _, q1⟩ | ⟨b, n, cs, q1, _⟩
                      · have := he.nm r _ q1
                        rw [this] at h2; cases h2
                        exact ⟨_, q1, rfl⟩
                      have := he.nm r _ q1
                      rw [this] at h2; cases h2
                      exact ⟨_, q1, rfl⟩
                    | tok A z =>
                      rcases hb with q1 | ⟨b, n, cap, cs, q1, _⟩
                      · have := he.nm r _ q1
                        rw [this] at h2; cases h2
                        exact ⟨_, q1, rfl⟩
                      have := he.nm r _ q1
                      rw [this] at h2; cases h2
                      exact ⟨_, q1, rfl⟩
                  refine hK _ _ κ' ⟨rfl, hM.ext0.trans he, ?_, ⟨hL1.os.trans hL.os, hL1.tape.trans hL.tape, hL1.output.trans hL.output, Nat.le_trans hL.size hL1.size, fun b hlt hl => ?_, fun b o hi => ?_⟩, p1, p2, p3, fun r hr hnn => ?_⟩
                  · rw [hσenv, ← upd_appL]
                    refine ⟨fun r => ?_, fun r r' d d' b h1 h2 hne h3 h4 h5 => ?_, fun r d b h1 h2 h3 => ?_, hS1.immLt, hR.glob.back hlent hS1.glob hL1.block⟩
                    · by_cases hr : r ∈ keysL e.δ ∨ si.σ r ≠ .none
                      · rw [hupd r hr]; exact hS1.blk r
                      · rw [(hout r hr).1]
                        refine (hR.blk r).keep he fun hz d b hd hbk => ?_
                        obtain ⟨q1, q2⟩ := hfar r d b hz hr hd hbk
                        exact ⟨hL1.block b q1 q2, fun o ho => (hL1.imm b o ho).elim id fun h => h.elim (fun h => absurd q1 (Nat.not_lt.2 h)) (fun h => absurd h q2)⟩
                    · by_cases hr : r ∈ keysL e.δ ∨ si.σ r ≠ .none
                      · rw [hupd r hr] at h1
                        by_cases hr' : r' ∈ keysL e.δ ∨ si.σ r' ≠ .none
                        · rw [hupd r' hr'] at h2
                          exact hS1.apart r r' d d' b h1 h2 hne h3 h4 h5
                        · rw [(hout r' hr').1] at h2
                          intro h6
                          obtain ⟨d2, q1, rfl⟩ := hnm r' d' h2 h4
                          obtain ⟨q3, q4⟩ := hfar r' _ b h2 hr' q1 h6
                          rcases hS1.mine r d b h1 h3 h5 with h | h
                          · exact absurd q3 (Nat.not_lt.2 h)
                          · exact q4 h
                      · rw [(hout r hr).1] at h1
                        obtain ⟨d1, q1, rfl⟩ := hnm r d h1 h3
                        obtain ⟨q3, q4⟩ := hfar r _ b h1 hr q1 h5
                        intro h6
                        by_cases hr' : r' ∈ keysL e.δ ∨ si.σ r' ≠ .none
                        · rw [hupd r' hr'] at h2
                          rcases hS1.mine r' d' b h2 h4 h6 with h | h
                          · exact absurd q3 (Nat.not_lt.2 h)
                          · exact q4 h
                        · rw [(hout r' hr').1] at h2
                          obtain ⟨d2, q1', rfl⟩ := hnm r' d' h2 h4
                          exact hR.apart r r' _ _ b h1 h2 hne q1 q1' h5 h6
                    · by_cases hr : r ∈ keysL e.δ ∨ si.σ r ≠ .none
                      · rw [hupd r hr] at h1
                        exact hmine b (hS1.mine r d b h1 h2 h3)
                      · rw [(hout r hr).1] at h1
                        obtain ⟨d1, q1, rfl⟩ := hnm r d h1 h2
                        exact hR.mine r _ b h1 q1 h3
                  · refine (hL1.block b (Nat.lt_of_lt_of_le hlt hL.size) fun h => ?_).trans (hL.block b hlt hl)
                    rcases hlent b h with h | h
                    · exact absurd hlt (Nat.not_lt.2 h)
                    · exact hl h
                  · rcases hL1.imm b o hi with h | h
                    · exact hL.imm b o h
                    · exact .inr (hmine b h)
                  · by_cases hk : κ.nm r = none
                    · refine ⟨i, e, hS', hi, .inr ⟨hkd, ?_⟩⟩
                      rcases Nat.lt_or_ge r e.top with h | h
                      · exact h
                      · exact absurd (hf1 r h) hnn
                    · exact fresh0 r hr hk
                rw [← hevx] at hps
                have hrun : (execOp a.eval o).run P κ.w = .ok (.enter p.1 (vs ++ args.map a.eval ++ us)) κ.w := by
                  simp [execOp, hoo, resolve, hfu, Deferred.ofValue, invoke, callable_run hcal]
                unfold Oper.wp
                rw [hrun]
                simp only [Oper.upon_enter]
                refine (hP κ.w κ.imm _ hM.rel.glob.ok hM.rel.immLt (by rw [pvs_len hps]; simp [hvs, hus]; simpa using hxl) fun k x hx => ?_).mono ?_
                · obtain ⟨y, hy, hp⟩ := pvs_get hps k x hx
                  exact toPV_rel hp (hall k y hy)
                · rintro e' w' ⟨u, imm', rfl, hbl, h1, h2, h3, h4⟩
                  have hst : Rel c κ0 N ⟨[], [], s.next⟩ a κ.w κ → True := fun _ => trivial
                  have he : Ext κ ⟨w', κ.nm, imm'⟩ := by
                    refine ⟨h1, fun b o v hi hc => ?_, fun _ _ h => h⟩
                    have hl := World.block_lt_of_cell? κ.w _ hc
                    exact (World.cell?_of_block (a := ⟨b, o, none⟩) (hbl.block b hl)).trans hc
                  have hL := hM.left
                  have hR := hM.rel
                  obtain ⟨p1, p2, p3⟩ := put' ⟨w', κ.nm, imm'⟩ u (fun x => (hM.env x).ext he) (by rw [hv]; exact .pv _ _ h4)
                  refine hK _ _ ⟨w', κ.nm, imm'⟩ ⟨rfl, hM.ext0.trans he, ?_, ⟨hbl.os.trans hL.os, hbl.tape.trans hL.tape, hbl.output.trans hL.output, Nat.le_trans hL.size hbl.size, fun b hlt hl => ?_, fun b o hi => ?_⟩, p1, p2, p3, fresh0⟩
                  · rw [hσenv, hδ]
                    refine ⟨fun r => ?_, hR.apart, hR.mine, h3, SRel.glob_ext he hR.glob fun g h1 _ => hbl.block g (Nat.lt_of_lt_of_le h1 hL.size)⟩
                    refine (hR.blk r).keep he fun hz d b hd hbk => ?_
                    have hl := (hR.blk r).lt hz hd hbk
                    exact ⟨hbl.block b hl, fun o ho => (h2 b o ho).elim id (fun h => by omega)⟩
                  · exact (hbl.block b (Nat.lt_of_lt_of_le hlt hL.size)).trans (hL.block b hlt hl)
                  · rcases h2 b o hi with h | h
                    · exact hL.imm b o h
                    · exact .inr (.inl (Nat.le_trans hL.size h))
              · cases hop; obtain ⟨p, hcl, _⟩ := hst; simp [badOp, AX.ev, cloOf] at hcl
            · cases hop; obtain ⟨p, hcl, _⟩ := hst; simp [badOp, AX.ev, cloOf] at hcl
    · cases hc
  · cases hc
end
end Go.Ab
set_option linter.unusedVariables false
set_option linter.unusedSimpArgs false
namespace Go.Ab
open Go Go.RowKit
section
variable {P : Program} {c : Ctx} {κ0 : Kap} {N : Nat}
theorem binds_any {md : Region.Mode} {e : Edge} (h : Region.binds .any e = true) : Region.binds md e = true := by
  unfold Region.binds at h ⊢
  split at h
  · exact absurd h (by decide)
  · exact absurd h (by decide)
  · rfl
theorem ready_mem {md : Region.Mode} {ops : Array Oper} {listed : Array Bool} {i : Nat} (h : i ∈ Region.ready md ops listed) : ∃ o, ops[i]? = some o ∧ i < ops.size ∧ listed.getD i true = false ∧ ∀ j ∈ depsOf o, listed.getD j false = true := by
  unfold Region.ready at h
  simp only [List.mem_filter, List.mem_range, Bool.and_eq_true, Bool.not_eq_true'] at h
  obtain ⟨h1, h2, h3⟩ := h
  refine ⟨ops[i], by simp [h1], h1, h2, fun j hj => ?_⟩
  have ho : ops[i]? = some ops[i] := by simp [h1]
  rw [ho] at h3
  simp only [Option.map_some, Option.getD_some, Array.all_eq_true_iff_forall_mem, Bool.or_eq_true, Bool.not_eq_true'] at h3
  simp only [depsOf, List.mem_map, List.mem_filter] at hj
  obtain ⟨e, ⟨he, hb⟩, rfl⟩ := hj
  rcases h3 e (by simpa using he) with h | h
  · rw [binds_any hb] at h; cases h
  · exact h
theorem ready_nil {md : Region.Mode} {ops : Array Oper} {listed : Array Bool} (hsz : listed.size = ops.size) (hr : Region.ready md ops listed = []) (rank : Nat → Nat)
    (hlt : ∀ (i : Nat) (o : Oper), ops[i]? = some o → ∀ e ∈ o.after, Region.binds md e = true → e.on < ops.size ∧ rank e.on < rank i) :
    ∀ i, i < ops.size → listed.getD i false = true := by
  have main : ∀ n i, rank i = n → i < ops.size → listed.getD i false = true := by
    intro n
    induction n using Nat.strongRecOn with
    | _ n ih =>
      intro i hin hi
      cases hL : listed.getD i false with
      | true => rfl
      | false =>
        exfalso
        have hm : i ∈ Region.ready md ops listed := by
          unfold Region.ready
          simp only [List.mem_filter, List.mem_range, Bool.and_eq_true, Bool.not_eq_true']
          have ho : ops[i]? = some ops[i] := by simp [hi]
          refine ⟨hi, ?_, ?_⟩
          · have hi' : i < listed.size := by omega
            simp [Array.getD_eq_getD_getElem?, hi'] at hL ⊢
            exact hL
          · rw [ho]
            simp only [Option.map_some, Option.getD_some, Array.all_eq_true_iff_forall_mem, Bool.or_eq_true, Bool.not_eq_true']
            intro e he
            cases hb : Region.binds md e with
            | false => exact .inl rfl
            | true =>
              right
              obtain ⟨h1, h2⟩ := hlt i _ ho e he hb
              exact ih (rank e.on) (by omega) e.on rfl h1
        rw [hr] at hm; cases hm
  exact fun i hi => main _ i rfl hi
theorem ranked_rank {md : Region.Mode} {ops : Array Oper} (h : ranked md ops = true) : ∃ rank : Nat → Nat, ∀ (i : Nat) (o : Oper), ops[i]? = some o → ∀ e ∈ o.after, Region.binds md e = true → e.on < ops.size ∧ rank e.on < rank i := by
  unfold ranked at h
  simp only at h
  refine ⟨fun i => posN i (topoN ((waitsL md ops).zipIdx.map fun p => (p.2, p.1)).length ((waitsL md ops).zipIdx.map fun p => (p.2, p.1)) []), fun i o ho e he hb => ?_⟩
  have hm : (i, (o.after.toList.filter (Region.binds md)).map (·.on)) ∈ (waitsL md ops).zipIdx.map fun p => (p.2, p.1) := by
    refine List.mem_map.2 ⟨((o.after.toList.filter (Region.binds md)).map (·.on), i), List.mem_of_getElem? (i := i) ?_, rfl⟩
    simp [List.getElem?_zipIdx, waitsL, ho]
  have h1 := (List.all_eq_true.1 h) _ hm
  have h2 := (List.all_eq_true.1 h1) e.on (List.mem_map.2 ⟨e, List.mem_filter.2 ⟨by simpa using he, hb⟩, rfl⟩)
  simp only [Bool.and_eq_true, decide_eq_true_eq] at h2
  refine ⟨?_, h2.2⟩
  have := h2.1
  simpa [waitsL] using this
theorem wp_region_modes {ops : Array Oper} {id : Nat} {a : Act} {w : World} {Q : Exit → Act → World → Prop}
    (h : ∀ md, md = .any ∨ Region.departs ops = true → wpAny P md ops Q ops.size (Array.replicate ops.size false) a { w with drawn := w.drawn + 1 }) : (Code.region id ops true).wp P Q a w :=
  wp_region_draw fun t => by
    unfold Region.schedule
    split
    · exact wpAny_sound ops.size t _ a _ (h .any (.inl rfl))
    · rename_i hd
      have hdep : Region.departs ops = true := by
        cases hx : Region.departs ops with
        | true => rfl
        | false => simp [hx] at hd
      exact wpAny_sound ops.size (t / 2) _ a _ (h _ (.inr hdep))
theorem rowT_key {k r : Nat} {ks rs : List Nat} (h : r ∈ ks) : r + 1 ∈ (rowT k ks rs).1 := by
  simp only [rowT, List.mem_append, List.mem_map]
  exact .inr ⟨r, h, rfl⟩
theorem rowT_read {k r : Nat} {ks rs : List Nat} (h : r ∈ rs) : r + 1 ∈ (rowT k ks rs).2 := by
  simp only [rowT, List.mem_append, List.mem_map]
  exact .inr ⟨r, h, rfl⟩
theorem ordB_symm {A : List (List Nat)} {i j : Nat} (hne : j ≠ i) (h : ordB A i j = true) : ordB A j i = true := by
  unfold ordB at h ⊢
  by_cases h1 : i < j
  · rw [if_pos h1] at h
    rw [if_neg (by omega)]; exact h
  · rw [if_neg h1] at h
    rw [if_pos (by omega)]; exact h
theorem StepE.kds {P : Program} {G : Nat → List PV} {E : Nat → AV} {σ : Store} {wt : Option Bool} {op : AOp} {e : Ent} (h : StepE P G E σ wt op e) (h0 : e.kd ≠ 0) : e.kd = 1 ∨ e.kd = 2 := by
  rcases h with ⟨_, _, _, _, h1, h2⟩ | ⟨_, h⟩
  · exact absurd h2 h0
  · cases op with
    | t o => exact absurd h.2.2.2.2 h0
    | m o =>
      have h2 := h.2.2.2.2
      unfold makesN at h2
      split at h2
      · exact .inl h2
      · exact absurd h2 h0
    | call f xs =>
      obtain ⟨p, _, ⟨ps, r, _, _, _, _, _, h1, h2⟩ | ⟨sto, _, _, h1, h2, h3, _⟩⟩ := h
      · exact absurd h2 h0
      · exact .inr h3
    | fz g x => exact h.elim
theorem tail_sound {muts : List Nat} {ops : Array Oper} {aops : List AOper} {F : St → Prop} {Q : Exit → Act → World → Prop} {k : Nat} {md : Region.Mode}
    (hc : cOps P muts N ops ops.toList = some aops) (hlt : ∀ (i : Nat) (o : Oper), ops[i]? = some o → ∀ j ∈ depsOf o, j < i)
    (htail : ∀ i, k ≤ i → i < ops.size → ∀ j, j < i → ((ancTab (ops.toList.map depsOf) []).getD i []).contains j = true)
    (hrank : ∃ rank : Nat → Nat, ∀ (i : Nat) (o : Oper), ops[i]? = some o → ∀ e ∈ o.after, Region.binds md e = true → e.on < ops.size ∧ rank e.on < rank i)
    (hQ : ∀ s a w κ, Rel c κ0 N s a w κ → F s → Q .normal a w) : ∀ (fuel m : Nat) (listed : Array Bool) (s : St) (a : Act) (w : World) (κ : Kap), listed.size = ops.size → k ≤ m → (∀ j, j < ops.size → listed.getD j false = decide (j < m)) →
      ops.size - m ≤ fuel → Rel c κ0 N s a w κ → vcOps P c.G (aops.drop m) F s → wpAny P md ops Q fuel listed a w := by
  obtain ⟨l1, l2⟩ := cOps_at (P := P) (N := N) ops.toList aops hc
  have hn : aops.length = ops.size := by rw [← l1]; simp
  have hget : ∀ (listed : Array Bool) (i : Nat), listed.size = ops.size → i < ops.size → listed.getD i true = listed.getD i false := by
    intro listed i h1 h2
    simp [Array.getD_eq_getD_getElem?, show i < listed.size by omega]
  have done : ∀ (m : Nat) (s : St) (a : Act) (w : World) (κ : Kap), ops.size ≤ m → Rel c κ0 N s a w κ → vcOps P c.G (aops.drop m) F s → Q .normal a w := by
    intro m s a w κ hm hR hv
    rw [List.drop_eq_nil_of_le (by omega)] at hv
    exact hQ s a w κ hR hv
  intro fuel
  induction fuel with
  | zero =>
    intro m listed s a w κ hsz hkm hl hf hR hv
    refine ⟨?_, done m s a w κ (by omega) hR hv⟩
    cases hrd : Region.ready md ops listed with
    | nil => rfl
    | cons i r =>
      obtain ⟨o, ho, hi, hli, _⟩ := ready_mem (i := i) (by rw [hrd]; simp)
      rw [hget listed i hsz hi, hl i hi] at hli
      simp at hli; omega
  | succ fuel ih =>
    intro m listed s a w κ hsz hkm hl hf hR hv
    refine ⟨fun hr => ?_, fun i hi => ?_⟩
    · obtain ⟨rank, hrk⟩ := hrank
      have hall := ready_nil hsz hr rank hrk
      refine done m s a w κ ?_ hR hv
      rcases Nat.lt_or_ge m ops.size with h | h
      · have := hall m h
        rw [hl m h] at this
        simp at this
      · exact h
    · obtain ⟨o, ho, hil, hli, hdeps⟩ := ready_mem hi
      rw [hget listed i hsz hil, hl i hil] at hli
      have hmi : m ≤ i := by simpa using hli
      have him : i = m := by
        rcases Nat.lt_or_ge m i with h | h
        · exfalso
          obtain ⟨c1, c2⟩ := anc_closed (S := fun i => listed.getD i false) (ops.toList.map depsOf) [] 0 rfl (fun i d hd hS j hj => by
            simp only [Nat.zero_add] at hS
            simp only [List.getElem?_map, Option.map_eq_some_iff] at hd
            obtain ⟨o', ho', rfl⟩ := hd
            have ho'' : ops[i]? = some o' := by simpa using ho'
            have h1 := hlt i o' ho'' j hj
            have h2 : i < ops.size := (Array.getElem?_eq_some_iff.1 ho'').1
            rw [hl i h2] at hS
            rw [hl j (by omega)]
            simp at hS ⊢; omega) (by simp) (by simp)
          have hlenA : (ancTab (ops.toList.map depsOf) []).length = ops.size := by rw [ancTab_len]; simp
          have hA : (ancTab (ops.toList.map depsOf) [])[i]? = some ((ancTab (ops.toList.map depsOf) []).getD i []) := by
            simp [List.getD_eq_getElem?_getD, show i < (ancTab (ops.toList.map depsOf) []).length by omega]
          have := c2 i (depsOf o) (by simp [ho]) hdeps _ (by simpa using hA) m (by simpa using htail i (by omega) hil m h)
          rw [hl m (by omega)] at this
          simp at this
        · omega
      subst him
      have hol : ops.toList[i]? = some o := by simpa using ho
      obtain ⟨ao, hao, hco⟩ := l2 i o hol
      have hdrop : aops.drop i = ao :: aops.drop (i + 1) := by
        have hlt' : i < aops.length := by omega
        rw [List.drop_eq_getElem_cons hlt']
        congr 1
        exact (List.getElem?_eq_some_iff.1 hao).2
      rw [hdrop] at hv
      have next : ∀ s a w κ, Rel c κ0 N s a w κ → vcOps P c.G (aops.drop (i + 1)) F s → wpAny P md ops Q fuel (listed.setIfInBounds i true) a w := by
        intro s a w κ hR hv
        refine ih (i + 1) (listed.setIfInBounds i true) s a w κ (by simp [hsz]) (by omega) (fun j hj => ?_) (by omega) hR hv
        simp only [Array.getD_eq_getD_getElem?, Array.getElem?_setIfInBounds]
        by_cases hji : i = j
        · subst hji; simp [show i < listed.size by omega]
        · rw [if_neg hji, ← Array.getD_eq_getD_getElem?, hl j hj]
          have : decide (j < i) = decide (j < i + 1) := by
            rw [decide_eq_decide]; omega
          exact this
      unfold cOper at hco
      split at hco
      · rename_i g op hg hop
        split at hco
        · rename_i hd
          cases hco
          simp only [vcOps, onSome] at hv
          split at hv
          · rename_i b hb
            have hwant := wanted_sound (ops := ops) (o := o) hg hR.env hb
            unfold wpOp
            rw [ho]
            simp only
            rw [hwant]
            cases b with
            | true =>
              rw [if_pos rfl]
              exact .inl (oper_sound hop hR hd hv next)
            | false =>
              rw [if_neg (by simp)]
              exact next _ _ w κ (hR.put (κ' := κ) (w' := w) hd (.pv _ _ .undef)) hv
          · exact hv.elim
        · cases hco
      · cases hco
theorem draw_sound {muts : List Nat} {ops : Array Oper} {aops : List AOper} {id : Nat} {F : St → Prop} {Q : Exit → Act → World → Prop} {s : St} {a : Act} {w : World} {κ : Kap}
    {k : Nat} (hc : cOps P muts N ops ops.toList = some aops) (hok : drawOk ops.toList aops k = true) (hk : k ≤ aops.length) (hm : modesOk ops = true) (hR : Rel c κ0 N s a w κ)
    (hv : vcD P c.G (ancTab (ops.toList.map depsOf) []) (vcOps P c.G (aops.drop k) F) (aops.take k) [] s) (hQ : ∀ s a w κ, Rel c κ0 N s a w κ → F s → Q .normal a w) : (Code.region id ops true).wp P Q a w := by
  obtain ⟨T, s', hT, hnames, hF⟩ := vcD_tr (aops.take k) [] s hv
  simp only [List.nil_append] at hnames
  obtain ⟨t1, t2, t3, t4, t5, t6, t7⟩ := Tr_at (aops.take k) s T s' hT
  obtain ⟨l1, l2⟩ := cOps_at (P := P) (N := N) ops.toList aops hc
  simp only [drawOk, Bool.and_eq_true] at hok
  obtain ⟨⟨hslots, hback⟩, htl⟩ := hok
  have hTk : T.length = k := by rw [← t1]; simp; omega
  have hlt : ∀ (i : Nat) (o : Oper), ops[i]? = some o → ∀ j ∈ depsOf o, j < i := by
    intro i o ho j hj
    have hd : ((ops.toList.map depsOf).zipIdx)[i]? = some (depsOf o, i) := by simp [List.getElem?_zipIdx, ho]
    have := (List.all_eq_true.1 hback) _ (List.mem_of_getElem? hd)
    have := (List.all_eq_true.1 this) j hj
    simpa using this
  have hn : ops.size = aops.length := by rw [← l1]; simp
  have htail : ∀ i, k ≤ i → i < ops.size → ∀ j, j < i → ((ancTab (ops.toList.map depsOf) []).getD i []).contains j = true := by
    intro i h1 h2 j hj
    have h3 := (List.all_eq_true.1 htl) i (by simpa using h2)
    simp only [Bool.or_eq_true, decide_eq_true_eq] at h3
    rcases h3 with h3 | h3
    · omega
    · exact (List.all_eq_true.1 h3) j (by simpa using hj)
  refine wp_region_modes fun md hmd => ?_
  have hrank : ∃ rank : Nat → Nat, ∀ (i : Nat) (o : Oper), ops[i]? = some o → ∀ e ∈ o.after, Region.binds md e = true → e.on < ops.size ∧ rank e.on < rank i := by
    have hany : ∃ rank : Nat → Nat, ∀ (i : Nat) (o : Oper), ops[i]? = some o → ∀ e ∈ o.after, Region.binds .any e = true → e.on < ops.size ∧ rank e.on < rank i := by
      refine ⟨fun i => i, fun i o ho e he hb => ?_⟩
      have h1 := hlt i o ho e.on (by
        simp only [depsOf, List.mem_map, List.mem_filter]
        exact ⟨e, ⟨by simpa using he, hb⟩, rfl⟩)
      have h2 : i < ops.size := (Array.getElem?_eq_some_iff.1 ho).1
      exact ⟨by omega, h1⟩
    rcases hmd with rfl | hdep
    · exact hany
    · simp only [modesOk, hdep, Bool.not_true, Bool.false_or, Bool.and_eq_true] at hm
      cases md with
      | text => exact ranked_rank hm.1
      | gc => exact ranked_rank hm.2
      | any => exact hany
  have key : ∀ (fuel : Nat) (listed : Array Bool) (a : Act) (w : World) (κ : Kap), listed.size = ops.size →
      (∀ i d, (ops.toList.map depsOf)[i]? = some d → listed.getD i false = true → ∀ j ∈ d, listed.getD j false = true) →
      (((List.range k).filter fun i => !listed.getD i false).length + (ops.size - k) ≤ fuel) → (∀ i, k ≤ i → listed.getD i false = false) →
      Mid c κ0 N s T (fun i => listed.getD i false) a w κ → wpAny P md ops Q fuel listed a w := by
    have fin : ∀ (fuel : Nat) (listed : Array Bool) (a : Act) (w : World) (κ : Kap), listed.size = ops.size → ops.size - k ≤ fuel → (∀ i, i < k → listed.getD i false = true) → (∀ i, k ≤ i → listed.getD i false = false) →
        Mid c κ0 N s T (fun i => listed.getD i false) a w κ → wpAny P md ops Q fuel listed a w := by
      intro fuel listed a w κ hsz hf hall hno hM
      refine tail_sound (F := F) hc hlt htail hrank hQ fuel k listed s' a w κ hsz (Nat.le_refl _) (fun j hj => ?_) hf ⟨hM.w_eq, hM.ext0, ?_, hM.left, fun x => ?_, hM.size, hM.defers, fun r hr => ?_⟩ hF
      · by_cases h : j < k
        · rw [hall j h]; simp [h]
        · rw [hno j (by omega)]; simp [h]
      · have e : s'.σ = accS (fun i => listed.getD i false) (T.map (·.δ)) 0 s.σ := by
          rw [t3, accS_all (fun i => listed.getD i false)]
          intro i hi
          rw [Nat.zero_add]
          exact hall i (by simp at hi; omega)
        rw [e]; exact hM.rel
      · have e : s'.E = accS (fun i => listed.getD i false) (T.map Ent.env) 0 s.E := by
          rw [t2, accS_all (fun i => listed.getD i false)]
          intro i hi
          rw [Nat.zero_add]
          exact hall i (by simp at hi; omega)
        rw [e]; exact hM.env x
      · cases hk : κ.nm r with
        | none => rfl
        | some d =>
          obtain ⟨j, e, h1, h2, h3⟩ := hM.fresh r (by omega) (by rw [hk]; simp)
          obtain ⟨_, _, _, sj, _, _, hst⟩ := t7 j e h2
          have htp := hst.tops
          rcases h3 with ⟨h3, h4⟩ | ⟨h3, h4⟩
          · have h5 := htp.2.1 (by omega)
            have h6 := htp.2.2 h3
            have := (t5 j e h2 h5).2
            omega
          · have h5 := htp.2.1 (by omega)
            have := (t5 j e h2 h5).2
            omega
    intro fuel
    induction fuel with
    | zero =>
      intro listed a w κ hsz hcl hf hno hM
      refine fin 0 listed a w κ hsz (by omega) (fun i hi => ?_) hno hM
      have h0 : ((List.range k).filter fun i => !listed.getD i false) = [] := List.eq_nil_of_length_eq_zero (by omega)
      cases hL : listed.getD i false with
      | true => rfl
      | false =>
        have : i ∈ (List.range k).filter fun i => !listed.getD i false := List.mem_filter.2 ⟨List.mem_range.2 hi, by rw [hL]; rfl⟩
        rw [h0] at this; cases this
    | succ fuel ih =>
      intro listed a w κ hsz hcl hf hno hM
      by_cases hallk : ∀ i, i < k → listed.getD i false = true
      · exact fin _ listed a w κ hsz (by omega) hallk hno hM
      obtain ⟨u0, hu0, hu1⟩ : ∃ i, i < k ∧ listed.getD i false = false := by
        refine Classical.byContradiction fun h => hallk fun i hi => ?_
        cases hL : listed.getD i false with
        | true => rfl
        | false => exact absurd ⟨i, hi, hL⟩ h
      refine ⟨fun hr => ?_, fun i hi => ?_⟩
      · obtain ⟨rank, hrk⟩ := hrank
        have := ready_nil hsz hr rank hrk u0 (by omega)
        rw [hu1] at this; cases this
      obtain ⟨o, ho, hil, hl, hdeps⟩ := ready_mem hi
      have hi' : i < listed.size := by omega
      have hik : i < k := by
        rcases Nat.lt_or_ge i k with h | h
        · exact h
        · exfalso
          obtain ⟨c1, c2⟩ := anc_closed (S := fun i => listed.getD i false) (ops.toList.map depsOf) [] 0 rfl (fun i d hd hS => hcl i d hd (by simpa using hS)) (by simp) (by simp)
          have hlenA : (ancTab (ops.toList.map depsOf) []).length = ops.size := by rw [ancTab_len]; simp
          have hA : (ancTab (ops.toList.map depsOf) [])[i]? = some ((ancTab (ops.toList.map depsOf) []).getD i []) := by
            simp [List.getD_eq_getElem?_getD, show i < (ancTab (ops.toList.map depsOf) []).length by omega]
          have := c2 i (depsOf o) (by simp [ho]) hdeps _ (by simpa using hA) u0 (by simpa using htail i h hil u0 (by omega))
          rw [hu1] at this; cases this
      have hSi : listed.getD i false = false := by
        simp [Array.getD_eq_getD_getElem?, hi'] at hl ⊢; exact hl
      have hol : ops.toList[i]? = some o := by simpa using ho
      obtain ⟨ao, hao, hco⟩ := l2 i o hol
      have hTi : T[i]? = some T[i] := List.getElem?_eq_getElem (by omega)
      obtain ⟨ao', hao', hdst, si, e1, e2, hstep⟩ := t7 i _ hTi
      rw [List.getElem?_take, if_pos hik, hao] at hao'; cases hao'
      have hbefore : ∀ j, ordB (ancTab (ops.toList.map depsOf) []) j i = true → j ≠ i → (j < i ∧ listed.getD j false = true) ∨ (i < j ∧ listed.getD j false = false) := by
        intro j hord hne
        obtain ⟨c1, c2⟩ := anc_closed (S := fun i => listed.getD i false) (ops.toList.map depsOf) [] 0 rfl (fun i d hd hS => hcl i d hd (by simpa using hS)) (by simp) (by simp)
        have hlenA : (ancTab (ops.toList.map depsOf) []).length = ops.size := by rw [ancTab_len]; simp
        unfold ordB at hord
        split at hord
        · rename_i hji
          refine .inl ⟨hji, ?_⟩
          have hA : (ancTab (ops.toList.map depsOf) [])[i]? = some ((ancTab (ops.toList.map depsOf) []).getD i []) := by
            simp [List.getD_eq_getElem?_getD, show i < (ancTab (ops.toList.map depsOf) []).length by omega]
          exact c2 i (depsOf o) (by simp [ho]) hdeps _ (by simpa using hA) j (by simpa using hord)
        · rename_i hji
          have hij : i < j := by omega
          refine .inr ⟨hij, ?_⟩
          cases hL : listed.getD j false with
          | false => rfl
          | true =>
            exfalso
            by_cases hjn : j < ops.size
            · have hA : (ancTab (ops.toList.map depsOf) [])[j]? = some ((ancTab (ops.toList.map depsOf) []).getD j []) := by
                simp [List.getD_eq_getElem?_getD, show j < (ancTab (ops.toList.map depsOf) []).length by omega]
              have := c1 j _ hA hL i (by simpa using hord)
              rw [hSi] at this; cases this
            · rw [Array.getD_eq_getD_getElem?, Array.getElem?_eq_none (by omega)] at hL
              cases hL
      have hslotPair : ∀ (j : Nat) (e : Ent), T[j]? = some e → ∃ ao, aops[j]? = some ao ∧ e.dst = ao.dst ∧ (slotPairs (aops.take k))[j]? = some (ao.dst.toList, ao.slots) := by
        intro j e hj
        obtain ⟨ao, h1, h2, _⟩ := t7 j e hj
        have hjk : j < k := by have := (List.getElem?_eq_some_iff.1 hj).1; omega
        refine ⟨ao, by rw [List.getElem?_take, if_pos hjk] at h1; exact h1, h2, ?_⟩
        simp only [slotPairs, List.getElem?_map, h1, Option.map_some]
      have hE : ∀ x ∈ ao.slots, accS (fun i => listed.getD i false) (T.map Ent.env) 0 s.E x = si.E x := by
        intro x hx
        rw [e1]
        refine accS_read hSi fun j v hne hj hkv => ?_
        simp only [List.getElem?_map, Option.map_eq_some_iff] at hj
        obtain ⟨e, he, rfl⟩ := hj
        obtain ⟨aj, a1, a2, a3⟩ := hslotPair j e he
        obtain ⟨ai, b1, b2, b3⟩ := hslotPair i _ hTi
        rw [hao] at b1; cases b1
        refine hbefore j (ord_of hslots a3 b3 hne (x := x) ?_ (.inl hx)) hne
        have := env_keys.1 hkv
        rw [a2] at this
        simp [this]
      have hσ : ∀ r ∈ T[i].reads, accS (fun i => listed.getD i false) (T.map (·.δ)) 0 s.σ r = si.σ r := by
        intro r hr
        rw [e2]
        refine accS_read hSi fun j v hne hj hkv => ?_
        simp only [List.getElem?_map, Option.map_eq_some_iff] at hj
        obtain ⟨e, he, rfl⟩ := hj
        exact hbefore j (ord_of hnames (p := rowT e.kd (keysL e.δ) e.reads) (q := rowT T[i].kd (keysL T[i].δ) T[i].reads) (x := r + 1) (by simp [he]) (by simp [hTi]) hne (rowT_key hkv) (.inl (rowT_read hr))) hne
      have hgetset : ∀ j, (listed.setIfInBounds i true).getD j false = if j = i then true else listed.getD j false := by
        intro j
        simp only [Array.getD_eq_getD_getElem?, Array.getElem?_setIfInBounds]
        by_cases hj : i = j
        · subst hj; simp [hi']
        · rw [if_neg hj, if_neg (fun h => hj h.symm)]
      have step := mid_step (P := P) (s := s) (si := si) (T := T) (S := fun i => listed.getD i false) (S' := fun j => (listed.setIfInBounds i true).getD j false) (e := T[i]) (i := i) (K := wpAny P md ops Q fuel (listed.setIfInBounds i true)) (Q := Q)
        hco hM hTi hSi (by simp only [hgetset]; simp) (fun j hj => by simp only [hgetset, if_neg hj]) hdst hstep hE hσ
        (fun j v r hne hj hkv hke hij => by
          simp only [List.getElem?_map, Option.map_eq_some_iff] at hj
          obtain ⟨e, he, rfl⟩ := hj
          obtain ⟨aj, a1, a2, a3⟩ := hslotPair j e he
          obtain ⟨ai, b1, b2, b3⟩ := hslotPair i _ hTi
          have h1 := env_keys.1 hkv
          have h2 := env_keys.1 hke
          rw [a2] at h1; rw [b2] at h2
          rcases hbefore j (ord_of hslots a3 b3 hne (x := r) (by simp [h1]) (.inr (by simp [h2]))) hne with ⟨h, _⟩ | ⟨_, h⟩
          · omega
          · exact h)
        (fun j v r hne hj hkv hke hij => by
          simp only [List.getElem?_map, Option.map_eq_some_iff] at hj
          obtain ⟨e, he, rfl⟩ := hj
          rcases hbefore j (ord_of hnames (p := rowT e.kd (keysL e.δ) e.reads) (q := rowT T[i].kd (keysL T[i].δ) T[i].reads) (x := r + 1) (by simp [he]) (by simp [hTi]) hne (rowT_key hkv) (.inr (rowT_key hke))) hne with ⟨h, _⟩ | ⟨_, h⟩
          · omega
          · exact h)
        (fun hm => (t5 i _ hTi hm).1)
        (fun hkd r hr hge j e' hSj he' => by
          obtain ⟨_, _, _, sj, _, _, hst'⟩ := t7 j e' he'
          have htp' := hst'.tops
          have htp := hstep.tops
          have hmi := htp.2.1 hkd
          have hjne : j ≠ i := by
            rintro rfl
            rw [hSi] at hSj; cases hSj
          have before : j < i → e'.isM = true → e'.top ≤ T[i].new := fun h hm' => t6 j i e' _ h he' hTi hm' hmi
          have after : i < j → e'.isM = true → T[i].top ≤ e'.new := fun h hm' => t6 i j _ e' h hTi he' hmi hm'
          have ordered : (T[i].kd = 2 ∧ e'.kd ≠ 0) ∨ e'.kd = 2 → j < i := by
            intro h
            have hpair : (rowT e'.kd (keysL e'.δ) e'.reads, j) ≠ (rowT e'.kd (keysL e'.δ) e'.reads, i) := fun h => hjne (Prod.mk.inj h).2
            have hTj : (T.map fun e => rowT e.kd (keysL e.δ) e.reads)[j]? = some (rowT e'.kd (keysL e'.δ) e'.reads) := by simp [he']
            have hTi' : (T.map fun e => rowT e.kd (keysL e.δ) e.reads)[i]? = some (rowT T[i].kd (keysL T[i].δ) T[i].reads) := by simp [hTi]
            have k0 : T[i].kd = 1 ∨ T[i].kd = 2 := hstep.kds hkd
            have ho : ordB (ancTab (ops.toList.map depsOf) []) j i = true ∨ ordB (ancTab (ops.toList.map depsOf) []) i j = true := by
              rcases h with ⟨h, h'⟩ | h
              · have k1 : e'.kd = 1 ∨ e'.kd = 2 := hst'.kds h'
                refine .inr (ord_of hnames hTi' hTj (fun h => hjne h.symm) (x := 0) (by simp [rowT, h]) ?_)
                rcases k1 with k1 | k1
                · exact .inl (by simp [rowT, k1])
                · exact .inr (by simp [rowT, k1])
              · refine .inl (ord_of hnames hTj hTi' hjne (x := 0) (by simp [rowT, h]) ?_)
                rcases k0 with k0 | k0
                · exact .inl (by simp [rowT, k0])
                · exact .inr (by simp [rowT, k0])
            have ho' : ordB (ancTab (ops.toList.map depsOf) []) j i = true := by
              rcases ho with ho | ho
              · exact ho
              · exact ordB_symm hjne ho
            rcases hbefore j ho' hjne with ⟨h, _⟩ | ⟨_, h⟩
            · exact h
            · rw [hSj] at h; cases h
          rintro (⟨h1, h2⟩ | ⟨h1, h2⟩)
          · have hm' := htp'.2.1 (by omega)
            have ht' := htp'.2.2 h1
            rcases Nat.lt_or_gt_of_ne hjne with h | h
            · have := before h hm'; omega
            · rcases hstep.kds hkd with k0 | k0
              · have := after h hm'
                have := htp.2.2 k0
                have := hr k0
                omega
              · have := ordered (.inl ⟨k0, by omega⟩); omega
          · have hm' := htp'.2.1 (by omega)
            have := ordered (.inr h1)
            have := before this hm'
            omega)
        (fun a w κ hM' => ih (listed.setIfInBounds i true) a w κ (by simp [hsz]) (fun k d hd hk j hj => by
            rw [hgetset] at hk ⊢
            by_cases hki : k = i
            · subst hki
              simp only [List.getElem?_map, hol, Option.map_some, Option.some.injEq] at hd
              subst hd
              rw [hdeps j hj]; simp
            · rw [if_neg hki] at hk
              rw [hcl k d hd hk j hj]; simp) (by
            have hsub : ((List.range k).filter fun q => !(listed.setIfInBounds i true).getD q false).length < ((List.range k).filter fun q => !listed.getD q false).length := by
              have : ((List.range k).filter fun q => !(listed.setIfInBounds i true).getD q false) = ((List.range k).filter fun q => !listed.getD q false).filter fun q => decide (q ≠ i) := by
                rw [List.filter_filter]
                apply List.filter_congr
                intro q _
                rw [hgetset]
                by_cases hk : q = i <;> simp [hk]
              rw [this]
              refine List.length_filter_lt_length_iff_exists.2 ⟨i, List.mem_filter.2 ⟨List.mem_range.2 hik, by rw [hSi]; rfl⟩, by simp⟩
            omega) (fun q hq => by rw [hgetset, if_neg (by omega)]; exact hno q hq) hM')
      unfold wpOp
      rw [ho]
      simp only
      split
      · rename_i hw
        rw [if_pos hw] at step
        exact .inl step
      · rename_i hw
        rw [if_neg hw] at step
        exact step
  have hfalse : ∀ j, (Array.replicate ops.size false).getD j false = false := by
    intro j
    simp only [Array.getD_eq_getD_getElem?, Array.getElem?_replicate]
    split <;> rfl
  have hw := hR.w_eq
  subst hw
  refine key ops.size (Array.replicate ops.size false) a _ ⟨{ κ.w with drawn := κ.w.drawn + 1 }, κ.nm, κ.imm⟩ (by simp) (fun i d _ h => by rw [hfalse] at h; cases h) (by
    have := List.length_filter_le (fun i => !(Array.replicate ops.size false).getD i false) (List.range k)
    simp only [List.length_range] at this
    omega) (fun i _ => hfalse i) ?_
  have hno : ∀ {β : Type} (W : List (List (Nat × β))) (k : Nat) (g : Nat → β), accS (fun i => (Array.replicate ops.size false).getD i false) W k g = g := by
    intro β W
    induction W with
    | nil => intros; rfl
    | cons x y ih => intro k g; rw [accS, hfalse]; simpa using ih (k + 1) g
  have he : Ext κ ⟨{ κ.w with drawn := κ.w.drawn + 1 }, κ.nm, κ.imm⟩ := ⟨fun _ _ h => h, fun _ _ _ _ h => h, fun _ _ h => h⟩
  have hS := hR.rel
  have hL := hR.left
  refine ⟨rfl, hR.ext0.trans he, ?_, ⟨hL.os, hL.tape, hL.output, hL.size, hL.block, hL.imm⟩, fun x => ?_, hR.size, hR.defers, fun r hr h => absurd (hR.fresh r hr) h⟩
  · rw [hno]
    refine ⟨fun r => (hS.blk r).keep he fun _ _ _ _ _ => ⟨rfl, fun _ h => h⟩, hS.apart, hS.mine, hS.immLt, SRel.glob_ext he hS.glob fun _ _ _ => rfl⟩
  · rw [hno]; exact (hR.env x).ext he
end
end Go.Ab
set_option linter.unusedVariables false
set_option linter.unusedSimpArgs false
namespace Go.Ab
open Go Go.RowKit
inductive ACode where
  | skip
  | ops (l : List AOper) (keep : List Nat)
  | draw (A : List (List Nat)) (l l2 : List AOper) (keep : List Nat)
  | seq (a b : ACode)
  | cond (x : AX) (a b : ACode)
  | block (id : Nat) (b : ACode)
  | loop (keep : List Nat) (b : ACode)
  | exit (id : Nat)
  | ret
inductive AExit where
  | norm
  | exit (id : Nat)
  | ret
def clip0 (keep : List Nat) (s : St) : St := ⟨keep.map fun i => (i, s.E i), s.sto, s.next⟩
def memN (k : Nat) : List Nat → Bool
  | [] => false
  | j :: r => if j = k then true else memN k r
def consB (k : Nat) (b : Blk) (r : List (Nat × Blk)) : Bool → List (Nat × Blk)
  | true => r
  | false => (k, b) :: r
def cleanB : List Nat → List (Nat × Blk) → List (Nat × Blk)
  | _, [] => []
  | seen, p :: r => consB p.1 p.2 (cleanB (p.1 :: seen) r) (memN p.1 seen)
theorem memN_cons (k j : Nat) (r : List Nat) : memN k (j :: r) = if j = k then true else memN k r := rfl
theorem lookB_clean : ∀ (l : List (Nat × Blk)) (seen : List Nat) (r : Nat), memN r seen = false → lookB r (cleanB seen l) = lookB r l
  | [], seen, r, _ => rfl
  | p :: q, seen, r, h => by
    simp only [cleanB]
    by_cases hp : p.1 = r
    · rw [hp, h]
      simp only [consB, lookB, if_pos hp, if_true]
    · have hr : memN r (p.1 :: seen) = false := by rw [memN_cons, if_neg hp]; exact h
      have := lookB_clean q (p.1 :: seen) r hr
      cases memN p.1 seen <;> simp only [consB, lookB, if_neg hp, this]
def clip (keep : List Nat) (s : St) : St := ⟨keep.map fun i => (i, s.E i), cleanB [] s.sto, s.next⟩
def addNames (acc : List Nat) : List Nat → List Nat
  | [] => acc
  | n :: r => addNames (if acc.contains n then acc else acc ++ [n]) r
mutual
def AV.names : AV → List Nat
  | .ptr r _ => [r]
  | .row r _ _ _ => [r]
  | .olist r _ _ => [r]
  | .agg cs => AV.namesL cs
  | .tup cs => AV.namesL cs
  | .clo _ fs cs => AV.namesL fs ++ AV.namesL cs
  | _ => []
def AV.namesL : List AV → List Nat
  | [] => []
  | x :: r => AV.names x ++ AV.namesL r
end
def Blk.names : Blk → List Nat
  | .cells _ _ l => AV.namesL l
  | _ => []
def reachN (m0 : Nat) (sto : List (Nat × Blk)) : Nat → List Nat → List Nat
  | 0, acc => acc
  | k + 1, acc => reachN m0 sto k (addNames acc ((acc.flatMap fun r => (lookB r sto).names).filter fun r => decide (m0 ≤ r)))
def entryNames (m0 : Nat) (sto : List (Nat × Blk)) : List Nat := (List.range m0).flatMap fun r => (lookB r sto).names
def olds (m0 : Nat) (keep : List Nat) (s : St) : List Nat :=
  reachN m0 s.sto s.sto.length (addNames [] (((keep.flatMap fun i => (s.E i).names) ++ entryNames m0 s.sto).filter fun r => decide (m0 ≤ r)))
def idxN (x : Nat) : List Nat → Nat → Option Nat
  | [], _ => none
  | y :: r, k => if y = x then some k else idxN x r (k + 1)
def newName (m0 : Nat) (os : List Nat) (r : Nat) : Option Nat := if r < m0 then some r else idxN r os m0
mutual
def AV.ren (f : Nat → Option Nat) : AV → AV
  | .ptr r o => match f r with
    | some r' => .ptr r' o
    | none => .any
  | .row r a b c => match f r with
    | some r' => .row r' a b c
    | none => .any
  | .olist r a l => match f r with
    | some r' => .olist r' a l
    | none => .pv (.list l)
  | .agg cs => .agg (AV.renL f cs)
  | .tup cs => .tup (AV.renL f cs)
  | .clo g fs cs => .clo g (AV.renL f fs) (AV.renL f cs)
  | .pv p => .pv p
  | .any => .any
def AV.renL (f : Nat → Option Nat) : List AV → List AV
  | [] => []
  | x :: r => AV.ren f x :: AV.renL f r
end
def Blk.ren (f : Nat → Option Nat) : Blk → Blk
  | .cells T b l => .cells T b (AV.renL f l)
  | x => x
def renSto (m0 : Nat) (f : Nat → Option Nat) (sto : List (Nat × Blk)) : List Nat → Nat → List (Nat × Blk)
  | [], _ => []
  | r :: q, k => (k, (lookB r sto).ren f) :: renSto m0 f sto q (k + 1)
def norm (m0 : Nat) (keep : List Nat) (s : St) : St :=
  let os := olds m0 keep s
  let f := newName m0 os
  ⟨keep.map fun i => (i, (s.E i).ren f), renSto m0 f s.sto (List.range m0 ++ os) 0, m0 + os.length⟩
def normK (Q : AExit → St → Prop) (keep : List Nat) (s : St) : Prop := Q .norm (clip keep s)
def SeqK (F : St → Prop) (Q : AExit → St → Prop) : AExit → St → Prop
  | .norm, s => F s
  | .exit i, s => Q (.exit i) s
  | .ret, s => Q .ret s
def BlockK (id : Nat) (Q : AExit → St → Prop) : AExit → St → Prop
  | .norm, s => Q .norm s
  | .exit i, s => if i = id then Q .norm s else Q (.exit i) s
  | .ret, s => Q .ret s
def LoopK (m0 : Nat) (I : Nat → St → Prop) (n : Nat) (Q : AExit → St → Prop) : AExit → St → Prop
  | .norm, s => ∃ n' s', n' < n ∧ Wk m0 s s' ∧ I n' s'
  | .exit i, s => ∃ s', Wk m0 s s' ∧ Q (.exit i) s'
  | .ret, s => Q .ret s
def loopC (body : (AExit → St → Prop) → St → Prop) (m0 : Nat) (keep : List Nat) (Q : AExit → St → Prop) (s : St) : Prop :=
  ∃ I : Nat → St → Prop, (∃ n s', Wk m0 s s' ∧ I n s') ∧ ∀ n s, I n s → body (LoopK m0 I n Q) s
def onBool (v : AV) (F G : St → Prop) (s : St) : Prop :=
  match v with
  | .pv (.bool true) => F s
  | .pv (.bool false) => G s
  | _ => False
def ifB (b : Bool) (F G : St → Prop) (s : St) : Prop :=
  match b with
  | true => F s
  | false => G s
def vc (P : Program) (G : Nat → List PV) (m0 : Nat) : ACode → (AExit → St → Prop) → St → Prop
  | .skip, Q, s => Q .norm s
  | .ops l keep, Q, s => vcOps P G l (normK Q keep) s
  | .draw A l l2 keep, Q, s => vcD P G A (vcOps P G l2 (normK Q keep)) l [] s
  | .seq a b, Q, s => vc P G m0 a (SeqK (vc P G m0 b Q) Q) s
  | .cond x a b, Q, s => onBool (x.ev s.E) (vc P G m0 a Q) (vc P G m0 b Q) s
  | .block id b, Q, s => vc P G m0 b (BlockK id Q) s
  | .loop keep b, Q, s => loopC (vc P G m0 b) m0 keep Q s
  | .exit id, Q, s => Q (.exit id) s
  | .ret, Q, s => Q .ret s
def union (a : List Nat) : List Nat → List Nat
  | [] => a
  | x :: r => union (if a.contains x then a else a ++ [x]) r
def liveIn : List AOper → List Nat → List Nat
  | [], out => out
  | o :: r, out => union ((liveIn r out).filter fun x => !(o.dst == some x)) o.slots
def lookL (i : Nat) : List (Nat × List Nat) → List Nat
  | [] => []
  | p :: r => if p.1 = i then p.2 else lookL i r
def insN (x : Nat) : List Nat → List Nat
  | [] => [x]
  | y :: r => if x ≤ y then x :: y :: r else y :: insN x r
def sortN : List Nat → List Nat
  | [] => []
  | x :: r => insN x (sortN r)
def cCode (P : Program) (muts : List Nat) (N : Nat) (ret : List Nat) : Code → List (Nat × List Nat) → List Nat → Option (ACode × List Nat)
  | .skip, _, out => some (.skip, out)
  | .region _ ops d, _, out => match cOps P muts N ops ops.toList with
    | some l => match d with
      | false => some (.ops l (sortN out), liveIn l out)
      | true => if drawOk ops.toList l (headN (ancTab (ops.toList.map depsOf) []) l.length) = true ∧ headN (ancTab (ops.toList.map depsOf) []) l.length ≤ l.length ∧ modesOk ops = true then
          some (.draw (ancTab (ops.toList.map depsOf) []) (l.take (headN (ancTab (ops.toList.map depsOf) []) l.length)) (l.drop (headN (ancTab (ops.toList.map depsOf) []) l.length)) (sortN out), liveIn l out)
        else none
    | none => none
  | .seq a b, ex, out => match cCode P muts N ret b ex out with
    | some (b', lb) => match cCode P muts N ret a ex lb with
      | some (a', la) => some (.seq a' b', la)
      | none => none
    | none => none
  | .cond x a b, ex, out => match cX x, cCode P muts N ret a ex out, cCode P muts N ret b ex out with
    | some ax, some (a', la), some (b', lb) => some (.cond ax a' b', union (union la lb) ax.slots)
    | _, _, _ => none
  | .block id b, ex, out => match cCode P muts N ret b ((id, out) :: ex) out with
    | some (b', lb) => some (.block id b', lb)
    | none => none
  | .loop b, ex, out => match cCode P muts N ret b ex [] with
    | some (_, l1) => match cCode P muts N ret b ex l1 with
      | some (_, l2) => match cCode P muts N ret b ex l2 with
        | some (b', l3) => some (.loop (sortN l2) b', l2)
        | none => none
      | none => none
    | none => none
  | .exit id, ex, _ => some (.exit id, lookL id ex)
  | .ret, _, _ => some (.ret, ret)
  | _, _, _ => none
end Go.Ab
set_option linter.unusedVariables false
set_option linter.unusedSimpArgs false
namespace Go.Ab
open Go Go.RowKit
theorem look_map (keep : List Nat) (g : Nat → AV) (i : Nat) : look i (keep.map fun k => (k, g k)) = if i ∈ keep then g i else .any := by
  induction keep with
  | nil => rfl
  | cons k r ih =>
    simp only [List.map_cons, look, ih, List.mem_cons]
    by_cases h : k = i
    · simp [h]
    · simp only [if_neg h, show (i = k) = False from eq_false (fun e => h e.symm), false_or]
theorem addNames_nodup : ∀ (l acc : List Nat), acc.Nodup → (addNames acc l).Nodup
  | [], acc, h => h
  | n :: r, acc, h => by
    rw [addNames]
    refine addNames_nodup r _ ?_
    split
    · exact h
    · rename_i hn
      have hn' : n ∉ acc := by simpa using hn
      refine List.nodup_append.2 ⟨h, by simp, ?_⟩
      intro a ha b hb
      simp at hb; subst hb
      rintro rfl
      exact hn' ha
theorem addNames_mem : ∀ (l acc : List Nat) (x : Nat), x ∈ addNames acc l → x ∈ acc ∨ x ∈ l
  | [], acc, x, h => .inl h
  | n :: r, acc, x, h => by
    rw [addNames] at h
    rcases addNames_mem r _ x h with h | h
    · split at h
      · exact .inl h
      · rcases List.mem_append.1 h with h | h
        · exact .inl h
        · simp at h; subst h; exact .inr (by simp)
    · exact .inr (by simp [h])
theorem reachN_ok (m0 : Nat) (sto : List (Nat × Blk)) : ∀ (k : Nat) (acc : List Nat), acc.Nodup → (∀ x ∈ acc, m0 ≤ x) → (reachN m0 sto k acc).Nodup ∧ ∀ x ∈ reachN m0 sto k acc, m0 ≤ x
  | 0, acc, h, g => ⟨h, g⟩
  | k + 1, acc, h, g => by
    rw [reachN]
    refine reachN_ok m0 sto k _ (addNames_nodup _ _ h) fun x hx => ?_
    rcases addNames_mem _ _ _ hx with h | h
    · exact g x h
    · simpa using (List.mem_filter.1 h).2
theorem olds_ok (m0 : Nat) (keep : List Nat) (s : St) : (olds m0 keep s).Nodup ∧ ∀ x ∈ olds m0 keep s, m0 ≤ x := by
  refine reachN_ok m0 s.sto _ _ (addNames_nodup _ _ (by simp)) fun x hx => ?_
  rcases addNames_mem _ _ _ hx with h | h
  · simp at h
  · simpa using (List.mem_filter.1 h).2
theorem idxN_get {x i : Nat} : ∀ (l : List Nat) (k : Nat), idxN x l k = some i → k ≤ i ∧ l[i - k]? = some x
  | [], k, h => by simp [idxN] at h
  | y :: r, k, h => by
    rw [idxN] at h
    split at h
    · rename_i hy
      cases h
      exact ⟨Nat.le_refl _, by simp [hy]⟩
    · obtain ⟨h1, h2⟩ := idxN_get r (k + 1) h
      refine ⟨by omega, ?_⟩
      rw [show i - k = (i - (k + 1)) + 1 by omega]
      simpa using h2
mutual
theorem ren_rel {κ κ' : Kap} (hw : κ'.w = κ.w) (hi : κ'.imm = κ.imm) {f : Nat → Option Nat} (hf : ∀ r r', f r = some r' → κ'.nm r' = κ.nm r) : ∀ (x : AV) (v : Value), ARel κ x v → ARel κ' (x.ren f) v
  | .pv p, v, h => by
    cases h with
    | pv _ _ hp => exact .pv _ _ (by rw [hw, hi]; exact hp)
  | .any, v, h => .any v
  | .ptr r o, v, h => by
    cases h with
    | ptr _ _ b n hn =>
      simp only [AV.ren]
      split
      · rename_i r' hr; exact .ptr _ _ b n (by rw [hf r r' hr]; exact hn)
      · exact .any _
  | .row r a b c, v, h => by
    cases h with
    | row _ _ _ _ bb n cap hn h1 h2 h3 h4 =>
      simp only [AV.ren]
      split
      · rename_i r' hr; exact .row _ _ _ _ bb n cap (by rw [hf r r' hr]; exact hn) h1 h2 h3 h4
      · exact .any _
    | row0 _ _ hn =>
      simp only [AV.ren]
      split
      · rename_i r' hr; exact .row0 _ _ (by rw [hf r r' hr]; exact hn)
      · exact .any _
  | .olist r a l, v, h => by
    cases h with
    | olist _ _ _ _ hn hp hs =>
      simp only [AV.ren]
      split
      · rename_i r' hr; exact .olist _ _ _ _ (by rw [hf r r' hr]; exact hn) (by rw [hw, hi]; exact hp) hs
      · exact .pv _ _ (by rw [hw, hi]; exact hp)
  | .agg cs, v, h => by
    cases h with
    | agg _ vs hl hr =>
      simp only [AV.ren]
      obtain ⟨h1, h2⟩ := renL_rel hw hi hf cs vs hr
      exact .agg _ _ (by rw [h1]; exact hl) h2
  | .tup cs, v, h => by
    cases h with
    | tup _ vs hl hr =>
      simp only [AV.ren]
      obtain ⟨h1, h2⟩ := renL_rel hw hi hf cs vs hr
      exact .tup _ _ (by rw [h1]; exact hl) h2
  | .clo g fs cs, v, h => by
    cases h with
    | clo _ _ _ vs us hl hr hl' hr' =>
      simp only [AV.ren]
      obtain ⟨h1, h2⟩ := renL_rel hw hi hf fs vs hr
      obtain ⟨h3, h4⟩ := renL_rel hw hi hf cs us hr'
      exact .clo _ _ _ _ _ (by rw [h1]; exact hl) h2 (by rw [h3]; exact hl') h4
theorem renL_rel {κ κ' : Kap} (hw : κ'.w = κ.w) (hi : κ'.imm = κ.imm) {f : Nat → Option Nat} (hf : ∀ r r', f r = some r' → κ'.nm r' = κ.nm r) : ∀ (xs : List AV) (vs : Array Value),
    (∀ (i : Nat) (x : AV), xs[i]? = some x → ARel κ x (vs.getD i Go.undef)) → (AV.renL f xs).length = xs.length ∧ ∀ (i : Nat) (x : AV), (AV.renL f xs)[i]? = some x → ARel κ' x (vs.getD i Go.undef)
  | [], vs, h => by simp [AV.renL]
  | x :: r, vs, h => by
    obtain ⟨h1, h2⟩ := renL_rel hw hi hf r (vs.extract 1 vs.size) (fun i y hy => by
      have := h (i + 1) y (by simpa using hy)
      have e : (vs.extract 1 vs.size).getD i Go.undef = vs.getD (i + 1) Go.undef := by
        simp only [Array.getD_eq_getD_getElem?, Array.getElem?_extract]
        by_cases hh : i < min vs.size vs.size - 1
        · rw [if_pos hh]; congr 2; omega
        · rw [if_neg hh, Array.getElem?_eq_none (by omega)]
      rw [e]; exact this)
    refine ⟨by simp [AV.renL, h1], fun i y hy => ?_⟩
    cases i with
    | zero =>
      simp only [AV.renL, List.getElem?_cons_zero, Option.some.injEq] at hy
      subst hy
      exact ren_rel hw hi hf x _ (h 0 x (by simp))
    | succ i =>
      simp only [AV.renL, List.getElem?_cons_succ] at hy
      have := h2 i y hy
      have e : (vs.extract 1 vs.size).getD i Go.undef = vs.getD (i + 1) Go.undef := by
        simp only [Array.getD_eq_getD_getElem?, Array.getElem?_extract]
        by_cases hh : i < min vs.size vs.size - 1
        · rw [if_pos hh]; congr 2; omega
        · rw [if_neg hh, Array.getElem?_eq_none (by omega)]
      rw [e] at this; exact this
end
theorem renSto_look {m0 : Nat} {f : Nat → Option Nat} {sto : List (Nat × Blk)} {x : Nat} : ∀ (l : List Nat) (k : Nat), lookB x (renSto m0 f sto l k) = if k ≤ x then (match l[x - k]? with | some r => (lookB r sto).ren f | none => .none) else .none
  | [], k => by simp [renSto, lookB]
  | r :: q, k => by
    rw [renSto, lookB]
    simp only
    by_cases h : k = x
    · subst h; simp
    · rw [if_neg h, renSto_look q (k + 1)]
      by_cases hk : k ≤ x
      · rw [if_pos (by omega), if_pos hk, show x - k = (x - (k + 1)) + 1 by omega]
        simp
      · rw [if_neg (by omega), if_neg hk]
section
variable {P : Program} {c : Ctx} {κ0 κ : Kap} {N : Nat} {s : St} {a : Act} {w : World}
theorem Rel.clip (h : Rel c κ0 N s a w κ) (keep : List Nat) : Rel c κ0 N (clip keep s) a w κ := by
  have e : (Go.Ab.clip keep s).σ = s.σ := by funext r; exact lookB_clean s.sto [] r rfl
  refine ⟨h.w_eq, h.ext0, by rw [e]; exact h.rel, h.left, fun i => ?_, h.size, h.defers, h.fresh⟩
  simp only [Go.Ab.clip, St.E]
  rw [look_map keep (fun i => look i s.env) i]
  split
  · exact h.env i
  · exact .any _
theorem Rel.clip0 (h : Rel c κ0 N s a w κ) (keep : List Nat) : Rel c κ0 N (clip0 keep s) a w κ := by
  refine ⟨h.w_eq, h.ext0, h.rel, h.left, fun i => ?_, h.size, h.defers, h.fresh⟩
  simp only [Go.Ab.clip0, St.E]
  rw [look_map keep (fun i => look i s.env) i]
  split
  · exact h.env i
  · exact .any _
theorem Rel.norm (h : Rel c κ0 N s a w κ) {m0 : Nat} (h0 : ∀ r, m0 ≤ r → κ0.nm r = none) (keep : List Nat) : ∃ κ', Rel c κ0 N (norm m0 keep s) a w κ' := by
  obtain ⟨hnd, hge⟩ := olds_ok m0 keep s
  let os := olds m0 keep s
  let f := newName m0 os
  let nm' : Nat → Option Den := fun n => if n < m0 then κ.nm n else match os[n - m0]? with | some r => κ.nm r | none => none
  let κ' : Kap := ⟨κ.w, nm', κ.imm⟩
  have hf : ∀ r r', f r = some r' → κ'.nm r' = κ.nm r := by
    intro r r' hr
    simp only [f, newName] at hr
    split at hr
    · cases hr; rename_i hlt; simp [κ', nm', hlt]
    · obtain ⟨h1, h2⟩ := idxN_get os m0 hr
      simp only [κ', nm']
      rw [if_neg (by omega), h2]
  have he0 : Ext κ0 κ' := by
    refine ⟨h.ext0.imm, h.ext0.cell, fun r d hr => ?_⟩
    have hlt : r < m0 := by
      rcases Nat.lt_or_ge r m0 with h1 | h1
      · exact h1
      · rw [h0 r h1] at hr; cases hr
    simp only [κ', nm', if_pos hlt]
    exact h.ext0.nm r d hr
  have hS := h.rel
  have hlook : ∀ n, (Go.Ab.norm m0 keep s).σ n = if n < m0 then (lookB n s.sto).ren f else match os[n - m0]? with | some r => (lookB r s.sto).ren f | none => .none := by
    intro n
    show lookB n (renSto m0 f s.sto (List.range m0 ++ os) 0) = _
    rw [renSto_look, if_pos (Nat.zero_le _), Nat.sub_zero]
    by_cases hn : n < m0
    · rw [if_pos hn, List.getElem?_append_left (by simpa using hn), List.getElem?_range hn]
    · rw [if_neg hn, List.getElem?_append_right (by simp; omega)]
      simp only [List.length_range]
  have hold : ∀ n, (Go.Ab.norm m0 keep s).σ n ≠ .none → ∃ r, (Go.Ab.norm m0 keep s).σ n = (lookB r s.sto).ren f ∧ κ'.nm n = κ.nm r ∧ (lookB r s.sto) ≠ .none ∧ ((n < m0 ∧ r = n) ∨ (m0 ≤ n ∧ os[n - m0]? = some r)) := by
    intro n hn
    rw [hlook] at hn ⊢
    by_cases hlt : n < m0
    · rw [if_pos hlt] at hn ⊢
      refine ⟨n, rfl, by simp [κ', nm', hlt], fun e => hn (by rw [e]; rfl), .inl ⟨hlt, rfl⟩⟩
    · rw [if_neg hlt] at hn ⊢
      cases hr : os[n - m0]? with
      | none => rw [hr] at hn; exact absurd rfl hn
      | some r =>
        rw [hr] at hn
        simp only at hn ⊢
        refine ⟨r, rfl, ?_, fun e => hn (by rw [e]; rfl), .inr ⟨by omega, rfl⟩⟩
        simp only [κ', nm']
        rw [if_neg hlt, hr]
  have hinj : ∀ n n' r, ((n < m0 ∧ r = n) ∨ (m0 ≤ n ∧ os[n - m0]? = some r)) → ((n' < m0 ∧ r = n') ∨ (m0 ≤ n' ∧ os[n' - m0]? = some r)) → n = n' := by
    intro n n' r h1 h2
    rcases h1 with ⟨a1, a2⟩ | ⟨a1, a2⟩ <;> rcases h2 with ⟨b1, b2⟩ | ⟨b1, b2⟩
    · omega
    · have := hge r (List.mem_of_getElem? b2); omega
    · have := hge r (List.mem_of_getElem? a2); omega
    · have hlt : n - m0 < os.length := (List.getElem?_eq_some_iff.1 a2).1
      have := (List.getElem?_inj hlt hnd).1 (a2.trans b2.symm)
      omega
  refine ⟨κ', h.w_eq, he0, ⟨fun n => ?_, fun n n' d d' b h1 h2 hne hd hd' hb => ?_, fun n d b h1 hd hb => ?_, hS.immLt, hS.glob⟩, ⟨h.left.os, h.left.tape, h.left.output, h.left.size, h.left.block, h.left.imm⟩, fun i => ?_, h.size, h.defers, fun r hr => ?_⟩
  · by_cases hn : (Go.Ab.norm m0 keep s).σ n = .none
    · rw [hn]; trivial
    · obtain ⟨r, e1, e2, e3, _⟩ := hold n hn
      rw [e1]
      have hB := hS.blk r
      have hB : BRel κ r (lookB r s.sto) := hB
      cases hl : lookB r s.sto with
      | none => exact absurd hl e3
      | cells T b l =>
        rw [hl] at hB
        rcases hB with ⟨k1, k2, k3⟩ | ⟨bb, n', cs, k1, k2, k3, k4, k5, k6, k7⟩
        · exact .inl ⟨k1, by rw [k2]; simp only [AV.renL], by rw [e2]; exact k3⟩
        obtain ⟨q1, q2⟩ := renL_rel (κ := κ) (κ' := κ') rfl rfl hf l cs k6
        exact .inr ⟨bb, n', cs, by rw [e2]; exact k1, k2, k3, by rw [q1]; exact k4, fun hb => by rw [q1]; exact k5 hb, q2, k7⟩
      | tok e sz =>
        rw [hl] at hB
        rcases hB with k1 | ⟨g, n', cap, cur, k1, k2⟩
        · exact .inl (by rw [e2]; exact k1)
        exact .inr ⟨g, n', cap, cur, by rw [e2]; exact k1, k2⟩
  · obtain ⟨r, e1, e2, e3, e4⟩ := hold n h1
    obtain ⟨r', f1, f2, f3, f4⟩ := hold n' h2
    rw [e2] at hd; rw [f2] at hd'
    refine hS.apart r r' d d' b e3 f3 ?_ hd hd' hb
    rintro rfl
    exact hne (hinj n n' r e4 f4)
  · obtain ⟨r, e1, e2, e3, e4⟩ := hold n h1
    rw [e2] at hd
    exact hS.mine r d b e3 hd hb
  · show ARel κ' (look i (keep.map fun i => (i, (s.E i).ren f))) _
    rw [look_map keep (fun i => (s.E i).ren f) i]
    split
    · exact ren_rel (κ := κ) (κ' := κ') rfl rfl hf _ _ (h.env i)
    · exact .any _
  · have hr' : m0 + os.length ≤ r := hr
    simp only [κ', nm']
    rw [if_neg (by omega), List.getElem?_eq_none (by omega)]
end
theorem Wk.norm (m0 : Nat) (keep : List Nat) (s : St) : Wk m0 s (norm m0 keep s) := fun c κ0 κ N a w h0 hr => hr.norm h0 keep
def lift (c : Ctx) (κ0 : Kap) (N : Nat) (Q : AExit → St → Prop) : Exit → Act → World → Prop
  | .normal, a, w => ∃ s κ, Rel c κ0 N s a w κ ∧ Q .norm s
  | .exit id, a, w => ∃ s κ, Rel c κ0 N s a w κ ∧ Q (.exit id) s
  | .ret, a, w => ∃ s κ, Rel c κ0 N s a w κ ∧ Q .ret s
  | _, _, _ => False
theorem wp_loop_n {P : Program} {co : Code} {Q : Exit → Act → World → Prop} {a : Act} {w : World} (J : Nat → Act → World → Prop) (h : ∃ n, J n a w)
    (round : ∀ n a w, J n a w → co.wp P (Exit.then (fun a' w' => ∃ n', n' < n ∧ J n' a' w') Q) a w) : (Code.loop co).wp P Q a w := by
  intro b k cs
  have key : ∀ n a w, J n a w → ∃ e a' w', Q e a' w' ∧ Arrives P (lone (b.at a (.code co :: .inLoop co :: k)) cs w) b k cs e a' w' := by
    intro n
    induction n using Nat.strongRecOn with
    | _ n ih =>
      intro a w hJ
      obtain ⟨e, a₁, w₁, hq, harr⟩ := round n a w hJ b (.inLoop co :: k) cs
      cases e with
      | normal =>
        obtain ⟨n', hlt, hJ'⟩ := hq
        obtain ⟨e₂, a₂, w₂, hq₂, harr₂⟩ := ih n' hlt a₁ w₁ hJ'
        exact ⟨e₂, a₂, w₂, hq₂, .of_steps (Steps.trans harr (.one step_inLoop)) harr₂⟩
      | exit id => exact ⟨_, a₁, w₁, hq, .pass (x := .inLoop co) rfl (fun _ _ => .inl (by simp)) harr⟩
      | goto l => exact ⟨_, a₁, w₁, hq, .pass (x := .inLoop co) rfl (fun _ _ => .inl (by simp)) harr⟩
      | ret => exact ⟨_, a₁, w₁, hq, .pass (x := .inLoop co) rfl (fun _ _ => .inl (by simp)) harr⟩
      | panic ch => exact ⟨_, a₁, w₁, hq, .pass (x := .inLoop co) rfl (fun _ _ => .inl (by simp)) harr⟩
      | outgrown => exact ⟨_, a₁, w₁, hq, .pass (x := .inLoop co) rfl (fun _ _ => .inl (by simp)) harr⟩
  obtain ⟨n, hn⟩ := h
  obtain ⟨e, a', w', hq, harr⟩ := key n a w hn
  exact ⟨e, a', w', hq, .of_steps (.one step_loop) harr⟩
section
variable {P : Program} {c : Ctx} {κ0 : Kap} {N : Nat}
theorem vc_sound {muts rl : List Nat} {m0 : Nat} (h0 : ∀ r, m0 ≤ r → κ0.nm r = none) : ∀ (co : Code) (ac : ACode) (ex : List (Nat × List Nat)) (out li : List Nat) (Q : AExit → St → Prop) (s : St) (a : Act) (w : World) (κ : Kap),
    cCode P muts N rl co ex out = some (ac, li) → Rel c κ0 N s a w κ → vc P c.G m0 ac Q s → co.wp P (lift c κ0 N Q) a w := by
  intro co
  induction co with
  | skip =>
    intro ac ex out li Q s a w κ hc hR hv
    simp only [cCode, Option.some.injEq, Prod.mk.injEq] at hc
    obtain ⟨rfl, _⟩ := hc
    exact wp_skip ⟨s, κ, hR, hv⟩
  | exit id =>
    intro ac ex out li Q s a w κ hc hR hv
    simp only [cCode, Option.some.injEq, Prod.mk.injEq] at hc
    obtain ⟨rfl, _⟩ := hc
    exact wp_exit ⟨s, κ, hR, hv⟩
  | ret =>
    intro ac ex out li Q s a w κ hc hR hv
    simp only [cCode, Option.some.injEq, Prod.mk.injEq] at hc
    obtain ⟨rfl, _⟩ := hc
    exact wp_ret ⟨s, κ, hR, hv⟩
  | region id ops d =>
    intro ac ex out li Q s a w κ hc hR hv
    simp only [cCode] at hc
    split at hc
    · rename_i l hl
      cases d with
      | false =>
        simp only [Option.some.injEq, Prod.mk.injEq] at hc
        obtain ⟨rfl, _⟩ := hc
        exact wp_region_list (vcOps_sound (F := normK Q (sortN out)) (fun s a w κ hR hF => ⟨_, κ, hR.clip _, hF⟩) ops.toList l s a w κ hl hR hv)
      | true =>
        simp only at hc
        split at hc
        · rename_i hok
          simp only [Option.some.injEq, Prod.mk.injEq] at hc
          obtain ⟨rfl, _⟩ := hc
          exact draw_sound (F := normK Q (sortN out)) hl hok.1 hok.2.1 hok.2.2 hR hv (fun s a w κ hR hF => ⟨_, κ, hR.clip _, hF⟩)
        · cases hc
    · cases hc
  | seq x y ihx ihy =>
    intro ac ex out li Q s a w κ hc hR hv
    simp only [cCode] at hc
    split at hc
    · rename_i b' lb hb
      split at hc
      · rename_i a' la ha
        simp only [Option.some.injEq, Prod.mk.injEq] at hc
        obtain ⟨rfl, _⟩ := hc
        refine wp_seq (wp_mono (ihx _ _ _ _ _ s a w κ ha hR hv) ?_)
        intro e a w hq
        cases e with
        | normal =>
          obtain ⟨s, κ, hR, hF⟩ := hq
          exact ihy _ _ _ _ _ s a w κ hb hR hF
        | exit id => exact hq
        | ret => exact hq
        | goto l => exact hq.elim
        | panic ch => exact hq.elim
        | outgrown => exact hq.elim
      · cases hc
    · cases hc
  | cond x y z ihy ihz =>
    intro ac ex out li Q s a w κ hc hR hv
    simp only [cCode] at hc
    split at hc
    · rename_i ax a' la b' lb hx hy hz
      simp only [Option.some.injEq, Prod.mk.injEq] at hc
      obtain ⟨rfl, _⟩ := hc
      have hw := hR.w_eq
      have hrel := cX_rel (κ := κ) (E := s.E) (a := a) hx (fun i _ => hR.env i)
      simp only [vc, onBool] at hv
      split at hv
      · rename_i he
        rw [he] at hrel
        exact wp_cond_true (bool_inv hrel) (ihy _ _ _ _ _ s a w κ hy hR hv)
      · rename_i he
        rw [he] at hrel
        exact wp_cond_false (bool_inv hrel) (ihz _ _ _ _ _ s a w κ hz hR hv)
      · exact hv.elim
    · cases hc
  | block id b ih =>
    intro ac ex out li Q s a w κ hc hR hv
    simp only [cCode] at hc
    split at hc
    · rename_i b' lb hb
      simp only [Option.some.injEq, Prod.mk.injEq] at hc
      obtain ⟨rfl, _⟩ := hc
      refine wp_block (wp_mono (ih _ _ _ _ _ s a w κ hb hR hv) ?_)
      intro e a w hq
      cases e with
      | normal => exact hq
      | ret => exact hq
      | goto l => exact hq.elim
      | panic ch => exact hq.elim
      | outgrown => exact hq.elim
      | exit id' =>
        obtain ⟨s, κ, hR, hF⟩ := hq
        simp only [BlockK] at hF
        simp only [Exit.inBlock]
        split
        · rename_i hid
          rw [if_pos hid] at hF
          exact ⟨s, κ, hR, hF⟩
        · rename_i hid
          rw [if_neg hid] at hF
          exact ⟨s, κ, hR, hF⟩
    · cases hc
  | loop b ih =>
    intro ac ex out li Q s a w κ hc hR hv
    simp only [cCode] at hc
    split at hc
    · rename_i x1 l1 hb1
      split at hc
      · rename_i x2 l2 hb2
        split at hc
        · rename_i b' l3 hb
          simp only [Option.some.injEq, Prod.mk.injEq] at hc
          obtain ⟨rfl, _⟩ := hc
          obtain ⟨I, ⟨n0, s0, hs0, hI0⟩, hround⟩ := hv
          let J : Nat → Act → World → Prop := fun n a w => ∃ s κ, Rel c κ0 N s a w κ ∧ I n s
          have hJ0 : ∃ n, J n a w := by
            obtain ⟨κ', hR'⟩ := hs0 c κ0 κ N a w h0 hR
            exact ⟨n0, _, κ', hR', hI0⟩
          refine wp_loop_n J hJ0 fun n a w hJn => ?_
          obtain ⟨s, κ, hR, hIs⟩ := hJn
          refine wp_mono (ih _ _ _ _ _ s a w κ hb hR (hround _ s hIs)) ?_
          intro e a' w' hq
          cases e with
          | normal =>
            obtain ⟨s', κ', hR', n', s'', hn', hs', hI'⟩ := hq
            obtain ⟨κ'', hR''⟩ := hs' c κ0 κ' N a' w' h0 hR'
            exact ⟨n', hn', _, κ'', hR'', hI'⟩
          | exit id =>
            obtain ⟨s', κ', hR', s'', hs', hq'⟩ := hq
            obtain ⟨κ'', hR''⟩ := hs' c κ0 κ' N a' w' h0 hR'
            exact ⟨s'', κ'', hR'', hq'⟩
          | ret => exact hq
          | goto l => exact hq.elim
          | panic ch => exact hq.elim
          | outgrown => exact hq.elim
        · cases hc
      · cases hc
    · cases hc
  | rangeFunc f ps x y ihx ihy => intro ac ex out li Q s a w κ hc; simp [cCode] at hc
  | scope b ih => intro ac ex out li Q s a w κ hc; simp [cCode] at hc
  | label l => intro ac ex out li Q s a w κ hc; simp [cCode] at hc
  | goto l => intro ac ex out li Q s a w κ hc; simp [cCode] at hc
  | refuse y => intro ac ex out li Q s a w κ hc; simp [cCode] at hc
end
end Go.Ab
set_option linter.unusedVariables false
set_option linter.unusedSimpArgs false
namespace Go.Ab
open Go Go.RowKit
mutual
inductive Nz : PV → PV → Prop
  | refl (p : PV) : Nz p p
  | nils : Nz .nils (.list [])
  | agg (cs ds : List PV) : NzL cs ds → Nz (.agg cs) (.agg ds)
  | tup (cs ds : List PV) : NzL cs ds → Nz (.tup cs) (.tup ds)
  | list (cs ds : List PV) : NzL cs ds → Nz (.list cs) (.list ds)
inductive NzL : List PV → List PV → Prop
  | nil : NzL [] []
  | cons (x y : PV) (r q : List PV) : Nz x y → NzL r q → NzL (x :: r) (y :: q)
end
theorem NzL.refl : ∀ l : List PV, NzL l l
  | [] => .nil
  | x :: r => .cons x x r r (.refl x) (NzL.refl r)
theorem NzL.length : ∀ {l k : List PV}, NzL l k → l.length = k.length
  | [], _, h => by cases h; rfl
  | x :: r, _, h => by cases h with | cons _ y _ q _ h2 => simp [NzL.length h2]
theorem NzL.get : ∀ {l k : List PV}, NzL l k → ∀ (i : Nat) (y : PV), k[i]? = some y → ∃ x, l[i]? = some x ∧ Nz x y
  | [], _, h, i, y, hy => by cases h; simp at hy
  | x :: r, _, h, i, y, hy => by
    cases h with
    | cons _ y' _ q h1 h2 =>
      cases i with
      | zero => simp at hy; subst hy; exact ⟨x, rfl, h1⟩
      | succ i => exact NzL.get h2 i y (by simpa using hy)
theorem Nz.cells {p q : PV} (h : Nz p q) : NzL p.cells q.cells := by
  cases h with
  | refl => exact NzL.refl _
  | nils => exact .cons _ _ _ _ .nils .nil
  | agg cs ds h => exact h
  | tup cs ds h => exact .cons _ _ _ _ (.tup _ _ h) .nil
  | list cs ds h => exact .cons _ _ _ _ (.list _ _ h) .nil
theorem PRel.nz {w : World} {imm : Nat → Nat → Prop} {p : PV} {v : Value} (h : PRel w imm p v) : ∀ {q : PV}, Nz p q → PRel w imm q v := by
  induction h with
  | undef => intro q hq; cases hq; exact .undef
  | bool b => intro q hq; cases hq; exact .bool b
  | int k n => intro q hq; cases hq; exact .int k n
  | str s hs => intro q hq; cases hq; exact .str s hs
  | agg cs vs hl hc ih =>
    intro q hq
    cases hq with
    | refl => exact .agg cs vs hl hc
    | agg _ ds hd =>
      refine .agg ds vs (by rw [hl, hd.length]) fun i y hy => ?_
      obtain ⟨x, hx, hxy⟩ := hd.get i y hy
      exact ih i x hx hxy
  | tup cs vs hl hc ih =>
    intro q hq
    cases hq with
    | refl => exact .tup cs vs hl hc
    | tup _ ds hd =>
      refine .tup ds vs (by rw [hl, hd.length]) fun i y hy => ?_
      obtain ⟨x, hx, hxy⟩ := hd.get i y hy
      exact ih i x hx hxy
  | nils =>
    intro q hq
    cases hq with
    | refl => exact .nils
    | nils => exact .lnil none 0 (by simp)
  | lnil A c h =>
    intro q hq
    cases hq with
    | refl => exact .lnil A c h
    | list _ ds hd => cases hd; exact .lnil A c h
  | list l b off c sz g h1 h2 h3 h4 h5 ih =>
    intro q hq
    cases hq with
    | refl => exact .list l b off c sz g h1 h2 h3 h4 h5
    | list _ ds hd =>
      have hlen := hd.length
      have key := PRel.list (w := w) (imm := imm) ds b off c sz g (by omega) h2 (fun i y hy => by
          obtain ⟨x, hx, hxy⟩ := hd.get i y hy
          rw [← h3 i x hx, hxy.cells.length]) (fun i y j z hy hz => by
          obtain ⟨x, hx, hxy⟩ := hd.get i y hy
          obtain ⟨u, hu, huz⟩ := hxy.cells.get j z hz
          exact h4 i x j u hx hu) (fun i y j z hy hz => by
          obtain ⟨x, hx, hxy⟩ := hd.get i y hy
          obtain ⟨u, hu, huz⟩ := hxy.cells.get j z hz
          exact ih i x j u hx hu huz)
      rw [← hlen] at key
      exact key
  | nilp => intro q hq; cases hq; exact .nilp
  | nilf => intro q hq; cases hq; exact .nilf
  | clo f fs cs vs us h1 h2 h3 h4 _ _ => intro q hq; cases hq; exact .clo f fs cs vs us h1 h2 h3 h4
  | eptr l b off c sz g i o h1 h2 h3 h4 h5 h6 _ => intro q hq; cases hq; exact .eptr l b off c sz g i o h1 h2 h3 h4 h5 h6
  | gptr g o => intro q hq; cases hq; exact .gptr g o
theorem nz_self (p : PV) : Nz p p = True := eq_true (.refl p)
theorem nz_nils : Nz .nils (.list []) = True := eq_true .nils
theorem nz_agg (cs ds : List PV) : Nz (.agg cs) (.agg ds) = NzL cs ds := propext ⟨fun h => by cases h with | refl => exact NzL.refl _ | agg _ _ h => exact h, .agg _ _⟩
theorem nz_tup (cs ds : List PV) : Nz (.tup cs) (.tup ds) = NzL cs ds := propext ⟨fun h => by cases h with | refl => exact NzL.refl _ | tup _ _ h => exact h, .tup _ _⟩
theorem nz_bool (a b : Bool) : Nz (.bool a) (.bool b) = (a = b) := propext ⟨fun h => by cases h; rfl, fun h => h ▸ .refl _⟩
theorem nz_int (k k' : IntKind) (a b : Int) : Nz (.int k a) (.int k' b) = (k = k' ∧ a = b) := propext ⟨fun h => by cases h; exact ⟨rfl, rfl⟩, fun ⟨h, g⟩ => h ▸ g ▸ .refl _⟩
theorem nz_str (a b : List UInt8) : Nz (.str a) (.str b) = (a = b) := propext ⟨fun h => by cases h; rfl, fun h => h ▸ .refl _⟩
theorem nzL_nil : NzL [] [] = True := eq_true .nil
theorem nzL_cons (x y : PV) (r q : List PV) : NzL (x :: r) (y :: q) = (Nz x y ∧ NzL r q) := propext ⟨fun h => by cases h with | cons _ _ _ _ h1 h2 => exact ⟨h1, h2⟩, fun ⟨h1, h2⟩ => .cons _ _ _ _ h1 h2⟩
theorem NzL.map {α : Type} {f g : α → PV} (h : ∀ x, Nz (f x) (g x)) : ∀ l : List α, NzL (l.map f) (l.map g)
  | [] => .nil
  | x :: r => .cons _ _ _ _ (h x) (NzL.map h r)
theorem NzL.append : ∀ {a b c d : List PV}, NzL a b → NzL c d → NzL (a ++ c) (b ++ d)
  | [], _, _, _, h, k => by cases h; exact k
  | x :: r, _, _, _, h, k => by cases h with | cons _ _ _ _ h1 h2 => exact .cons _ _ _ _ h1 (NzL.append h2 k)
end Go.Ab
set_option linter.unusedVariables false
set_option linter.unusedSimpArgs false
namespace Go.Ab
open Go Go.RowKit
def nilAV (n e sz : Nat) : AV := if e < 1000000 then .olist n sz [] else .row n sz 0 0
def nilBlk (e sz : Nat) : Blk := if e < 1000000 then .tok e sz else .cells (e - 1000000) false []
def accC (k : Nat) (e sz : Nat) (s : St) : AV → St
  | .pv .nils => ⟨(k, nilAV s.next e sz) :: s.env, (s.next, nilBlk e sz) :: s.sto, s.next + 1⟩
  | _ => s
def accD (r T : Nat) (f : Bool) (l : List AV) (o e sz : Nat) (s : St) : Option AV → St
  | some (.pv .nils) => ⟨s.env, (r, .cells T f (l.set o (nilAV s.next e sz))) :: (s.next, nilBlk e sz) :: s.sto, s.next + 1⟩
  | _ => s
def accB (r o e sz : Nat) (s : St) : Blk → St
  | .cells T f l => accD r T f l o e sz s l[o]?
  | _ => s
def accP (o e sz : Nat) (s : St) : AV → St
  | .ptr r b => accB r (b + o) e sz s (lookB r s.sto)
  | _ => s
def acc1 (p : Nat × Nat × Nat × Nat) (s : St) : St :=
  match p.2.1 with
  | 0 => accC p.1 p.2.2.1 p.2.2.2 s (look p.1 s.env)
  | j + 1 => accP j p.2.2.1 p.2.2.2 s (look p.1 s.env)
def accs : List (Nat × Nat × Nat × Nat) → St → St
  | [], s => s
  | p :: r, s => accs r (acc1 p s)
section
variable {P : Program} {c : Ctx} {κ0 κ : Kap} {N : Nat} {s : St} {a : Act} {w : World}
theorem acc_newN {σ0 : Store} (hS : SRel c κ σ0) {new : Nat} (hn : κ.nm new = none) (e sz : Nat) :
    Done c κ ⟨κ.w, fun r => if r = new then some (.own (.slice none 0 0)) else κ.nm r, κ.imm⟩ new ∧
    SRel c ⟨κ.w, fun r => if r = new then some (.own (.slice none 0 0)) else κ.nm r, κ.imm⟩ (Store.set σ0 new (nilBlk e sz)) ∧
    ARel ⟨κ.w, fun r => if r = new then some (.own (.slice none 0 0)) else κ.nm r, κ.imm⟩ (nilAV new e sz) (.slice none 0 0) := by
  unfold nilAV nilBlk
  split
  · exact acc_new hS hn e sz
  · exact acc_newR hS hn (e - 1000000) sz
theorem wx_new (e sz : Nat) (env : List (Nat × AV)) (sto : List (Nat × Blk))
    (henv : ∀ (κ κ' : Kap), Ext κ κ' → ARel κ' (nilAV s.next e sz) (.slice none 0 0) → ∀ (a : Act), (∀ i, ARel κ (s.E i) (a.tmps.getD i Go.undef)) → ∀ i, ARel κ' (look i env) (a.tmps.getD i Go.undef))
    (hsto : ∀ (c : Ctx) (κ' : Kap), (∀ r T f l, s.σ r = .cells T f l → r ≠ s.next) → ARel κ' (nilAV s.next e sz) (.slice none 0 0) → SRel c κ' (Store.set s.σ s.next (nilBlk e sz)) → (∀ r, s.next < r → κ'.nm r = none) → SRel c κ' (fun r => lookB r sto)) : Wx s ⟨env, sto, s.next + 1⟩ := by
  intro c κ0 κ N a w h
  obtain ⟨h1, h2, h3⟩ := acc_newN h.rel (h.fresh s.next (Nat.le_refl _)) e sz
  have hfr : ∀ r, s.next < r → (if r = s.next then some (Den.own (Value.slice none 0 0)) else κ.nm r) = none := by
    intro r hr
    rw [if_neg (by omega)]
    exact h.fresh r (by omega)
  exact ⟨_, h1.ext, h.w_eq, h.ext0.trans h1.ext, hsto c _ (fun r T f l hr hn => by
    have hB := h.rel.blk r
    rw [hr] at hB
    rcases hB with ⟨_, _, h1⟩ | ⟨b, n, cs, h1, _⟩ <;> (rw [hn, h.fresh s.next (Nat.le_refl _)] at h1; cases h1)) h3 h2 hfr, h1.left _ h.left, henv κ _ h1.ext h3 a h.env, h.size, h.defers, fun r hr => hfr r hr⟩
theorem nils_inv {v : Value} (h : ARel κ (.pv .nils) v) : v = .slice none 0 0 := by cases pv_inv h; rfl
theorem wx_accC (k e sz : Nat) (s : St) : Wx s (accC k e sz s (look k s.env)) := by
  unfold accC
  split
  · rename_i hk
    refine wx_new e sz _ _ (fun κ κ' he ho a henv i => ?_) (fun c κ' _ ho hS _ => ?_)
    · simp only [look]
      split
      · rename_i hi
        subst hi
        have := henv k
        rw [show s.E k = look k s.env from rfl, hk] at this
        rw [nils_inv this]
        exact ho
      · exact (henv i).ext he
    · have : (fun r => lookB r ((s.next, nilBlk e sz) :: s.sto)) = Store.set s.σ s.next (nilBlk e sz) := by
        funext r
        simp only [lookB, Store.set, St.σ]
        by_cases h : s.next = r
        · simp [h]
        · rw [if_neg h, if_neg (fun e => h e.symm)]
      rw [this]; exact hS
  · exact Wx.refl s
theorem cells_set {κ : Kap} {r T : Nat} {f : Bool} {l : List AV} {o : Nat} {y : AV} (h : BRel κ r (.cells T f l)) (hy : ∀ v x, l[o]? = some x → ARel κ x v → ARel κ y v) : BRel κ r (.cells T f (l.set o y)) := by
  rcases h with ⟨h1, h2, h3⟩ | ⟨b, n, cs, h1, h2, h3, h4, h7, h5, h6⟩
  · exact .inl ⟨h1, by rw [h2]; rfl, h3⟩
  refine .inr ⟨b, n, cs, h1, h2, h3, by simpa using h4, by simpa using h7, fun j x hx => ?_, h6⟩
  rw [List.getElem?_set] at hx
  split at hx
  · rename_i hj
    subst hj
    split at hx
    · rename_i hlt
      cases hx
      exact hy _ _ (List.getElem?_eq_getElem hlt) (h5 o _ (List.getElem?_eq_getElem hlt))
    · cases hx
  · exact h5 j x hx
theorem wx_accB (r o e sz : Nat) (s : St) : Wx s (accB r o e sz s (lookB r s.sto)) := by
  unfold accB
  split
  · rename_i T f l hl
    unfold accD
    split
    · rename_i ho
      refine wx_new e sz _ _ (fun κ κ' he ho a henv i => (henv i).ext he) (fun c κ' hcl hol hS hfr => ?_)
      have hr := hcl r T f l hl
      have hB := hS.blk r
      have hσr : Store.set s.σ s.next (nilBlk e sz) r = .cells T f l := by simp only [Store.set, hr, if_false]; exact hl
      rw [hσr] at hB
      have hnew : (fun q => lookB q ((r, Blk.cells T f (l.set o (nilAV s.next e sz))) :: (s.next, nilBlk e sz) :: s.sto)) = Store.set (Store.set s.σ s.next (nilBlk e sz)) r (.cells T f (l.set o (nilAV s.next e sz))) := by
        funext q
        simp only [lookB, Store.set, St.σ]
        by_cases h : r = q
        · rw [if_pos h, if_pos h.symm]
        · have h1 : ¬ q = r := fun e => h e.symm
          rw [if_neg h, if_neg h1]
          by_cases h' : s.next = q
          · have h2 : q = s.next := h'.symm
            rw [if_pos h', if_pos h2]
          · have h2 : ¬ q = s.next := fun e => h' e.symm
            rw [if_neg h', if_neg h2]
      rw [hnew]
      have hz : ∀ q, (Store.set (Store.set s.σ s.next (nilBlk e sz)) r (.cells T f (l.set o (nilAV s.next e sz)))) q ≠ .none → (Store.set s.σ s.next (nilBlk e sz)) q ≠ .none := by
        intro q hq
        by_cases h : q = r
        · subst h; rw [hσr]; simp
        · simpa [Store.set, h] using hq
      refine ⟨fun q => ?_, fun q q' d d' b' h1 h2 => hS.apart q q' d d' b' (hz q h1) (hz q' h2), fun q d b' h1 => hS.mine q d b' (hz q h1), hS.immLt, hS.glob⟩
      by_cases h : q = r
      · subst h
        simp only [Store.set, if_true]
        refine cells_set hB fun v x hx hv => ?_
        rw [ho] at hx; cases hx
        rw [nils_inv hv]; exact hol
      · have := hS.blk q
        simp only [Store.set, h, if_false] at this ⊢
        exact this
    · exact Wx.refl s
  · exact Wx.refl s
theorem wx_accP (k o e sz : Nat) (s : St) : Wx s (accP o e sz s (look k s.env)) := by
  unfold accP
  split
  · exact wx_accB _ _ _ _ s
  · exact Wx.refl s
theorem wx_acc1 (p : Nat × Nat × Nat × Nat) (s : St) : Wx s (acc1 p s) := by
  unfold acc1
  split
  · exact wx_accC _ _ _ s
  · exact wx_accP _ _ _ _ s
theorem wx_accs : ∀ (l : List (Nat × Nat × Nat × Nat)) (s : St), Wx s (accs l s)
  | [], s => Wx.refl s
  | p :: r, s => (wx_acc1 p s).trans (wx_accs r _)
inductive AVz : AV → AV → Prop
  | refl (x : AV) : AVz x x
  | any (x : AV) : AVz x .any
  | pv (p q : PV) : Nz p q → AVz (.pv p) (.pv q)
  | olist (r sz : Nat) (l k : List PV) : NzL l k → AVz (.olist r sz l) (.olist r sz k)
  | list (r sz : Nat) (l k : List PV) : NzL l k → AVz (.olist r sz l) (.pv (.list k))
inductive AVzL : List AV → List AV → Prop
  | nil : AVzL [] []
  | cons (x y : AV) (r q : List AV) : AVz x y → AVzL r q → AVzL (x :: r) (y :: q)
theorem AVz.rel {κ : Kap} {x y : AV} {v : Value} (h : AVz x y) (hr : ARel κ x v) : ARel κ y v := by
  cases h with
  | refl => exact hr
  | any => exact .any v
  | pv p q hq => exact .pv _ _ ((pv_inv hr).nz hq)
  | olist r sz l k hq =>
    cases hr with
    | olist _ _ _ _ hn hp hs =>
      refine .olist _ _ _ _ hn (hp.nz (.list _ _ hq)) fun y hy => ?_
      obtain ⟨i, hi⟩ := List.getElem?_of_mem hy
      obtain ⟨x, hx, hxy⟩ := hq.get i y hi
      rw [← hs x (List.mem_of_getElem? hx), hxy.cells.length]
  | list r sz l k hq =>
    cases hr with
    | olist _ _ _ _ hn hp hs => exact .pv _ _ (hp.nz (.list _ _ hq))
theorem AVzL.length : ∀ {l k : List AV}, AVzL l k → l.length = k.length
  | [], _, h => by cases h; rfl
  | x :: r, _, h => by cases h with | cons _ y _ q _ h2 => simp [AVzL.length h2]
theorem AVzL.get : ∀ {l k : List AV}, AVzL l k → ∀ (i : Nat) (y : AV), k[i]? = some y → ∃ x, l[i]? = some x ∧ AVz x y
  | [], _, h, i, y, hy => by cases h; simp at hy
  | x :: r, _, h, i, y, hy => by
    cases h with
    | cons _ y' _ q h1 h2 =>
      cases i with
      | zero => simp at hy; subst hy; exact ⟨x, rfl, h1⟩
      | succ i => exact AVzL.get h2 i y (by simpa using hy)
inductive AVzP : List AV → List AV → Prop
  | nil (l : List AV) : AVzP l []
  | cons (x y : AV) (r q : List AV) : AVz x y → AVzP r q → AVzP (x :: r) (y :: q)
theorem AVzP.length : ∀ {l k : List AV}, AVzP l k → k.length ≤ l.length
  | _, [], _ => Nat.zero_le _
  | _, y :: q, h => by cases h with | cons x _ r _ _ h2 => simp; exact AVzP.length h2
theorem AVzP.get : ∀ {l k : List AV}, AVzP l k → ∀ (i : Nat) (y : AV), k[i]? = some y → ∃ x, l[i]? = some x ∧ AVz x y
  | _, [], h, i, y, hy => by simp at hy
  | _, y' :: q, h, i, y, hy => by
    cases h with
    | cons x _ r _ h1 h2 =>
      cases i with
      | zero => simp at hy; subst hy; exact ⟨x, rfl, h1⟩
      | succ i => exact AVzP.get h2 i y (by simpa using hy)
theorem AVzP.of_l : ∀ {l k : List AV}, AVzL l k → AVzP l k
  | [], _, h => by cases h; exact .nil _
  | x :: r, _, h => by cases h with | cons _ y _ q h1 h2 => exact .cons _ _ _ _ h1 (AVzP.of_l h2)
theorem AVzP.app : ∀ (a b : List AV), AVzP (a ++ b) a
  | [], b => .nil _
  | x :: r, b => .cons _ _ _ _ (.refl x) (AVzP.app r b)
inductive EnvZ : List (Nat × AV) → List (Nat × AV) → Prop
  | nil : EnvZ [] []
  | cons (k : Nat) (x y : AV) (r q : List (Nat × AV)) : AVz x y → EnvZ r q → EnvZ ((k, x) :: r) ((k, y) :: q)
inductive BlkZ : Blk → Blk → Prop
  | refl (b : Blk) : BlkZ b b
  | none (b : Blk) : BlkZ b .none
  | cells (T : Nat) (f : Bool) (l k : List AV) : AVzL l k → BlkZ (.cells T f l) (.cells T f k)
  | pre (T : Nat) (f : Bool) (l k : List AV) : AVzP l k → BlkZ (.cells T f l) (.cells T false k)
inductive StoZ : List (Nat × Blk) → List (Nat × Blk) → Prop
  | nil : StoZ [] []
  | cons (k : Nat) (x y : Blk) (r q : List (Nat × Blk)) : BlkZ x y → StoZ r q → StoZ ((k, x) :: r) ((k, y) :: q)
theorem EnvZ.look : ∀ {e e' : List (Nat × AV)}, EnvZ e e' → ∀ i, AVz (look i e) (look i e')
  | [], _, h, i => by cases h; exact .refl _
  | (k, x) :: r, _, h, i => by
    cases h with
    | cons _ _ y _ q h1 h2 =>
      simp only [Go.Ab.look]
      split
      · exact h1
      · exact EnvZ.look h2 i
theorem StoZ.look : ∀ {e e' : List (Nat × Blk)}, StoZ e e' → ∀ i, BlkZ (lookB i e) (lookB i e')
  | [], _, h, i => by cases h; exact .refl _
  | (k, x) :: r, _, h, i => by
    cases h with
    | cons _ _ y _ q h1 h2 =>
      simp only [Go.Ab.lookB]
      split
      · exact h1
      · exact StoZ.look h2 i
theorem BlkZ.rel {κ : Kap} {r : Nat} {b b' : Blk} (h : BlkZ b b') (hb : BRel κ r b) : BRel κ r b' ∧ (b' ≠ .none → b ≠ .none) := by
  cases h with
  | refl => exact ⟨hb, id⟩
  | none => exact ⟨trivial, fun h => absurd rfl h⟩
  | cells T f l k hk =>
    have hlen := hk.length
    rcases hb with ⟨h1, h2, h3⟩ | ⟨b, n, cs, h1, h2, h3, h4, h7, h5, h6⟩
    · exact ⟨.inl ⟨h1, List.eq_nil_of_length_eq_zero (by rw [← hlen, h2]; rfl), h3⟩, fun _ => by simp⟩
    refine ⟨.inr ⟨b, n, cs, h1, h2, h3, by omega, fun h => by rw [← hlen]; exact h7 h, fun o y hy => ?_, h6⟩, fun _ => by simp⟩
    obtain ⟨x, hx, hxy⟩ := hk.get o y hy
    exact hxy.rel (h5 o x hx)
  | pre T f l k hk =>
    have hlen := hk.length
    rcases hb with ⟨h1, h2, h3⟩ | ⟨b, n, cs, h1, h2, h3, h4, h7, h5, h6⟩
    · exact ⟨.inl ⟨rfl, List.eq_nil_of_length_eq_zero (by rw [h2] at hlen; simpa using hlen), h3⟩, fun _ => by simp⟩
    refine ⟨.inr ⟨b, n, cs, h1, h2, h3, by omega, fun h => (by cases h), fun o y hy => ?_, h6⟩, fun _ => by simp⟩
    obtain ⟨x, hx, hxy⟩ := hk.get o y hy
    exact hxy.rel (h5 o x hx)
def StZ (s s' : St) : Prop := EnvZ s.env s'.env ∧ StoZ s.sto s'.sto ∧ s.next = s'.next
theorem EnvZ.refl : ∀ e : List (Nat × AV), EnvZ e e
  | [] => .nil
  | (k, x) :: r => .cons k x x r r (.refl x) (EnvZ.refl r)
theorem StoZ.refl : ∀ e : List (Nat × Blk), StoZ e e
  | [] => .nil
  | (k, x) :: r => .cons k x x r r (.refl x) (StoZ.refl r)
theorem AVzL.refl : ∀ e : List AV, AVzL e e
  | [] => .nil
  | x :: r => .cons x x r r (.refl x) (AVzL.refl r)
theorem StZ.wx {s t : St} (h : StZ s t) : Wx s t := by
  intro c κ0 κ N a w hR
  obtain ⟨h1, h2, h3⟩ := h
  have hz : ∀ r, t.σ r ≠ .none → s.σ r ≠ .none := fun r hr => ((h2.look r).rel (hR.rel.blk r)).2 hr
  refine ⟨κ, Ext.refl κ, hR.w_eq, hR.ext0, ⟨fun r => ((h2.look r).rel (hR.rel.blk r)).1, fun r r' d d' b k1 k2 => hR.rel.apart r r' d d' b (hz r k1) (hz r' k2), fun r d b k1 => hR.rel.mine r d b (hz r k1), hR.rel.immLt, hR.rel.glob⟩,
    hR.left, fun i => (h1.look i).rel (hR.env i), hR.size, hR.defers, fun r hr => hR.fresh r (by omega)⟩
def normA (A : List (Nat × Nat × Nat × Nat)) (m0 : Nat) (keep : List Nat) (s : St) : St := norm m0 keep (accs A s)
theorem wk_normA (A : List (Nat × Nat × Nat × Nat)) (m0 : Nat) (keep : List Nat) (s : St) : Wk m0 s (normA A m0 keep s) :=
  (Wk.of (wx_accs A s) m0).trans (Wk.norm m0 keep _)
theorem Wk.head {A : List (Nat × Nat × Nat × Nat)} {m0 : Nat} {keep : List Nat} {s t : St} (h : StZ (normA A m0 keep s) t) : Wk m0 s t :=
  (wk_normA A m0 keep s).trans (Wk.of h.wx m0)
theorem avz_self (x : AV) : AVz x x = True := eq_true (.refl x)
theorem avz_pv (p q : PV) : AVz (.pv p) (.pv q) = Nz p q := propext ⟨fun h => by cases h with | refl => exact .refl _ | pv _ _ h => exact h, .pv _ _⟩
theorem avz_list (r sz : Nat) (l k : List PV) : AVz (.olist r sz l) (.pv (.list k)) = NzL l k := propext ⟨fun h => by cases h with | list _ _ _ _ h => exact h, .list _ _ _ _⟩
theorem avzL_nil : AVzL [] [] = True := eq_true .nil
theorem avzL_cons (x y : AV) (r q : List AV) : AVzL (x :: r) (y :: q) = (AVz x y ∧ AVzL r q) := propext ⟨fun h => by cases h with | cons _ _ _ _ h1 h2 => exact ⟨h1, h2⟩, fun ⟨h1, h2⟩ => .cons _ _ _ _ h1 h2⟩
theorem envz_nil : EnvZ [] [] = True := eq_true .nil
theorem envz_cons (k : Nat) (x y : AV) (r q : List (Nat × AV)) : EnvZ ((k, x) :: r) ((k, y) :: q) = (AVz x y ∧ EnvZ r q) := propext ⟨fun h => by cases h with | cons _ _ _ _ _ h1 h2 => exact ⟨h1, h2⟩, fun ⟨h1, h2⟩ => .cons _ _ _ _ _ h1 h2⟩
theorem blkz_self (b : Blk) : BlkZ b b = True := eq_true (.refl b)
theorem blkz_t (T : Nat) (l k : List AV) : BlkZ (.cells T true l) (.cells T true k) = AVzL l k := propext ⟨fun h => by cases h with | refl => exact AVzL.refl _ | cells _ _ _ _ h => exact h, .cells _ _ _ _⟩
theorem blkz_f (T : Nat) (f : Bool) (l k : List AV) : BlkZ (.cells T f l) (.cells T false k) = AVzP l k := propext ⟨fun h => by
  cases h with
  | refl => exact AVzP.of_l (AVzL.refl _)
  | cells _ _ _ _ h => exact AVzP.of_l h
  | pre _ _ _ _ h => exact h, .pre _ _ _ _⟩
theorem blkz_n (b : Blk) : BlkZ b .none = True := eq_true (.none b)
theorem avzP_nil (l : List AV) : AVzP l [] = True := eq_true (.nil l)
theorem avzP_cons (x y : AV) (r q : List AV) : AVzP (x :: r) (y :: q) = (AVz x y ∧ AVzP r q) := propext ⟨fun h => by cases h with | cons _ _ _ _ h1 h2 => exact ⟨h1, h2⟩, fun ⟨h1, h2⟩ => .cons _ _ _ _ h1 h2⟩
theorem avzP_self (l : List AV) : AVzP l l = True := eq_true (AVzP.of_l (AVzL.refl l))
theorem avzP_app (a b : List AV) : AVzP (a ++ b) a = True := eq_true (AVzP.app a b)
theorem avzL_self (l : List AV) : AVzL l l = True := eq_true (AVzL.refl l)
theorem stoz_nil : StoZ [] [] = True := eq_true .nil
theorem stoz_cons (k : Nat) (x y : Blk) (r q : List (Nat × Blk)) : StoZ ((k, x) :: r) ((k, y) :: q) = (BlkZ x y ∧ StoZ r q) := propext ⟨fun h => by cases h with | cons _ _ _ _ _ h1 h2 => exact ⟨h1, h2⟩, fun ⟨h1, h2⟩ => .cons _ _ _ _ _ h1 h2⟩
theorem stz_eq (e e' : List (Nat × AV)) (σ σ' : List (Nat × Blk)) (n n' : Nat) : StZ ⟨e, σ, n⟩ ⟨e', σ', n'⟩ = (EnvZ e e' ∧ StoZ σ σ' ∧ n = n') := _root_.id rfl
end
end Go.Ab
set_option linter.unusedVariables false
set_option linter.unusedSimpArgs false
namespace Go.Ab
open Go Go.RowKit
inductive ARes where
  | tmp (t : Nat)
  | cell (t : Nat) (g : Bool) (sz : Nat)
structure AFn where
  N : Nat
  res : List ARes
  body : ACode
def resV (G : Nat → List PV) (s : St) : ARes → Option AV
  | .tmp t => some (s.E t)
  | .cell t g sz => rLoad G g sz s.σ (s.E t)
def resVs (G : Nat → List PV) (s : St) : List ARes → Option (List AV)
  | [] => some []
  | r :: q => match resV G s r, resVs G s q with
    | some a, some b => some (a :: b)
    | _, _ => none
def retV (l : List AV) : AV :=
  match l with
  | [v] => v
  | l => mkTup l
def retK (R : AV → List (Nat × Blk) → Nat → Prop) (s : St) (l : List AV) : Prop := R (retV l) s.sto s.next
def FnK (G : Nat → List PV) (res : List ARes) (R : AV → List (Nat × Blk) → Nat → Prop) : AExit → St → Prop
  | .norm, s => onSome (resVs G s res) (retK R s)
  | .ret, s => onSome (resVs G s res) (retK R s)
  | .exit _, _ => False
def cRes (P : Program) : ResultVar → Option ARes
  | .tmp t => some (.tmp t)
  | .cell a t => match aggOf P t, szOf P t with
    | some g, some n => some (.cell a g n)
    | _, _ => none
def cRess (P : Program) : List ResultVar → Option (List ARes)
  | [] => some []
  | r :: q => match cRes P r, cRess P q with
    | some a, some b => some (a :: b)
    | _, _ => none
def resLive : List ARes → List Nat
  | [] => []
  | .tmp t :: r => union (resLive r) [t]
  | .cell t _ _ :: r => union (resLive r) [t]
def cFn (P : Program) (muts : List Nat) (f : Nat) : Option AFn :=
  match P.funcs[f]? with
  | some fn => match fn.body with
    | some c => match cRess P fn.results.toList with
      | some rs => if Callable P f = true then match cCode P muts fn.ntmps (resLive rs) c [] (resLive rs) with
        | some (b, _) => some ⟨fn.ntmps, rs, b⟩
        | none => none
        else none
      | none => none
    | none => none
  | none => none
def initEnv (args : List AV) : List (Nat × AV) := args.zipIdx.map fun p => (p.2, p.1)
section
variable {P : Program} {G : Nat → List PV}
theorem look_init : ∀ (args : List AV) (k i : Nat), look i ((args.zipIdx k).map fun p => (p.2, p.1)) = if k ≤ i then (args[i - k]?).getD .any else .any
  | [], k, i => by simp [look]
  | x :: r, k, i => by
    rw [List.zipIdx_cons, List.map_cons, look]
    simp only
    by_cases h : k = i
    · subst h; simp
    · rw [if_neg h, look_init r (k + 1) i]
      by_cases hk : k ≤ i
      · rw [if_pos (by omega), if_pos hk, show i - k = (i - (k + 1)) + 1 by omega]; simp
      · rw [if_neg (by omega), if_neg hk]
def resOne (tmps : Array Value) : ResultVar → Sem Value
  | .tmp t => pure (tmps.getD t Go.undef)
  | .cell x t => do loadVar t (← asAddr (tmps.getD x Go.undef))
theorem results_eq (fn : Func) (tmps : Array Value) : results fn tmps = (do let vs ← fn.results.mapM (resOne tmps); pure (if h : vs.size = 1 then vs[0] else .tuple vs)) := by
  unfold results
  congr 1
theorem res_sound {c : Ctx} {κ0 κ : Kap} {N : Nat} {s : St} {a : Act} {w : World} (hR : Rel c κ0 N s a w κ) : ∀ (rv : List ResultVar) (rs : List ARes) (vs : List AV), cRess P rv = some rs → resVs c.G s rs = some vs →
    ∃ us : List Value, (rv.mapM (resOne a.tmps)).run P w = .ok us w ∧ us.length = vs.length ∧ ∀ (i : Nat) (x : AV), vs[i]? = some x → ARel κ x (us.getD i Go.undef)
  | [], rs, vs, h1, h2 => by
    simp [cRess] at h1; subst h1
    simp [resVs] at h2; subst h2
    exact ⟨[], by simp, rfl, by simp⟩
  | r :: q, rs, vs, h1, h2 => by
    simp only [cRess] at h1
    split at h1
    · rename_i ra rb hra hrb
      cases h1
      simp only [resVs] at h2
      split at h2
      · rename_i va vb hva hvb
        cases h2
        obtain ⟨us, k1, k2, k3⟩ := res_sound hR q rb vb hrb hvb
        have hw := hR.w_eq
        subst hw
        have hone : ∃ u, (resOne a.tmps r).run P κ.w = .ok u κ.w ∧ ARel κ va u := by
          cases r with
          | tmp t =>
            simp only [cRes, Option.some.injEq] at hra
            subst hra
            simp only [resV, Option.some.injEq] at hva
            subst hva
            exact ⟨_, rfl, hR.env t⟩
          | cell x t =>
            simp only [cRes] at hra
            split at hra
            · rename_i g n hg hn
              cases hra
              simp only [resV] at hva
              have hx := hR.env x
              obtain ⟨z, h3, h4⟩ := s_load (P := P) hR.rel hg hn hx hva
              refine ⟨z, ?_, h4⟩
              obtain ⟨y, hy⟩ : ∃ y, a.tmps.getD x Go.undef = y := ⟨_, rfl⟩
              rw [hy] at hx h3
              simp only [Instr.loadAt, Sem.run_bind] at h3
              have hp : ∃ ad, y = .pointer (some ad) := by
                unfold rLoad at hva
                split at hva
                · rename_i he
                  rw [he] at hx; cases hx; exact ⟨_, rfl⟩
                · rename_i he
                  rw [he] at hx; cases pv_inv hx; exact ⟨_, rfl⟩
                · rename_i he
                  rw [he] at hx; cases pv_inv hx; exact ⟨_, rfl⟩
                · cases hva
              obtain ⟨ad, rfl⟩ := hp
              simp only [resOne]
              rw [hy]
              simpa [asAddr, Instr.sureAddr] using h3
            · cases hra
        obtain ⟨u, h5, h6⟩ := hone
        refine ⟨u :: us, ?_, by simp [k2], fun i x hx => ?_⟩
        · rw [List.mapM_cons, Sem.run_bind, h5]
          simp only [Result.andThen_ok, Sem.run_bind, k1, Sem.run_pure]
        · cases i with
          | zero => simp only [List.getElem?_cons_zero, Option.some.injEq] at hx; subst hx; simpa using h6
          | succ i => simpa using k3 i x (by simpa using hx)
      · cases h2
    · cases h1
theorem TCalls.of_code {muts : List Nat} {f : Nat} {fn : AFn} {args : List AV} {sto : List (Nat × Blk)} {next : Nat} {R : AV → List (Nat × Blk) → Nat → Prop} (hc : cFn P muts f = some fn) (hn : args.length ≤ fn.N)
    (hv : ∀ (c : Ctx) (κ : Kap) (N : Nat) (a : Act) (w : World) (co : Code) (rl li : List Nat), c.G = G → (∀ r, next ≤ r → κ.nm r = none) → cCode P muts N rl co [] rl = some (fn.body, li) → Rel c κ N ⟨initEnv args, sto, next⟩ a w κ →
      co.wp P (lift c κ N (FnK G fn.res R)) a w) : TCalls P G f args sto next R := by
  unfold cFn at hc
  split at hc
  · rename_i fnc hfn
    split at hc
    · rename_i co hco
      split at hc
      · rename_i rs hrs
        split at hc
        · rename_i hok
          split at hc
          · rename_i b li hb
            cases hc
            refine ⟨hok, fun κ vals hS hf hsz hargs => ?_⟩
            refine calls_of_wp hfn hco ?_
            let c := ctxOf κ (fun r => lookB r sto) G
            have hsize : (vals ++ Array.replicate (fnc.ntmps - vals.size) Go.undef).size = fnc.ntmps := by
              simp only at hn
              simp only [Array.size_append, Array.size_replicate]; omega
            have hR : Rel c κ fnc.ntmps ⟨initEnv args, sto, next⟩ ⟨vals ++ Array.replicate (fnc.ntmps - vals.size) Go.undef, []⟩ κ.w κ := by
              refine ⟨rfl, Ext.refl κ, hS, ⟨rfl, rfl, rfl, Nat.le_refl _, fun _ _ _ => rfl, fun _ _ h => .inl h⟩, fun i => ?_, hsize, rfl, hf⟩
              show ARel κ (look i ((args.zipIdx 0).map fun p => (p.2, p.1))) _
              rw [look_init, if_pos (Nat.zero_le _), Nat.sub_zero]
              cases hx : args[i]? with
              | none => exact .any _
              | some x =>
                have hi : i < vals.size := by rw [hsz]; exact (List.getElem?_eq_some_iff.1 hx).1
                have := hargs i x hx
                have e : (vals ++ Array.replicate (fnc.ntmps - vals.size) Go.undef).getD i Go.undef = vals.getD i Go.undef := by
                  simp only [Array.getD_eq_getD_getElem?]
                  rw [Array.getElem?_append_left hi]
                rw [e]; exact this
            refine Code.wp_mono ?_ (hv c κ fnc.ntmps _ κ.w co (resLive rs) li rfl hf hb hR)
            have fin : ∀ (s : St) (κ' : Kap) (a : Act) (w : World), Rel c κ fnc.ntmps s a w κ' → onSome (resVs G s rs) (retK R s) → a.defers = [] ∧ ∃ v, (results fnc a.tmps).run P w = .ok v w ∧
                ∃ u v' κ'' sto' next', Ending.returned v = .returned u ∧ κ''.w = w ∧ Ext κ κ'' ∧ Left c κ.imm κ'' ∧ ARel κ'' v' u ∧ SRel c κ'' (fun r => lookB r sto') ∧ (∀ r, next' ≤ r → κ''.nm r = none) ∧ R v' sto' next' := by
              intro s κ' a w hR hF
              refine ⟨hR.defers, ?_⟩
              simp only [onSome] at hF
              split at hF
              · rename_i vs hvs
                obtain ⟨us, h1, h2, h3⟩ := res_sound (P := P) hR fnc.results.toList rs vs hrs hvs
                have hrun : (results fnc a.tmps).run P w = .ok (if h : us.toArray.size = 1 then us.toArray[0] else .tuple us.toArray) w := by
                  rw [results_eq, Sem.run_bind, Array.mapM_eq_mapM_toList]
                  simp only [Sem.run_bind, Sem.run_map]
                  rw [h1]
                  simp
                refine ⟨_, hrun, _, retV vs, κ', s.sto, s.next, rfl, hR.w_eq, hR.ext0, hR.left, ?_, hR.rel, hR.fresh, hF⟩
                by_cases hl : vs.length = 1
                · obtain ⟨v, rfl⟩ := List.length_eq_one_iff.1 hl
                  obtain ⟨u, rfl⟩ := List.length_eq_one_iff.1 (h2.trans hl)
                  have := h3 0 v rfl
                  exact this
                · have hul : ¬ us.toArray.size = 1 := by simpa [h2] using hl
                  rw [dif_neg hul]
                  have hrv : retV vs = mkTup vs := by
                    unfold retV
                    split
                    · simp at hl
                    · rfl
                  rw [hrv]
                  exact mkTup_rel (.tup _ _ (by simpa using h2) (fun i x hx => by rw [getD_toList]; simpa using h3 i x hx))
              · exact hF.elim
            intro e a w hq
            cases e with
            | normal =>
              obtain ⟨s, κ', hR, hF⟩ := hq
              exact fin s κ' a w hR hF
            | ret =>
              obtain ⟨s, κ', hR, hF⟩ := hq
              exact fin s κ' a w hR hF
            | exit id =>
              obtain ⟨s, κ', hR, hF⟩ := hq
              exact hF.elim
            | goto l => exact hq.elim
            | panic ch => exact hq.elim
            | outgrown => exact hq.elim
          · cases hc
        · cases hc
      · cases hc
    · cases hc
  · cases hc
theorem TCalls.intro {muts : List Nat} {f : Nat} {fn : AFn} {args : List AV} {sto : List (Nat × Blk)} {next : Nat} {R : AV → List (Nat × Blk) → Nat → Prop} (hc : cFn P muts f = some fn) (hn : args.length ≤ fn.N)
    (hv : vc P G next fn.body (FnK G fn.res R) ⟨initEnv args, sto, next⟩) : TCalls P G f args sto next R :=
  TCalls.of_code hc hn fun c κ N a w co rl li hG hf hb hR => vc_sound (P := P) (c := c) (κ0 := κ) (N := N) hf co fn.body [] rl li (FnK G fn.res R) _ a w κ hb hR (by rw [hG]; exact hv)
def isR (r : PV) (σ : List (Nat × Blk)) (v : AV) : Prop := ∃ q, frzV (fun r => lookB r σ) v = some q ∧ Nz q.1 r
theorem Pure.of_tcalls {f : Nat} {args : List PV} {r : PV} (h : TCalls P G f (args.map .pv) [] 0 fun v σ _ => isR r σ v) : Pure P G f args r := by
  obtain ⟨hcal, h⟩ := h
  refine ⟨hcal, fun w imm vals hG hlt hsz hargs => ?_⟩
  have hl : (fun r => lookB r ([] : List (Nat × Blk))) = fun _ => Blk.none := by funext r; rfl
  refine (h ⟨w, fun _ => none, imm⟩ vals ?_ (fun _ _ => rfl) (by simpa using hsz) (fun i x hx => ?_)).mono ?_
  · refine ⟨fun r => trivial, fun r r' d d' b h1 => absurd rfl h1, fun r d b h1 => absurd rfl h1, hlt, hG.1, fun g hg => ?_⟩
    obtain ⟨cs, T, fz, h1, h2⟩ := hG.2 g hg
    refine ⟨(Array.getElem?_eq_some_iff.1 h1).1, ?_, cs, T, fz, h1, h2⟩
    rintro ⟨r, d, h1, _⟩
    exact h1 rfl
  · simp only [List.getElem?_map, Option.map_eq_some_iff] at hx
    obtain ⟨q, hq, rfl⟩ := hx
    exact .pv _ _ (hargs i q hq)
  · rintro e w' ⟨u, v, κ', sto', next', rfl, rfl, he, hL, hv, hS, hf, q, hq, hqr⟩
    have hlent : ∀ b, ¬ (ctxOf ⟨w, fun _ => none, imm⟩ (fun r => lookB r ([] : List (Nat × Blk))) G).lent b := by
      rintro b ⟨r, d, h1, _⟩
      exact h1 rfl
    obtain ⟨h1, h2⟩ := frzV_rel hS hv hq
    obtain ⟨h3, h4⟩ := frz_step hS q.2 h1 next'
    have hL' := h3.left _ hL
    refine ⟨u, (frzK κ' (fun r => lookB r sto') q.2).imm, rfl, ⟨hL.os, hL.tape, hL.output, hL.size, fun k hk => hL.block k hk (hlent k)⟩, fun b o hi => h3.ext.imm _ _ (he.imm _ _ hi), fun b o hi => ?_, h4.immLt, h2.nz hqr⟩
    rcases hL'.imm b o hi with h1 | h1 | h1
    · exact .inl h1
    · exact .inr h1
    · exact absurd h1 (hlent b)
def pureR (r : PV) (v : AV) (σ : List (Nat × Blk)) (_ : Nat) : Prop := isR r σ v
theorem isR_of {r : PV} {σ : List (Nat × Blk)} {v : AV} (h : v.toPV = some r) : isR r σ v := by
  cases v with
  | pv p => simp only [AV.toPV, Option.some.injEq] at h; subst h; exact ⟨(p, []), rfl, .refl p⟩
  | olist a b l => simp only [AV.toPV, Option.some.injEq] at h; subst h; exact ⟨(.list l, []), rfl, .refl _⟩
  | _ => simp [AV.toPV] at h
theorem Pure.intro {muts : List Nat} {f : Nat} {fn : AFn} {args : List PV} {r : PV} (hc : cFn P muts f = some fn) (hn : args.length ≤ fn.N)
    (hv : vc P G 0 fn.body (FnK G fn.res (pureR r)) ⟨initEnv (args.map .pv), [], 0⟩) : Pure P G f args r :=
  Pure.of_tcalls (TCalls.intro hc (by simpa using hn) hv)
theorem Pure.nz {f : Nat} {qs ps : List PV} {r : PV} (h : Pure P G f ps r) (hz : NzL qs ps) : Pure P G f qs r := by
  obtain ⟨h1, h2⟩ := h
  refine ⟨h1, fun w imm vals hG hlt hsz hargs => h2 w imm vals hG hlt (by rw [hsz, hz.length]) fun i x hx => ?_⟩
  obtain ⟨y, hy, hyx⟩ := hz.get i x hx
  exact (hargs i y hy).nz hyx
theorem ACall.pure {f : Nat} {args : List AV} {ps : List PV} {r : PV} {s : St} {K : AV → St → Prop} (h : Pure P G f ps r) (he : pvs args = some ps) (hk : K (.pv r) s) : ACall P G f args s K :=
  ⟨s, args, WkC.refl s args, .inl ⟨ps, r, he, h, hk⟩⟩
theorem ACall.lent {f : Nat} {args : List AV} {s : St} {K : AV → St → Prop} {Q : AV → List (Nat × Blk) → Nat → Prop} (h : TCalls P G f args s.sto s.next Q) (hk : ∀ v sto' next', Q v sto' next' → K v ⟨s.env, sto', next'⟩) : ACall P G f args s K :=
  ⟨s, args, WkC.refl s args, .inr ⟨Q, h, hk⟩⟩
theorem loopC.intro {body : (AExit → St → Prop) → St → Prop} {m0 : Nat} {keep : List Nat} {Q : AExit → St → Prop} {s : St} (I : Nat → St → Prop) (n : Nat) (h0 : I n (norm m0 keep s)) (h : ∀ n s, I n s → body (LoopK m0 I n Q) s) : loopC body m0 keep Q s :=
  ⟨I, ⟨n, _, Wk.norm m0 keep s, h0⟩, h⟩
end
end Go.Ab
set_option linter.unusedVariables false
set_option linter.unusedSimpArgs false
namespace Go.Ab
open Go Go.RowKit
section
variable {P : Program} {G : Nat → List PV}
theorem onSome_mono {α : Type} {x : Option α} {k k' : α → Prop} (h : ∀ a, k a → k' a) (hx : onSome x k) : onSome x k' := by
  cases x with
  | none => exact hx
  | some a => exact h a hx
theorem ACall.mono {f : Nat} {args : List AV} {s : St} {K K' : AV → St → Prop} (h : ∀ v s, K v s → K' v s) (hA : ACall P G f args s K) : ACall P G f args s K' := by
  obtain ⟨s', args', hw, ⟨ps, r, h1, h2, h3⟩ | ⟨Q, h1, h2⟩⟩ := hA
  · exact ⟨s', args', hw, .inl ⟨ps, r, h1, h2, h _ _ h3⟩⟩
  · exact ⟨s', args', hw, .inr ⟨Q, h1, fun v sto n hq => h _ _ (h2 v sto n hq)⟩⟩
theorem doOp_mono {F F' : St → Prop} (h : ∀ s, F s → F' s) {s : St} {d : Option Nat} {o : AOp} (hx : doOp P G F s d o) : doOp P G F' s d o := by
  cases o with
  | t o =>
    simp only [doOp, onSomeN] at hx ⊢
    split
    · rename_i v hv
      rw [hv] at hx; exact h _ hx
    · rename_i hv
      rw [hv] at hx
      exact ⟨hx.1, fun b => h _ (hx.2 b)⟩
  | m o => exact onSome_mono (fun v hv => h _ hv) hx
  | fz g x => exact onSome_mono (fun v hv => h _ hv) hx
  | call f xs => exact onSome_mono (fun p hp => ACall.mono (fun v s hv => h _ hv) hp) hx
theorem doIf_mono {F F' : St → Prop} (h : ∀ s, F s → F' s) {s : St} {d : Option Nat} {o : AOp} {b : Bool} (hx : doIf P G F s d o b) : doIf P G F' s d o b := by
  cases b with
  | true => exact doOp_mono h hx
  | false => exact h _ hx
theorem vcOps_mono {F F' : St → Prop} (h : ∀ s, F s → F' s) : ∀ (l : List AOper) (s : St), vcOps P G l F s → vcOps P G l F' s
  | [], s, hx => h s hx
  | o :: r, s, hx => onSome_mono (fun b hb => doIf_mono (fun s hs => vcOps_mono h r s hs) hb) hx
theorem callDL_mono {F F' : List (List Nat × List Nat) → St → Prop} (h : ∀ T s, F T s → F' T s) {T : List (List Nat × List Nat)} {s : St} {d : Option Nat} {args : List AV} {p : Nat × List AV × List AV} (hx : callDL P G F T s d args p) : callDL P G F' T s d args p := by
  unfold callDL callD at hx ⊢
  rcases hx with ⟨ps, r, h1, h2, h3⟩ | ⟨v, δ, top, h1, h2, h3⟩
  · exact .inl ⟨ps, r, h1, h2, h _ _ h3⟩
  · exact .inr ⟨v, δ, top, h1, h2, h _ _ h3⟩
theorem doOpD_mono {F F' : List (List Nat × List Nat) → St → Prop} (h : ∀ T s, F T s → F' T s) {T : List (List Nat × List Nat)} {s : St} {d : Option Nat} {o : AOp} (hx : doOpD P G F T s d o) : doOpD P G F' T s d o := by
  cases o with
  | t o => exact onSome_mono (fun v hv => h _ _ hv) hx
  | m o => exact onSome_mono (fun v hv => h _ _ hv) hx
  | fz g x => exact hx
  | call f xs => exact onSome_mono (fun p hp => callDL_mono h hp) hx
theorem vcD_mono {A : List (List Nat)} {F F' : St → Prop} (h : ∀ s, F s → F' s) : ∀ (l : List AOper) (T : List (List Nat × List Nat)) (s : St), vcD P G A F l T s → vcD P G A F' l T s
  | [], T, s, hx => ⟨hx.1, h s hx.2⟩
  | o :: r, T, s, hx => by
    refine onSome_mono (fun b hb => ?_) hx
    cases b with
    | true => exact doOpD_mono (fun T s hs => vcD_mono h r T s hs) hb
    | false => exact vcD_mono h r _ _ hb
theorem vc_mono {m0 : Nat} : ∀ (c : ACode) {Q Q' : AExit → St → Prop} (h : ∀ e s, Q e s → Q' e s) (s : St), vc P G m0 c Q s → vc P G m0 c Q' s
  | .skip, Q, Q', h, s, hx => h _ _ hx
  | .ops l keep, Q, Q', h, s, hx => vcOps_mono (fun s hs => h _ _ hs) l s hx
  | .draw A l l2 keep, Q, Q', h, s, hx => vcD_mono (fun s hs => vcOps_mono (fun s hs => h _ _ hs) l2 s hs) l [] s hx
  | .seq a b, Q, Q', h, s, hx => vc_mono a (fun e s hs => by
      cases e with
      | norm => exact vc_mono b h s hs
      | exit i => exact h _ _ hs
      | ret => exact h _ _ hs) s hx
  | .cond x a b, Q, Q', h, s, hx => by
    simp only [vc] at hx ⊢
    unfold onBool at hx ⊢
    split at hx
    · exact vc_mono a h s hx
    · exact vc_mono b h s hx
    · exact hx
  | .block id b, Q, Q', h, s, hx => vc_mono b (fun e s hs => by
      cases e with
      | norm => exact h _ _ hs
      | exit i =>
        simp only [BlockK] at hs ⊢
        split at hs
        · rename_i hi; rw [if_pos hi]; exact h _ _ hs
        · rename_i hi; rw [if_neg hi]; exact h _ _ hs
      | ret => exact h _ _ hs) s hx
  | .loop keep b, Q, Q', h, s, hx => by
    obtain ⟨I, h0, h1⟩ := hx
    refine ⟨I, h0, fun n s hs => vc_mono b (fun e s hs => ?_) s (h1 n s hs)⟩
    cases e with
    | norm => exact hs
    | exit i =>
      obtain ⟨s', hw, hq⟩ := hs
      exact ⟨s', hw, h _ _ hq⟩
    | ret => exact h _ _ hs
  | .exit id, Q, Q', h, s, hx => h _ _ hx
  | .ret, Q, Q', h, s, hx => h _ _ hx
end
end Go.Ab
