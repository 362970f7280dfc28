/- A program logic over the model: part 5 (a proof is built on it; nothing of the statement is said here). -/
import Derived.Lib.Join
import Derived.Lib.ItoaNum
import Derived.Lib.LaidTab
import Derived.Lib.AppendIntMem
import Derived.Lib.Strings
import Derived.Lib.Bytealg
import Derived.Lib.ValidLaws
import Derived.ChangeShapes
import Derived.ProofKit
import Derived.OpenShut
import Derived.ShutString
import Derived.ChangeOld
import Derived.Carry
import Derived.WideShapes
import Derived.Deep.DeepHandedRow
import Derived.Lib.LaidU8T
import Derived.Test.YtikmckfppnmlnaaDoorCore4
set_option linter.unusedVariables false
set_option linter.unusedSimpArgs false
namespace Go.Ab
open Go Go.RowKit
abbrev CallX := Nat → List AV → List (Nat × Blk) → Nat → Option (AV × List (Nat × Blk) × Nat)
def exOp (call : CallX) (G : Nat → List PV) (s : St) (d : Option Nat) : AOp → Option St
  | .t o => match o.run s.E with
    | some v => some (s.put d v)
    | none => none
  | .m o => match o.run G s.next s.E s.σ with
    | some p => some ((s.mem p.2).put d p.1)
    | none => none
  | .call f xs => match cloOf (f.ev s.E) with
    | some p => match call p.1 (p.2.1 ++ xs.map (·.ev s.E) ++ p.2.2) s.sto s.next with
      | some r => some ((⟨s.env, r.2.1, r.2.2⟩ : St).put d r.1)
      | none => none
    | none => none
  | .fz g x => match fRun G s.σ g (x.ev s.E) with
    | some p => some ((s.mem p.2).put d p.1)
    | none => none
def exOps (call : CallX) (G : Nat → List PV) : List AOper → St → Option St
  | [], s => some s
  | o :: r, s => match wantedA s o.guard with
    | some true => match exOp call G s o.dst o.op with
      | some s' => exOps call G r s'
      | none => none
    | some false => exOps call G r (s.put o.dst (.pv .undef))
    | none => none
def pcall (call : CallX) (f : Nat) (ps : List PV) : Option PV :=
  match call f (ps.map .pv) [] 0 with
  | some r => r.1.toPV
  | none => none
def exCallD (call : CallX) (s : St) (d : Option Nat) (f : Nat) (args : List AV) : Option (St × List Nat × List Nat) :=
  match pvs args with
  | some ps => match pcall call f ps with
    | some r => some (s.put d (.pv r), [], [])
    | none => none
  | none => match call f args s.sto s.next with
    | some r => some ((⟨s.env, r.2.1, r.2.2⟩ : St).put d r.1, rowT 2 (keysL (r.2.1.take (r.2.1.length - s.sto.length)).reverse) (s.sto.map (·.1)))
    | none => none
def exOpD (call : CallX) (G : Nat → List PV) (s : St) (d : Option Nat) : AOp → Option (St × List Nat × List Nat)
  | .t o => match o.run s.E with
    | some v => some (s.put d v, [], [])
    | none => none
  | .m o => match o.run G s.next s.E s.σ with
    | some p => some ((s.mem p.2).put d p.1, rowT (makesN o) (keysL p.2) (o.reads s.E))
    | none => none
  | .call f xs => match cloOf (f.ev s.E) with
    | some p => exCallD call s d p.1 (p.2.1 ++ xs.map (·.ev s.E) ++ p.2.2)
    | none => none
  | .fz _ _ => none
def exD (call : CallX) (G : Nat → List PV) (A : List (List Nat)) : List AOper → List (List Nat × List Nat) → St → Option St
  | [], T, s => match okB A T with
    | true => some s
    | false => none
  | o :: r, T, s => match wantedA s o.guard with
    | some true => match exOpD call G s o.dst o.op with
      | some q => exD call G A r (T ++ [q.2]) q.1
      | none => none
    | some false => exD call G A r (T ++ [([], [])]) (s.put o.dst (.pv .undef))
    | none => none
def exC (call : CallX) (G : Nat → List PV) : Nat → ACode → St → Option (AExit × St)
  | 0, _, _ => none
  | _ + 1, .skip, s => some (.norm, s)
  | _ + 1, .ops l keep, s => match exOps call G l s with
    | some s' => some (.norm, clip0 keep s')
    | none => none
  | _ + 1, .draw A l l2 keep, s => match exD call G A l [] s with
    | some s1 => match exOps call G l2 s1 with
      | some s' => some (.norm, clip0 keep s')
      | none => none
    | none => none
  | n + 1, .seq a b, s => match exC call G n a s with
    | some (.norm, s') => exC call G n b s'
    | some (.exit i, s') => some (.exit i, s')
    | some (.ret, s') => some (.ret, s')
    | none => none
  | n + 1, .cond x a b, s => match x.ev s.E with
    | .pv (.bool true) => exC call G n a s
    | .pv (.bool false) => exC call G n b s
    | _ => none
  | n + 1, .block id b, s => match exC call G n b s with
    | some (.norm, s') => some (.norm, s')
    | some (.exit i, s') => if i = id then some (.norm, s') else some (.exit i, s')
    | some (.ret, s') => some (.ret, s')
    | none => none
  | n + 1, .loop keep b, s => match exC call G n b s with
    | some (.norm, s') => exC call G n (.loop keep b) s'
    | some (.exit i, s') => some (.exit i, s')
    | some (.ret, s') => some (.ret, s')
    | none => none
  | _ + 1, .exit id, s => some (.exit id, s)
  | _ + 1, .ret, s => some (.ret, s)
structure TabRow where
  f : Nat
  muts : List Nat
  fn : AFn
def lookF (f : Nat) : List TabRow → Option AFn
  | [] => none
  | r :: q => if r.f = f then some r.fn else lookF f q
def outOf (G : Nat → List PV) (fn : AFn) (s : St) : Option (AV × List (Nat × Blk) × Nat) :=
  match resVs G s fn.res with
  | some l => some (retV l, s.sto, s.next)
  | none => none
def exF (tab : List TabRow) (O : Nat → List PV → Option PV) (G : Nat → List PV) (m : Nat) : Nat → CallX
  | 0, _, _, _, _ => none
  | n + 1, f, args, sto, next => match (pvs args).bind (O f) with
    | some r => some (.pv r, sto, next)
    | none => match lookF f tab with
      | some fn => if args.length ≤ fn.N then match exC (exF tab O G m n) G m fn.body ⟨initEnv args, sto, next⟩ with
          | some (.norm, s) => outOf G fn s
          | some (.ret, s) => outOf G fn s
          | _ => none
        else none
      | none => none
section
variable {P : Program} {G : Nat → List PV}
def Grows (sto : List (Nat × Blk)) (next : Nat) (sto' : List (Nat × Blk)) (next' : Nat) : Prop := (∃ pre, sto' = pre ++ sto) ∧ next ≤ next'
theorem Grows.refl (sto : List (Nat × Blk)) (next : Nat) : Grows sto next sto next := ⟨⟨[], rfl⟩, Nat.le_refl _⟩
theorem Grows.trans {a b c : List (Nat × Blk)} {i j k : Nat} (h : Grows a i b j) (g : Grows b j c k) : Grows a i c k := by
  obtain ⟨⟨p, rfl⟩, h2⟩ := h
  obtain ⟨⟨q, rfl⟩, g2⟩ := g
  exact ⟨⟨q ++ p, by simp⟩, Nat.le_trans h2 g2⟩
theorem updB_eq : ∀ (δ l : List (Nat × Blk)), updB l δ = δ.reverse ++ l
  | [], l => rfl
  | p :: r, l => by rw [updB, updB_eq r]; simp
theorem Grows.put {s : St} {sto' : List (Nat × Blk)} {n : Nat} {e : List (Nat × AV)} (h : Grows s.sto s.next sto' n) (d : Option Nat) (v : AV) : Grows s.sto s.next ((⟨e, sto', n⟩ : St).put d v).sto ((⟨e, sto', n⟩ : St).put d v).next := by
  cases d <;> exact h
theorem Grows.mem (s : St) (δ : List (Nat × Blk)) (d : Option Nat) (v : AV) : Grows s.sto s.next ((s.mem δ).put d v).sto ((s.mem δ).put d v).next := by
  have : Grows s.sto s.next (updB s.sto δ) (s.next + 1) := ⟨⟨δ.reverse, updB_eq δ s.sto⟩, Nat.le_succ _⟩
  cases d <;> exact this
theorem Grows.put0 (s : St) (d : Option Nat) (v : AV) : Grows s.sto s.next (s.put d v).sto (s.put d v).next := by
  cases d <;> exact Grows.refl _ _
def CallOk (P : Program) (G : Nat → List PV) (call : CallX) : Prop :=
  ∀ f args sto next v sto' next', call f args sto next = some (v, sto', next') → Grows sto next sto' next' ∧ (
    (∃ ps r, pvs args = some ps ∧ Pure P G f ps r ∧ v = .pv r ∧ sto' = sto ∧ next' = next) ∨ TCalls P G f args sto next (fun v' s' n' => v' = v ∧ s' = sto' ∧ n' = next'))
theorem TCalls.mono {f : Nat} {args : List AV} {sto : List (Nat × Blk)} {next : Nat} {Q Q' : AV → List (Nat × Blk) → Nat → Prop} (h : TCalls P G f args sto next Q) (hq : ∀ v s n, Q v s n → Q' v s n) : TCalls P G f args sto next Q' := by
  obtain ⟨h1, h2⟩ := h
  refine ⟨h1, fun κ vals a1 a2 a3 a4 => (h2 κ vals a1 a2 a3 a4).mono ?_⟩
  rintro e w' ⟨u, v, κ', sto', next', b1, b2, b3, b4, b5, b6, b7, b8⟩
  exact ⟨u, v, κ', sto', next', b1, b2, b3, b4, b5, b6, b7, hq _ _ _ b8⟩
theorem pcall_ok {call : CallX} (hc : CallOk P G call) {f : Nat} {ps : List PV} {r : PV} (h : pcall call f ps = some r) : Pure P G f ps r := by
  unfold pcall at h
  split at h
  · rename_i q hq
    obtain ⟨v, sto', next'⟩ := q
    rcases (hc f _ _ _ v sto' next' hq).2 with ⟨ps', r', h1, h2, rfl, _, _⟩ | ht
    · rw [pvs_map] at h1
      cases h1
      simp only [AV.toPV, Option.some.injEq] at h
      subst h; exact h2
    · exact Pure.of_tcalls (ht.mono (by rintro v' _ _ ⟨rfl, _, _⟩; exact isR_of h))
  · cases h
theorem exOp_ok {call : CallX} (hc : CallOk P G call) {s s' : St} {d : Option Nat} {o : AOp} {F : St → Prop} (h : exOp call G s d o = some s') (hF : F s') : doOp P G F s d o := by
  cases o with
  | t o =>
    simp only [exOp] at h
    split at h
    · rename_i v hv
      cases h
      simp only [doOp, hv, onSomeN]; exact hF
    · cases h
  | m o =>
    simp only [exOp] at h
    split at h
    · rename_i v hv
      cases h
      simp only [doOp, hv, onSome]; exact hF
    · cases h
  | fz g x =>
    simp only [exOp] at h
    split at h
    · rename_i v hv
      cases h
      simp only [doOp, hv, onSome]; exact hF
    · cases h
  | call f xs =>
    simp only [exOp] at h
    split at h
    · rename_i p hp
      split at h
      · rename_i r hr
        cases h
        obtain ⟨v, sto', next'⟩ := r
        simp only [doOp, hp, onSome, callC]
        rcases (hc _ _ _ _ v sto' next' hr).2 with ⟨ps, r, h1, h2, rfl, rfl, rfl⟩ | ht
        · exact ACall.pure h2 h1 hF
        · exact ACall.lent ht (by rintro v' s' n' ⟨rfl, rfl, rfl⟩; exact hF)
      · cases h
    · cases h
theorem exOps_ok {call : CallX} (hc : CallOk P G call) {F : St → Prop} : ∀ (l : List AOper) (s s' : St), exOps call G l s = some s' → F s' → vcOps P G l F s
  | [], s, s', h, hF => by simp only [exOps, Option.some.injEq] at h; subst h; exact hF
  | o :: r, s, s', h, hF => by
    simp only [exOps] at h
    simp only [vcOps]
    split at h
    · rename_i hw
      rw [hw]
      split at h
      · rename_i s1 h1
        exact exOp_ok hc h1 (exOps_ok hc r s1 s' h hF)
      · cases h
    · rename_i hw
      rw [hw]
      exact exOps_ok hc r _ s' h hF
    · cases h
theorem exD_ok {call : CallX} (hc : CallOk P G call) {A : List (List Nat)} {F : St → Prop} : ∀ (l : List AOper) (T : List (List Nat × List Nat)) (s s' : St), exD call G A l T s = some s' → F s' → vcD P G A F l T s
  | [], T, s, s', h, hF => by
    simp only [exD] at h
    split at h
    · rename_i ho
      cases h
      exact ⟨ho, hF⟩
    · cases h
  | o :: r, T, s, s', h, hF => by
    simp only [exD] at h
    simp only [vcD]
    split at h
    · rename_i hw
      rw [hw]
      simp only [onSome, doIfD]
      split at h
      · rename_i q h1
        obtain ⟨d, op, g⟩ := o
        simp only at h1 ⊢
        cases op with
        | t o =>
          simp only [exOpD] at h1
          split at h1
          · rename_i v hv
            cases h1
            simp only [doOpD, hv, onSome, stepT]
            exact exD_ok hc r _ _ s' h hF
          · cases h1
        | m o =>
          simp only [exOpD] at h1
          split at h1
          · rename_i v hv
            cases h1
            simp only [doOpD, hv, onSome, stepM]
            exact exD_ok hc r _ _ s' h hF
          · cases h1
        | fz g x => simp [exOpD] at h1
        | call f xs =>
          simp only [exOpD] at h1
          split at h1
          · rename_i p hp
            simp only [doOpD, hp, onSome]
            unfold exCallD at h1
            split at h1
            · rename_i ps hps
              split at h1
              · rename_i v hv
                cases h1
                exact .inl ⟨ps, v, hps, pcall_ok hc hv, exD_ok hc r _ _ s' h hF⟩
              · cases h1
            · rename_i hps
              split at h1
              · rename_i v hv
                cases h1
                obtain ⟨v, sto', next'⟩ := v
                obtain ⟨⟨⟨pre, hpre⟩, hle⟩, ⟨ps', r', k1, _⟩ | ht⟩ := hc _ _ _ _ v sto' next' hv
                · rw [hps] at k1; cases k1
                · have e1 : updB s.sto (sto'.take (sto'.length - s.sto.length)).reverse = sto' := by
                    rw [updB_eq, List.reverse_reverse, hpre]
                    simp
                  refine .inr ⟨v, (sto'.take (sto'.length - s.sto.length)).reverse, next', ?_, hle, ?_⟩
                  · rw [e1]; exact ht
                  · rw [e1]; exact exD_ok hc r _ _ s' h hF
              · cases h1
          · cases h1
      · cases h
    · rename_i hw
      rw [hw]
      exact exD_ok hc r _ _ s' h hF
    · cases h
theorem exOp_grows {call : CallX} (hc : CallOk P G call) {s s' : St} {d : Option Nat} {o : AOp} (h : exOp call G s d o = some s') : Grows s.sto s.next s'.sto s'.next := by
  cases o with
  | t o =>
    simp only [exOp] at h
    split at h
    · cases h; exact Grows.put0 _ _ _
    · cases h
  | m o =>
    simp only [exOp] at h
    split at h
    · cases h; exact Grows.mem _ _ _ _
    · cases h
  | fz g x =>
    simp only [exOp] at h
    split at h
    · cases h; exact Grows.mem _ _ _ _
    · cases h
  | call f xs =>
    simp only [exOp] at h
    split at h
    · split at h
      · rename_i r hr
        cases h
        obtain ⟨v, sto', next'⟩ := r
        exact Grows.put (hc _ _ _ _ v sto' next' hr).1 _ _
      · cases h
    · cases h
theorem exOps_grows {call : CallX} (hc : CallOk P G call) : ∀ (l : List AOper) (s s' : St), exOps call G l s = some s' → Grows s.sto s.next s'.sto s'.next
  | [], s, s', h => by simp only [exOps, Option.some.injEq] at h; subst h; exact Grows.refl _ _
  | o :: r, s, s', h => by
    simp only [exOps] at h
    split at h
    · split at h
      · rename_i s1 h1
        exact (exOp_grows hc h1).trans (exOps_grows hc r s1 s' h)
      · cases h
    · exact (Grows.put0 s _ _).trans (exOps_grows hc r _ s' h)
    · cases h
theorem exOpD_grows {call : CallX} (hc : CallOk P G call) {s : St} {d : Option Nat} {o : AOp} {q : St × List Nat × List Nat} (h : exOpD call G s d o = some q) : Grows s.sto s.next q.1.sto q.1.next := by
  cases o with
  | t o =>
    simp only [exOpD] at h
    split at h
    · cases h; exact Grows.put0 _ _ _
    · cases h
  | m o =>
    simp only [exOpD] at h
    split at h
    · cases h; exact Grows.mem _ _ _ _
    · cases h
  | fz g x => simp [exOpD] at h
  | call f xs =>
    simp only [exOpD] at h
    split at h
    · unfold exCallD at h
      split at h
      · split at h
        · cases h; exact Grows.put0 _ _ _
        · cases h
      · split at h
        · rename_i r hr
          cases h
          obtain ⟨v, sto', next'⟩ := r
          exact Grows.put (hc _ _ _ _ v sto' next' hr).1 _ _
        · cases h
    · cases h
theorem exD_grows {call : CallX} (hc : CallOk P G call) {A : List (List Nat)} : ∀ (l : List AOper) (T : List (List Nat × List Nat)) (s s' : St), exD call G A l T s = some s' → Grows s.sto s.next s'.sto s'.next
  | [], T, s, s', h => by
    simp only [exD] at h
    split at h
    · cases h; exact Grows.refl _ _
    · cases h
  | o :: r, T, s, s', h => by
    simp only [exD] at h
    split at h
    · split at h
      · rename_i q h1
        exact (exOpD_grows hc h1).trans (exD_grows hc r _ _ s' h)
      · cases h
    · exact (Grows.put0 s _ _).trans (exD_grows hc r _ _ s' h)
    · cases h
theorem exC_grows {call : CallX} (hc : CallOk P G call) : ∀ (n : Nat) (ac : ACode) (s : St) (e : AExit) (s' : St), exC call G n ac s = some (e, s') → Grows s.sto s.next s'.sto s'.next
  | 0, _, _, _, _, h => by simp [exC] at h
  | n + 1, ac, s, e, s', h => by
    have ih := exC_grows hc n
    cases ac with
    | skip => simp only [exC, Option.some.injEq, Prod.mk.injEq] at h; obtain ⟨_, rfl⟩ := h; exact Grows.refl _ _
    | exit i => simp only [exC, Option.some.injEq, Prod.mk.injEq] at h; obtain ⟨_, rfl⟩ := h; exact Grows.refl _ _
    | ret => simp only [exC, Option.some.injEq, Prod.mk.injEq] at h; obtain ⟨_, rfl⟩ := h; exact Grows.refl _ _
    | ops l k =>
      simp only [exC] at h
      split at h
      · rename_i s1 h1; cases h; exact exOps_grows hc l s s1 h1
      · cases h
    | draw A l l2 k =>
      simp only [exC] at h
      split at h
      · rename_i s1 h1
        split at h
        · rename_i s2 h2; cases h; exact (exD_grows hc l [] s s1 h1).trans (exOps_grows hc l2 s1 s2 h2)
        · cases h
      · cases h
    | seq a b =>
      simp only [exC] at h
      split at h
      · rename_i s1 h1; exact (ih _ _ _ _ h1).trans (ih _ _ _ _ h)
      · rename_i i s1 h1; cases h; exact ih _ _ _ _ h1
      · rename_i s1 h1; cases h; exact ih _ _ _ _ h1
      · cases h
    | cond x a b =>
      simp only [exC] at h
      split at h
      · exact ih _ _ _ _ h
      · exact ih _ _ _ _ h
      · cases h
    | block id b =>
      simp only [exC] at h
      split at h
      · rename_i s1 h1; cases h; exact ih _ _ _ _ h1
      · rename_i i s1 h1
        split at h
        · cases h; exact ih _ _ _ _ h1
        · cases h; exact ih _ _ _ _ h1
      · rename_i s1 h1; cases h; exact ih _ _ _ _ h1
      · cases h
    | loop k b =>
      simp only [exC] at h
      split at h
      · rename_i s1 h1; exact (ih _ _ _ _ h1).trans (ih _ _ _ _ h)
      · rename_i i s1 h1; cases h; exact ih _ _ _ _ h1
      · rename_i s1 h1; cases h; exact ih _ _ _ _ h1
      · cases h
def exitK (e : AExit) (s' : St) : AExit → St → Prop := fun e1 s1 => e1 = e ∧ s1 = s'
theorem exC_ok {call : CallX} (hc : CallOk P G call) {c : Ctx} {κ0 : Kap} {N : Nat} {muts rl : List Nat} (hG : c.G = G) : ∀ (n : Nat) (co : Code) (ac : ACode) (ex : List (Nat × List Nat)) (out li : List Nat) (s : St) (a : Act) (w : World) (κ : Kap) (e : AExit) (s' : St),
    cCode P muts N rl co ex out = some (ac, li) → exC call G n ac s = some (e, s') → Rel c κ0 N s a w κ → co.wp P (lift c κ0 N (exitK e s')) a w := by
  intro n
  induction n using Nat.strongRecOn with
  | _ n ih =>
  intro co ac ex out li s a w κ e s' hcc he hR
  cases n with
  | zero => simp [exC] at he
  | succ n =>
  cases co with
  | skip =>
    simp only [cCode, Option.some.injEq, Prod.mk.injEq] at hcc
    obtain ⟨rfl, _⟩ := hcc
    simp only [exC, Option.some.injEq, Prod.mk.injEq] at he
    obtain ⟨rfl, rfl⟩ := he
    exact wp_skip ⟨_, κ, hR, rfl, rfl⟩
  | exit id =>
    simp only [cCode, Option.some.injEq, Prod.mk.injEq] at hcc
    obtain ⟨rfl, _⟩ := hcc
    simp only [exC, Option.some.injEq, Prod.mk.injEq] at he
    obtain ⟨rfl, rfl⟩ := he
    exact wp_exit ⟨_, κ, hR, rfl, rfl⟩
  | ret =>
    simp only [cCode, Option.some.injEq, Prod.mk.injEq] at hcc
    obtain ⟨rfl, _⟩ := hcc
    simp only [exC, Option.some.injEq, Prod.mk.injEq] at he
    obtain ⟨rfl, rfl⟩ := he
    exact wp_ret ⟨_, κ, hR, rfl, rfl⟩
  | region id ops d =>
    simp only [cCode] at hcc
    split at hcc
    · rename_i l hl
      cases d with
      | false =>
        simp only [Option.some.injEq, Prod.mk.injEq] at hcc
        obtain ⟨rfl, _⟩ := hcc
        simp only [exC] at he
        split at he
        · rename_i s1 h1
          cases he
          exact wp_region_list (vcOps_sound (F := fun s => s = s1) (fun s a w κ hR hF => by subst hF; exact ⟨_, κ, hR.clip0 _, rfl, rfl⟩) ops.toList l s a w κ hl hR (by rw [hG]; exact exOps_ok hc l s s1 h1 rfl))
        · cases he
      | true =>
        simp only at hcc
        split at hcc
        · rename_i hok
          simp only [Option.some.injEq, Prod.mk.injEq] at hcc
          obtain ⟨rfl, _⟩ := hcc
          simp only [exC] at he
          split at he
          · rename_i s1 h1
            split at he
            · rename_i s2 h2
              cases he
              exact draw_sound (F := fun s => s = s2) hl hok.1 hok.2.1 hok.2.2 hR (by rw [hG]; exact exD_ok hc _ _ s s1 h1 (exOps_ok hc _ s1 s2 h2 rfl)) (fun s a w κ hR hF => by subst hF; exact ⟨_, κ, hR.clip0 _, rfl, rfl⟩)
            · cases he
          · cases he
        · cases hcc
    · cases hcc
  | seq x y =>
    simp only [cCode] at hcc
    split at hcc
    · rename_i b' lb hb
      split at hcc
      · rename_i a' la ha
        simp only [Option.some.injEq, Prod.mk.injEq] at hcc
        obtain ⟨rfl, _⟩ := hcc
        simp only [exC] at he
        split at he
        · rename_i s1 h1
          refine wp_seq (wp_mono (ih n (Nat.lt_succ_self n) x a' _ _ _ s a w κ _ _ ha h1 hR) ?_)
          intro e1 a w hq
          cases e1 with
          | normal =>
            obtain ⟨s2, κ, hR, _, rfl⟩ := hq
            exact ih n (Nat.lt_succ_self n) y b' _ _ _ s2 a w κ _ _ hb he hR
          | exit id => obtain ⟨_, _, _, h, _⟩ := hq; cases h
          | ret => obtain ⟨_, _, _, h, _⟩ := hq; cases h
          | goto l => exact hq.elim
          | panic ch => exact hq.elim
          | outgrown => exact hq.elim
        · rename_i i s1 h1
          cases he
          refine wp_seq (wp_mono (ih n (Nat.lt_succ_self n) x a' _ _ _ s a w κ _ _ ha h1 hR) ?_)
          intro e1 a w hq
          cases e1 with
          | normal => obtain ⟨_, _, _, h, _⟩ := hq; cases h
          | exit id => exact hq
          | ret => exact hq
          | goto l => exact hq.elim
          | panic ch => exact hq.elim
          | outgrown => exact hq.elim
        · rename_i s1 h1
          cases he
          refine wp_seq (wp_mono (ih n (Nat.lt_succ_self n) x a' _ _ _ s a w κ _ _ ha h1 hR) ?_)
          intro e1 a w hq
          cases e1 with
          | normal => obtain ⟨_, _, _, h, _⟩ := hq; cases h
          | exit id => exact hq
          | ret => exact hq
          | goto l => exact hq.elim
          | panic ch => exact hq.elim
          | outgrown => exact hq.elim
        · cases he
      · cases hcc
    · cases hcc
  | cond x y z =>
    simp only [cCode] at hcc
    split at hcc
    · rename_i ax a' la b' lb hx hy hz
      simp only [Option.some.injEq, Prod.mk.injEq] at hcc
      obtain ⟨rfl, _⟩ := hcc
      have hrel := cX_rel (κ := κ) (E := s.E) (a := a) hx (fun i _ => hR.env i)
      simp only [exC] at he
      split at he
      · rename_i hv
        rw [hv] at hrel
        exact wp_cond_true (bool_inv hrel) (ih n (Nat.lt_succ_self n) y a' _ _ _ s a w κ _ _ hy he hR)
      · rename_i hv
        rw [hv] at hrel
        exact wp_cond_false (bool_inv hrel) (ih n (Nat.lt_succ_self n) z b' _ _ _ s a w κ _ _ hz he hR)
      · cases he
    · cases hcc
  | block id b =>
    simp only [cCode] at hcc
    split at hcc
    · rename_i b' lb hb
      simp only [Option.some.injEq, Prod.mk.injEq] at hcc
      obtain ⟨rfl, _⟩ := hcc
      simp only [exC] at he
      have main : ∀ e1 s1, exC call G n b' s = some (e1, s1) → ((e1 = .norm ∧ e = .norm ∧ s' = s1) ∨ (∃ i, e1 = .exit i ∧ s' = s1 ∧ e = if i = id then .norm else .exit i) ∨ (e1 = .ret ∧ e = .ret ∧ s' = s1)) → (Code.block id b).wp P (lift c κ0 N (exitK e s')) a w := by
        intro e1 s1 h1 hcase
        refine wp_block (wp_mono (ih n (Nat.lt_succ_self n) b b' _ _ _ s a w κ _ _ hb h1 hR) ?_)
        intro e2 a w hq
        cases e2 with
        | normal =>
          obtain ⟨s2, κ, hR, rfl, rfl⟩ := hq
          rcases hcase with ⟨_, rfl, rfl⟩ | ⟨i, h, _⟩ | ⟨h, _⟩
          · exact ⟨_, κ, hR, rfl, rfl⟩
          · cases h
          · cases h
        | ret =>
          obtain ⟨s2, κ, hR, rfl, rfl⟩ := hq
          rcases hcase with ⟨h, _⟩ | ⟨i, h, _⟩ | ⟨_, rfl, rfl⟩
          · cases h
          · cases h
          · exact ⟨_, κ, hR, rfl, rfl⟩
        | exit i =>
          obtain ⟨s2, κ, hR, rfl, rfl⟩ := hq
          rcases hcase with ⟨h, _⟩ | ⟨i', h, rfl, rfl⟩ | ⟨h, _⟩
          · cases h
          · cases h
            simp only [Exit.inBlock]
            split
            · rename_i hid
              exact ⟨_, κ, hR, by simp [hid], rfl⟩
            · rename_i hid
              exact ⟨_, κ, hR, by simp [hid], rfl⟩
          · cases h
        | goto l => exact hq.elim
        | panic ch => exact hq.elim
        | outgrown => exact hq.elim
      split at he
      · rename_i s1 h1
        cases he
        exact main _ _ h1 (.inl ⟨rfl, rfl, rfl⟩)
      · rename_i i s1 h1
        split at he
        · rename_i hid
          cases he
          exact main _ _ h1 (.inr (.inl ⟨i, rfl, rfl, by simp [hid]⟩))
        · rename_i hid
          cases he
          exact main _ _ h1 (.inr (.inl ⟨i, rfl, rfl, by simp [hid]⟩))
      · rename_i s1 h1
        cases he
        exact main _ _ h1 (.inr (.inr ⟨rfl, rfl, rfl⟩))
      · cases he
    · cases hcc
  | loop b =>
    simp only [cCode] at hcc
    split at hcc
    · rename_i x1 l1 hb1
      split at hcc
      · rename_i x2 l2 hb2
        split at hcc
        · rename_i b' l3 hb
          simp only [Option.some.injEq, Prod.mk.injEq] at hcc
          obtain ⟨rfl, _⟩ := hcc
          refine wp_loop_n (fun m a w => ∃ s κ, m ≤ n + 1 ∧ Rel c κ0 N s a w κ ∧ exC call G m (.loop (sortN l2) b') s = some (e, s')) ⟨n + 1, s, κ, Nat.le_refl _, hR, he⟩ fun m a w hJ => ?_
          obtain ⟨s, κ, hm, hR, he⟩ := hJ
          cases m with
          | zero => simp [exC] at he
          | succ m =>
            simp only [exC] at he
            split at he
            · rename_i s1 h1
              refine wp_mono (ih m (by omega) b b' _ _ _ s a w κ _ _ hb h1 hR) ?_
              intro e1 a w hq
              cases e1 with
              | normal =>
                obtain ⟨s2, κ, hR, _, rfl⟩ := hq
                exact ⟨m, Nat.lt_succ_self m, _, κ, by omega, hR, he⟩
              | exit id => obtain ⟨_, _, _, h, _⟩ := hq; cases h
              | ret => obtain ⟨_, _, _, h, _⟩ := hq; cases h
              | goto l => exact hq.elim
              | panic ch => exact hq.elim
              | outgrown => exact hq.elim
            · rename_i i s1 h1
              cases he
              refine wp_mono (ih m (by omega) b b' _ _ _ s a w κ _ _ hb h1 hR) ?_
              intro e1 a w hq
              cases e1 with
              | normal => obtain ⟨_, _, _, h, _⟩ := hq; cases h
              | exit id => exact hq
              | ret => exact hq
              | goto l => exact hq.elim
              | panic ch => exact hq.elim
              | outgrown => exact hq.elim
            · rename_i s1 h1
              cases he
              refine wp_mono (ih m (by omega) b b' _ _ _ s a w κ _ _ hb h1 hR) ?_
              intro e1 a w hq
              cases e1 with
              | normal => obtain ⟨_, _, _, h, _⟩ := hq; cases h
              | exit id => exact hq
              | ret => exact hq
              | goto l => exact hq.elim
              | panic ch => exact hq.elim
              | outgrown => exact hq.elim
            · cases he
        · cases hcc
      · cases hcc
    · cases hcc
  | rangeFunc f ps x y => simp [cCode] at hcc
  | scope b => simp [cCode] at hcc
  | label l => simp [cCode] at hcc
  | goto l => simp [cCode] at hcc
  | refuse y => simp [cCode] at hcc
theorem lookF_ok {tab : List TabRow} (ht : ∀ r ∈ tab, cFn P r.muts r.f = some r.fn) {f : Nat} {fn : AFn} (h : lookF f tab = some fn) : ∃ muts, cFn P muts f = some fn := by
  induction tab with
  | nil => cases h
  | cons r q ih =>
    simp only [lookF] at h
    split at h
    · rename_i hf
      cases h
      exact ⟨r.muts, hf ▸ ht r (by simp)⟩
    · exact ih (fun r hr => ht r (by simp [hr])) h
theorem exF_ok {tab : List TabRow} {O : Nat → List PV → Option PV} {m : Nat} (ht : ∀ r ∈ tab, cFn P r.muts r.f = some r.fn) (hO : ∀ f ps r, O f ps = some r → Pure P G f ps r) : ∀ n, CallOk P G (exF tab O G m n)
  | 0 => by intro f args sto next v sto' next' h; simp [exF] at h
  | n + 1 => by
    intro f args sto next v sto' next' h
    simp only [exF] at h
    split at h
    · rename_i r hr
      cases h
      simp only [Option.bind_eq_some_iff] at hr
      obtain ⟨ps, h1, h2⟩ := hr
      refine ⟨Grows.refl _ _, ?_⟩
      exact .inl ⟨ps, r, h1, hO f ps r h2, rfl, rfl, rfl⟩
    · split at h
      · rename_i fn hfn
        obtain ⟨muts, hcf⟩ := lookF_ok ht hfn
        split at h
        · rename_i hl
          have grow : ∀ (e : AExit) (s : St), exC (exF tab O G m n) G m fn.body ⟨initEnv args, sto, next⟩ = some (e, s) → outOf G fn s = some (v, sto', next') → Grows sto next sto' next' := by
            intro e s h1 h2
            have := exC_grows (exF_ok ht hO n) m fn.body _ e s h1
            unfold outOf at h2
            split at h2
            · cases h2; exact this
            · cases h2
          have fin : ∀ (e : AExit) (s : St), (e = .norm ∨ e = .ret) → exC (exF tab O G m n) G m fn.body ⟨initEnv args, sto, next⟩ = some (e, s) → outOf G fn s = some (v, sto', next') → TCalls P G f args sto next (fun v' s' n' => v' = v ∧ s' = sto' ∧ n' = next') := by
            intro e s he h1 h2
            refine TCalls.of_code hcf hl fun c κ N a w co rl li hG hf hb hR => ?_
            refine wp_mono (exC_ok (exF_ok ht hO n) hG m co fn.body _ _ _ _ a w κ e s hb h1 hR) ?_
            have hout : ∀ s1, s1 = s → onSome (resVs G s1 fn.res) (retK (fun v' s' n' => v' = v ∧ s' = sto' ∧ n' = next') s1) := by
              rintro s1 rfl
              unfold outOf at h2
              split at h2
              · rename_i l hl2
                cases h2
                rw [hl2]
                exact ⟨rfl, rfl, rfl⟩
              · cases h2
            intro e1 a w hq
            cases e1 with
            | normal =>
              obtain ⟨s1, κ1, hR1, he1, hs1⟩ := hq
              exact ⟨s1, κ1, hR1, hout s1 hs1⟩
            | ret =>
              obtain ⟨s1, κ1, hR1, he1, hs1⟩ := hq
              exact ⟨s1, κ1, hR1, hout s1 hs1⟩
            | exit id =>
              obtain ⟨s1, κ1, hR1, he1, hs1⟩ := hq
              rcases he with rfl | rfl <;> cases he1
            | goto l => exact hq.elim
            | panic ch => exact hq.elim
            | outgrown => exact hq.elim
          split at h
          · rename_i s1 h1; exact ⟨grow _ _ h1 h, .inr (fin _ _ (.inl rfl) h1 h)⟩
          · rename_i s1 h1; exact ⟨grow _ _ h1 h, .inr (fin _ _ (.inr rfl) h1 h)⟩
          · cases h
        · cases h
      · cases h
theorem Pure.of_ex {tab : List TabRow} {O : Nat → List PV → Option PV} {m n : Nat} {f : Nat} {ps : List PV} {r : PV} (ht : ∀ r ∈ tab, cFn P r.muts r.f = some r.fn) (hO : ∀ f ps r, O f ps = some r → Pure P G f ps r)
    (h : pcall (exF tab O G m n) f ps = some r) : Pure P G f ps r :=
  pcall_ok (exF_ok ht hO n) h
end
end Go.Ab
set_option linter.unusedVariables false
set_option linter.unusedSimpArgs false
namespace Go.Ab
open Go Go.RowKit Go.Sort
theorem pure_of_calls {P : Program} {G : Nat → List PV} {f : Nat} {args : List PV} {r : PV} (hc : Callable P f = true)
    (h : ∀ (w : World) (imm : Nat → Nat → Prop) (vals : Array Value), GlobOk G w imm → vals.size = args.length → (∀ (i : Nat) (x : PV), args[i]? = some x → PRel w imm x (vals.getD i Go.undef)) →
      Calls P f vals w fun e w' => ∃ u, e = .returned u ∧ Below w.heap.size w w' ∧ PRel w' imm r u) : Pure P G f args r := by
  refine ⟨hc, fun w imm vals hG hlt hsz hargs => (h w imm vals hG hsz hargs).mono ?_⟩
  rintro e w' ⟨u, rfl, hb, hr⟩
  exact ⟨u, imm, rfl, hb, fun _ _ h => h, fun _ _ h => .inl h, fun b o h => Nat.lt_of_lt_of_le (hlt b o h) hb.size, hr⟩
theorem str_toArray {w : World} {imm : Nat → Nat → Prop} {l : List UInt8} (h : l.length ≤ maxLen) : PRel w imm (.str l) (.string ⟨l.toArray⟩) := by
  have := PRel.str (w := w) (imm := imm) ⟨l.toArray⟩ (by show l.toArray.size ≤ maxLen; simpa using h)
  simpa using this
theorem str_val {w : World} {imm : Nat → Nat → Prop} {l : List UInt8} {v : Value} (h : PRel w imm (.str l) v) : v = .string ⟨l.toArray⟩ ∧ l.length ≤ maxLen := by
  cases h with
  | str s hs => exact ⟨by simp, hs⟩
theorem vals_1 {vals : Array Value} (h : vals.size = 1) : vals = #[vals.getD 0 Go.undef] := by
  apply Array.ext
  · simp [h]
  · intro i h1 h2
    have : i = 0 := by omega
    subst this
    simp [Array.getD_eq_getD_getElem?, h]
theorem vals_2 {vals : Array Value} (h : vals.size = 2) : vals = #[vals.getD 0 Go.undef, vals.getD 1 Go.undef] := by
  apply Array.ext
  · simp [h]
  · intro i h1 h2
    have : i = 0 ∨ i = 1 := by omega
    rcases this with rfl | rfl <;> simp [Array.getD_eq_getD_getElem?, h]
def digits : Nat → Nat → List UInt8
  | 0, _ => []
  | n + 1, k => if k < 10 then [UInt8.ofNat (48 + k)] else digits n (k / 10) ++ [UInt8.ofNat (48 + k % 10)]
def itoaT (n : Int) : List UInt8 := if n < 0 then 45 :: digits 20 n.natAbs else digits 20 n.toNat
theorem digits_eq : ∀ (f k : Nat), k < 10 ^ f → 0 < f → digits f k = Lib.decDigits k
  | 0, k, _, h => absurd h (by simp)
  | f + 1, k, hk, _ => by
    rw [digits, Lib.decDigits]
    by_cases h : k < 10
    · simp [h]
    · rw [if_neg h, dif_neg h]
      have h10 : k / 10 < 10 ^ f := by
        rw [Nat.pow_succ] at hk
        exact Nat.div_lt_of_lt_mul (by rw [Nat.mul_comm]; exact hk)
      rw [digits_eq f (k / 10) h10 (by
        rcases Nat.eq_zero_or_pos f with h0 | h0
        · subst h0
          simp at hk
          omega
        · exact h0)]
theorem digits_len : ∀ (f k : Nat), (digits f k).length ≤ f
  | 0, k => by simp [digits]
  | f + 1, k => by
    rw [digits]
    split
    · simp
    · have := digits_len f (k / 10)
      simp; omega
theorem itoaT_eq {n : Int} (h0 : -9223372036854775808 ≤ n) (h1 : n ≤ 9223372036854775807) : itoaT n = Lib.itoa n := by
  have e : (10 : Nat) ^ 20 = 100000000000000000000 := by decide
  unfold itoaT Lib.itoa
  split
  · rw [digits_eq 20 n.natAbs (by rw [e]; omega) (by decide)]
  · rw [digits_eq 20 n.toNat (by rw [e]; omega) (by decide)]
theorem itoaT_len (n : Int) : (itoaT n).length ≤ 21 := by
  unfold itoaT
  split
  · have := digits_len 20 n.natAbs
    simp; omega
  · have := digits_len 20 n.toNat
    omega
theorem tabIs_of {P : Program} {G : Nat → List PV} {w : World} {imm : Nat → Nat → Prop} {name : String} {k : IntKind} {zs : List Int} {g : Nat} (hn : P.globalNamed name = some g) (hG : G g = zs.map (PV.int k)) (hz : zs ≠ []) (h : GlobOk G w imm) :
    Lib.TabIs P w name k zs := by
  obtain ⟨cs, T, fz, h1, h2⟩ := h.2 g (by rw [hG]; simpa using hz)
  have hcs : cs = (zs.map fun z => Value.int k z).toArray := by
    rw [hG] at h2
    simp only [List.length_map] at h2
    apply Array.ext
    · simp [h2]
    · intro i hi hi'
      have hiz : i < zs.length := by omega
      obtain ⟨_, v, h3, _, h4⟩ := h.1 g i (.int k zs[i]) (by rw [hG]; simp [hiz])
      have hv : v = .int k zs[i] := by cases h4; rfl
      have hc := cell_of_row w g i cs T fz h1
      rw [h3, hv] at hc
      have := (Array.getElem?_eq_some_iff.1 hc.symm).2
      simp [this]
  unfold Lib.TabIs World.var?
  rw [hn]
  simp only [Option.bind_some, h1]
  rw [hcs]
theorem itoa_pure {P : Program} {G : Nat → List PV} {f g : Nat} {name : String} (hc : Callable P f = true) (hn : P.globalNamed name = some g) (hG : G g = Lib.pow10Tab.map (PV.int .u64))
    (h : ∀ (n : Int) (h0 : -9223372036854775808 ≤ n) (h1 : n ≤ 9223372036854775807) (w : World) (htab : Lib.TabIs P w name .u64 Lib.pow10Tab),
      Calls P f #[.int .i64 n] w fun e w' => e = .returned (.string ⟨(Lib.itoa n).toArray⟩) ∧ ∃ k os, w' = Sort.grow (w.drewN k) os)
    (n : Int) (h0 : -9223372036854775808 ≤ n) (h1 : n ≤ 9223372036854775807) : Pure P G f [.int .i64 n] (.str (itoaT n)) := by
  refine pure_of_calls hc fun w imm vals hGl hsz hargs => ?_
  have hv := vals_1 hsz
  have h2 := hargs 0 (.int .i64 n) rfl
  have h3 : vals.getD 0 Go.undef = .int .i64 n := by
    generalize vals.getD 0 Go.undef = x at h2
    cases h2; rfl
  rw [hv, h3]
  refine (h n h0 h1 w (tabIs_of hn hG (by
    intro e
    have := congrArg List.length e
    rw [Lib.pow10Tab_length] at this
    simp at this) hGl)).mono ?_
  rintro e w' ⟨rfl, k, os, rfl⟩
  refine ⟨_, rfl, Lib.below_grow _ w (Nat.le_refl _) k os, ?_⟩
  rw [itoaT_eq h0 h1, ← itoaT_eq h0 h1]
  refine str_toArray ?_
  have := itoaT_len n
  unfold maxLen; omega
theorem compare_pure {P : Program} {G : Nat → List PV} {f : Nat} (hc : Callable P f = true)
    (h : ∀ (a b : ByteArray) (w : World), Calls P f #[.string a, .string b] w fun e w' => e = .returned (.int .i64 (Lib.compareBytes a.data.toList b.data.toList)) ∧ w' = w) (a b : List UInt8) :
    Pure P G f [.str a, .str b] (.int .i64 (Lib.compareBytes a b)) := by
  refine pure_of_calls hc fun w imm vals hGl hsz hargs => ?_
  have hv := vals_2 hsz
  obtain ⟨ha, _⟩ := str_val (hargs 0 (.str a) rfl)
  obtain ⟨hb, _⟩ := str_val (hargs 1 (.str b) rfl)
  rw [hv, ha, hb]
  refine (h _ _ w).mono ?_
  rintro e w' ⟨rfl, rfl⟩
  refine ⟨_, rfl, Below.refl _ _, ?_⟩
  simpa using PRel.int (w := w') (imm := imm) .i64 (Lib.compareBytes a b)
end Go.Ab
set_option linter.unusedVariables false
namespace Go.Ab
open Go
section
variable {P : Program} {G : Nat → List PV}
end
end Go.Ab
set_option linter.unusedVariables false
set_option linter.unusedSimpArgs false
namespace Go.Ab
open Go
def flatC : List AV → List AV
  | [] => []
  | x :: r => x.cells ++ flatC r
theorem flatC_nil : flatC [] = [] := _root_.id rfl
theorem flatC_cons (x : AV) (r : List AV) : flatC (x :: r) = x.cells ++ flatC r := _root_.id rfl
theorem flatC_eq : ∀ l : List AV, l.flatMap AV.cells = flatC l
  | [] => rfl
  | x :: r => by rw [List.flatMap_cons, flatC_eq r]; rfl
section
variable {P : Program} {G : Nat → List PV}
theorem rSliceL_rowlo {sz r off n : Nat} {k : IntKind} {i : Int} (h0 : 0 < i) (h1 : i < n) (hs : 0 < sz) : rSliceL sz (.row r sz off n) (some (.pv (.int k i))) none = some (.row r sz (off + i.toNat * sz) (n - i.toNat)) := by
  have h2 : i ≤ (n : Int) := by omega
  have h3 : 0 ≤ i := by omega
  have h4 : ¬ i.toNat = 0 := by omega
  have h5 : i.toNat < n := by omega
  simp [rSliceL, rBound, h2, h3, hs, h4, h5]
theorem rSliceL_row0 {sz r off n : Nat} {k : IntKind} (hs : 0 < sz) : rSliceL sz (.row r sz off n) (some (.pv (.int k 0))) none = some (.row r sz off n) := by
  simp [rSliceL, rBound, hs]
theorem chk_of {b : Bool} (h : b = true) : Chk b := h
theorem bsl_t {e sz len new : Nat} {vs : List AV} (h : Chk (decide (vs.length = len) && decide (len ≤ 9223372036854775807) && vs.all (fun v => v.known && v.cells.length == sz && v.cells.all AV.one))) : rBslice true e sz len new vs = some (.row new sz 0 len, [(new, .cells e true (flatC vs))]) := by
  have h' := h
  simp only [Chk, Bool.and_eq_true, decide_eq_true_eq] at h'
  obtain ⟨⟨h1, h2⟩, h3⟩ := h'
  simp only [rBslice]
  rw [if_pos ⟨h1, h2⟩, if_pos h3, flatC_eq]
theorem pvs_pv : ∀ l : List PV, pvs (l.map .pv) = some l
  | [] => rfl
  | x :: r => by simp [pvs, AV.toPV, pvs_pv r]
end
attribute [push_cast] bsl_t flatC_nil flatC_cons
end Go.Ab
set_option linter.unusedVariables false
set_option linter.unusedSimpArgs false
namespace Go.Ab
open Go
section
variable {α β : Type}
def allU (p : Nat → Bool) : Nat → Bool
  | 0 => true
  | n + 1 => allU p n && p n
theorem allU_iff {p : Nat → Bool} : ∀ {n : Nat}, allU p n = true ↔ ∀ k, k < n → p k = true
  | 0 => by simp [allU]
  | n + 1 => by
    rw [allU, Bool.and_eq_true, allU_iff]
    constructor
    · rintro ⟨h1, h2⟩ k hk
      rcases Nat.lt_succ_iff_lt_or_eq.1 hk with h | h
      · exact h1 k h
      · rw [h]; exact h2
    · exact fun h => ⟨fun k hk => h k (by omega), h n (by omega)⟩
theorem allU_false {p : Nat → Bool} {k n : Nat} (h : p k = false) (hk : k < n) : allU p n = false := by
  cases ha : allU p n with
  | false => rfl
  | true => rw [allU_iff.1 ha k hk] at h; cases h
theorem drop_at {l : List α} {m : Nat} {x : α} (h : l[m]? = some x) : l.drop m = x :: l.drop (m + 1) := by
  obtain ⟨h1, h2⟩ := List.getElem?_eq_some_iff.1 h
  rw [List.drop_eq_getElem_cons h1, h2]
theorem drop_end {l : List α} {m : Nat} (h : ¬ m < l.length) : l.drop m = [] := List.drop_eq_nil_of_le (by omega)
theorem take_end {l : List α} {m : Nat} (h : ¬ m < l.length) : l.take m = l := List.take_of_length_le (by omega)
theorem all_hit {l : List α} {m : Nat} {x : α} {p : α → Bool} (h : l[m]? = some x) (hp : p x = false) : (l.drop m).all p = false := by
  rw [drop_at h, List.all_cons, hp]; rfl
theorem all_miss {l : List α} {m : Nat} {x : α} {p : α → Bool} (h : l[m]? = some x) (hp : p x = true) : (l.drop m).all p = (l.drop (m + 1)).all p := by
  rw [drop_at h, List.all_cons, hp]; rfl
theorem all_end {l : List α} {m : Nat} {p : α → Bool} (h : ¬ m < l.length) : (l.drop m).all p = true := by rw [drop_end h]; rfl
def fstI (p : α → Bool) : List α → Nat → Int
  | [], _ => -1
  | x :: r, m => if p x = true then (m : Int) else fstI p r (m + 1)
theorem fst_hit {l : List α} {m : Nat} {x : α} {p : α → Bool} (h : l[m]? = some x) (hp : p x = true) : fstI p (l.drop m) m = m := by
  rw [drop_at h, fstI, if_pos hp]
theorem fst_miss {l : List α} {m : Nat} {x : α} {p : α → Bool} (h : l[m]? = some x) (hp : p x = false) : fstI p (l.drop m) m = fstI p (l.drop (m + 1)) (m + 1) := by
  rw [drop_at h, fstI, if_neg (by rw [hp]; simp)]
theorem fst_end {l : List α} {m : Nat} {p : α → Bool} (h : ¬ m < l.length) : fstI p (l.drop m) m = -1 := by rw [drop_end h]; rfl
theorem fst_find {p : α → Bool} : ∀ (l : List α) (m : Nat), (l.find? p = none ∧ fstI p l m = -1) ∨ ∃ (k : Nat) (x : α), l[k]? = some x ∧ l.find? p = some x ∧ fstI p l m = ((m + k : Nat) : Int)
  | [], m => .inl ⟨rfl, rfl⟩
  | x :: r, m => by
    cases hx : p x with
    | true => exact .inr ⟨0, x, rfl, by rw [List.find?_cons, hx], by rw [fstI, if_pos hx]; rfl⟩
    | false =>
      rw [List.find?_cons, hx, fstI, if_neg (by rw [hx]; simp)]
      rcases fst_find r (m + 1) with ⟨h1, h2⟩ | ⟨k, y, h1, h2, h3⟩
      · exact .inl ⟨h1, h2⟩
      · exact .inr ⟨k + 1, y, by simpa using h1, h2, by rw [h3]; congr 1; omega⟩
theorem find_any {p : α → Bool} (l : List α) : (l.find? p).isSome = l.any p := by
  induction l with
  | nil => rfl
  | cons x r ih => rw [List.find?_cons, List.any_cons]; cases p x <;> simp [ih]
def onU8 : Option (List UInt8) → Option AV
  | some l => some (.pv (.str l))
  | none => none
def consU8 (n : Int) : Option (List UInt8) → Option (List UInt8)
  | some l => some (UInt8.ofNat n.toNat :: l)
  | none => none
theorem onU8_some (l : List UInt8) : onU8 (some l) = some (.pv (.str l)) := _root_.id rfl
theorem consU8_some (n : Int) (l : List UInt8) : consU8 n (some l) = some (UInt8.ofNat n.toNat :: l) := _root_.id rfl
theorem u8s_nil : u8s [] = some [] := _root_.id rfl
theorem u8s_cons (n : Int) (r : List PV) : u8s (.int .u8 n :: r) = consU8 n (u8s r) := by
  simp only [u8s]; cases u8s r <;> rfl
theorem u8s_bytes : ∀ l : List UInt8, u8s (l.map fun b => PV.int .u8 (b.toNat : Int)) = some l
  | [] => rfl
  | b :: r => by rw [List.map_cons, u8s_cons, u8s_bytes r, consU8_some]; simp
theorem toStr_ol (σ : Store) (r : Nat) (l : List PV) : rToStr σ (.olist r 1 l) = onU8 (u8s l) := by
  simp only [rToStr, elemsOf, if_true]; cases u8s l <;> rfl
theorem toStr_nils (σ : Store) : rToStr σ (.pv .nils) = some (.pv (.str [])) := _root_.id rfl
theorem toStr_pv (σ : Store) (l : List PV) : rToStr σ (.pv (.list l)) = onU8 (u8s l) := by
  simp only [rToStr, elemsOf]
  cases h : u8s l with
  | none => by_cases hh : (l.all (fun y => y.cells.length == 1)) = true <;> simp [hh, h, onU8]
  | some s =>
    obtain ⟨ns, rfl, rfl⟩ := u8s_ints h
    rw [if_pos (by simp [PV.cells])]
    simp [h, onU8]
end
theorem mRun_toStr (G : Nat → List PV) (e : List (Nat × AV)) (σ : List (Nat × Blk)) (new : Nat) (x : AX) : mRun G e σ new (.toStr x) = withD [] (rToStr (fun r => lookB r σ) (evE e x)) := by
  simp only [mRun]; cases rToStr (fun r => lookB r σ) (evE e x) <;> rfl
theorem tdiv_n {a b : Int} (h : 0 ≤ a) : a.tdiv b = a / b := Int.tdiv_eq_ediv_of_nonneg h
theorem tmod_n {a b : Int} (h : 0 ≤ a) : a.tmod b = a % b := Int.tmod_eq_emod_of_nonneg h
def byteO : Option UInt8 → Option AV
  | some b => some (.pv (.int .u8 (b.toNat : Int)))
  | none => none
theorem byteO_some (b : UInt8) : byteO (some b) = some (.pv (.int .u8 (b.toNat : Int))) := _root_.id rfl
theorem rIndex_nat (l : List UInt8) (k : IntKind) (i : Nat) : rIndex (.pv (.str l)) (.pv (.int k (i : Int))) = byteO l[i]? := by
  simp only [rIndex, Int.toNat_natCast]
  rw [if_pos (by omega)]
  cases l[i]? <;> rfl
theorem rIndex_zero (l : List UInt8) (k : IntKind) : rIndex (.pv (.str l)) (.pv (.int k 0)) = byteO l[0]? := rIndex_nat l k 0
theorem rIndex_succ (l : List UInt8) (k : IntKind) (i : Nat) : rIndex (.pv (.str l)) (.pv (.int k ((i : Int) + 1))) = byteO l[i + 1]? := rIndex_nat l k (i + 1)
attribute [push_cast] byteO_some rIndex_nat rIndex_zero rIndex_succ mRun_toStr tdiv_n tmod_n onU8_some consU8_some u8s_nil u8s_cons u8s_bytes toStr_ol toStr_nils toStr_pv
end Go.Ab
set_option linter.unusedVariables false
set_option linter.unusedSimpArgs false
namespace Go.Ab
open Go
def byN (l : List UInt8) (i : Nat) : Nat := (l.getD i 0).toNat
end Go.Ab
set_option linter.unusedVariables false
set_option linter.unusedSimpArgs false
namespace Go.Ab
open Go Go.RowKit
def isAggT (P : Program) (t : TypeId) : Bool :=
  match P.underlying t with
  | some (.struct _) | some (.array _ _) => true
  | _ => false
def cellPV (g : Bool) (cs : List PV) : PV :=
  match g with
  | true => .agg cs
  | false => cs.headD .undef
def fieldPV (P : Program) (f : Field) (cs : List PV) : PV := cellPV (isAggT P f.type) ((cs.drop f.offset).take (P.cellsOf f.type))
inductive HasT (P : Program) : TypeId → PV → Prop
  | bool (t : TypeId) (b : Bool) : P.underlying t = some .bool → HasT P t (.bool b)
  | int (t : TypeId) (k : IntKind) (n : Int) : P.underlying t = some (.int k) → (Lit.int k n).wf = true → HasT P t (.int k n)
  | str (t : TypeId) (s : List UInt8) : P.underlying t = some .string → s.length ≤ 140737488351232 → HasT P t (.str s)
  | list (t e : TypeId) (l : List PV) : P.underlying t = some (.slice e) → l.length ≤ maxLen → l.length * P.bytesOf e ≤ 140737488351232 → (∀ (i : Nat) (x : PV), l[i]? = some x → HasT P e x) → HasT P t (.list l)
  | arr (t e : TypeId) (n : Nat) (cs : List PV) : P.underlying t = some (.array n e) → cs.length = P.cellsOf t → (∀ i, i < n → HasT P e (cellPV (isAggT P e) ((cs.drop (i * P.cellsOf e)).take (P.cellsOf e)))) → HasT P t (.agg cs)
  | agg (t : TypeId) (fs : Array Field) (cs : List PV) : P.underlying t = some (.struct fs) → cs.length = P.cellsOf t → (∀ (i : Nat) (f : Field), fs.toList[i]? = some f → HasT P f.type (fieldPV P f cs)) → HasT P t (.agg cs)
def RelC (w : World) (imm : Nat → Nat → Prop) (p : PV) (cs : List Value) : Prop :=
  p.cells.length = cs.length ∧ ∀ (i : Nat) (x : PV), p.cells[i]? = some x → PRel w imm x (cs.getD i Go.undef) ∧ (cs.getD i Go.undef).oneCell' = true
def layT (P : Program) : List Field → Nat → Option Nat
  | [], o => some o
  | f :: r, o => if f.offset = o then layT P r (o + P.cellsOf f.type) else none
def okStep (P : Program) (ts : List TypeId) (t : TypeId) : Bool :=
  match P.underlying t with
  | some .bool | some (.int _) | some .string => true
  | some (.slice e) => ts.contains e && decide (0 < P.cellsOf e)
  | some (.struct fs) => (match layT P fs.toList 0 with
    | some n => decide (n = P.cellsOf t)
    | none => false) && fs.toList.all fun f => ts.contains f.type
  | some (.array n e) => ts.contains e && decide (n * P.cellsOf e = P.cellsOf t)
  | _ => false
def okTs (P : Program) (ts : List TypeId) : Bool := ts.all fun t => okStep P ts t
theorem HasT.cell {P : Program} {t : TypeId} {p : PV} (h : HasT P t p) : cellPV (isAggT P t) p.cells = p := by
  cases h with
  | bool _ h => simp [isAggT, ‹P.underlying t = _›, cellPV, PV.cells]
  | int _ _ h _ => simp [isAggT, ‹P.underlying t = _›, cellPV, PV.cells]
  | str _ h _ => simp [isAggT, ‹P.underlying t = _›, cellPV, PV.cells]
  | list _ _ h _ _ _ => simp [isAggT, ‹P.underlying t = _›, cellPV, PV.cells]
  | arr _ _ _ h _ _ => simp [isAggT, ‹P.underlying t = _›, cellPV, PV.cells]
  | agg _ _ h _ _ => simp [isAggT, ‹P.underlying t = _›, cellPV, PV.cells]
theorem layT_le {P : Program} : ∀ (fs : List Field) (o n : Nat), layT P fs o = some n → o ≤ n ∧ ∀ f ∈ fs, o ≤ f.offset
  | [], o, n, h => by simp only [layT, Option.some.injEq] at h; subst h; simp
  | f :: r, o, n, h => by
    simp only [layT] at h
    split at h
    · rename_i ho
      obtain ⟨h1, h2⟩ := layT_le r _ n h
      refine ⟨by omega, fun g hg => ?_⟩
      rcases List.mem_cons.1 hg with rfl | hg
      · omega
      · have := h2 g hg; omega
    · cases h
section
variable {H : Type} {enc : TypeId × Value → H} {P : Program} {w : World} {spare : Nat → Bool} {held : Bool} {ts : List TypeId} {imm : Nat → Nat → Prop}
theorem relC_one {p : PV} {v : Value} (hc : p.cells = [p]) (h : PRel w imm p v) (h1 : v.oneCell' = true) : RelC w imm p [v] := by
  refine ⟨by rw [hc]; rfl, fun i x hx => ?_⟩
  rw [hc] at hx
  cases i with
  | zero => simp only [List.getElem?_cons_zero, Option.some.injEq] at hx; subst hx; exact ⟨h, h1⟩
  | succ i => simp at hx
theorem fields_rel {F : Field → Option (DataW H × List MemPlace)} {cs : List Value} {n : Nat} (hcs : cs.length = n)
    (hF : ∀ f x, F f = some x → (x.1.weights P f.type).all (· ≤ reachBytes) = true → f.type ∈ ts → ∃ p, HasT P f.type p ∧ RelC w imm p ((cs.drop f.offset).take (P.cellsOf f.type))) : ∀ (fs : List Field) (o : Nat) (xs : List (DataW H × List MemPlace)), layT P fs o = some n → (∀ f ∈ fs, f.type ∈ ts) → fs.mapM F = some xs → (DataW.weightsEach P (fs.map (·.type)) (xs.map (·.1))).all (· ≤ reachBytes) = true →
    ∃ ps : List PV, ps.length = n - o ∧ (∀ (i : Nat) (x : PV), ps[i]? = some x → PRel w imm x (cs.getD (o + i) Go.undef) ∧ (cs.getD (o + i) Go.undef).oneCell' = true) ∧
      ∀ f ∈ fs, HasT P f.type (cellPV (isAggT P f.type) ((ps.drop (f.offset - o)).take (P.cellsOf f.type)))
  | [], o, xs, hl, _, _, _ => by
    simp only [layT, Option.some.injEq] at hl
    subst hl
    exact ⟨[], by simp, by simp, by simp⟩
  | f :: r, o, xs, hl, ht, hm, hz => by
    simp only [layT] at hl
    split at hl
    · rename_i ho
      simp only [List.mapM_cons, Option.bind_eq_bind, Option.bind_eq_some_iff, Option.pure_def, Option.some.injEq] at hm
      obtain ⟨x, hx, xs', hxs, rfl⟩ := hm
      simp only [List.map_cons, DataW.weightsEach, List.all_append, Bool.and_eq_true] at hz
      obtain ⟨p, hp, hr1, hr2⟩ := hF f x hx hz.1 (ht f (by simp))
      obtain ⟨q1, q2⟩ := layT_le r _ n hl
      obtain ⟨ps, h1, h2, h3⟩ := fields_rel hcs hF r _ xs' hl (fun g hg => ht g (by simp [hg])) hxs hz.2
      have hpl : p.cells.length = P.cellsOf f.type := by rw [hr1]; simp; omega
      refine ⟨p.cells ++ ps, by simp only [List.length_append]; omega, fun i x hx => ?_, fun g hg => ?_⟩
      · by_cases hi : i < p.cells.length
        · rw [List.getElem?_append_left hi] at hx
          have := hr2 i x hx
          have e : ((cs.drop f.offset).take (P.cellsOf f.type)).getD i Go.undef = cs.getD (o + i) Go.undef := by
            simp only [List.getD_eq_getElem?_getD, List.getElem?_take, List.getElem?_drop]
            rw [if_pos (by omega), ho]
          rw [e] at this; exact this
        · rw [List.getElem?_append_right (by omega)] at hx
          have := h2 _ x hx
          have e : o + P.cellsOf f.type + (i - p.cells.length) = o + i := by omega
          rw [e] at this; exact this
      · rcases List.mem_cons.1 hg with rfl | hg'
        · have e : ((p.cells ++ ps).drop (g.offset - o)).take (P.cellsOf g.type) = p.cells := by
            rw [ho, Nat.sub_self, List.drop_zero, ← hpl, List.take_left]
          rw [e, hp.cell]; exact hp
        · have := q2 g hg'
          have e : (p.cells ++ ps).drop (g.offset - o) = ps.drop (g.offset - (o + P.cellsOf f.type)) := by
            rw [List.drop_append, List.drop_eq_nil_of_le (by omega), List.nil_append]
            congr 1; omega
          rw [e]; exact h3 g hg'
    · cases hl
theorem relC_val {t : TypeId} {p : PV} {v : Value} (hp : HasT P t p) (h : RelC w imm p v.cells.toList) (ha : isAggT P t = true → ∃ cs, v = .agg cs) (ha' : isAggT P t = false → v.cells = #[v]) : PRel w imm p v := by
  have hc := hp.cell
  cases hg : isAggT P t with
  | false =>
    rw [hg] at hc
    rw [ha' hg] at h
    obtain ⟨h1, h2⟩ := h
    have : p.cells = [p] := by
      have hl : p.cells.length = 1 := by rw [h1]; simp
      obtain ⟨q, hq⟩ := List.length_eq_one_iff.1 hl
      rw [hq] at hc ⊢
      simp only [cellPV, List.headD_cons] at hc
      rw [hc]
    have := (h2 0 p (by rw [this]; rfl)).1
    simpa using this
  | true =>
    rw [hg] at hc
    obtain ⟨cs, rfl⟩ := ha hg
    obtain ⟨h1, h2⟩ := h
    simp only [cellPV] at hc
    rw [← hc]
    refine .agg _ _ (by simpa [Value.cells] using h1.symm) fun i x hx => ?_
    rw [getD_toList]
    exact (h2 i x hx).1
theorem mapM_len {α β : Type} {f : α → Option β} : ∀ {l : List α} {r : List β}, l.mapM f = some r → r.length = l.length
  | [], r, h => by simp at h; subst h; rfl
  | x :: l, r, h => by
    simp only [List.mapM_cons, Option.bind_eq_bind, Option.bind_eq_some_iff, Option.pure_def, Option.some.injEq] at h
    obtain ⟨b, hb, r', hr', rfl⟩ := h
    simp [mapM_len hr']
theorem cell_add {w : World} {a : Addr} {n : Nat} {v : Value} (h : w.cell? (a.add n) = some v) : w.cell? ⟨a.block, a.off + n, none⟩ = some v := by
  obtain ⟨b, off, spot⟩ := a
  unfold Addr.add at h
  by_cases hn : n = 0
  · subst hn
    rw [if_pos rfl] at h
    have := World.cell?_spot h
    simp only at this
    subst this
    exact h
  · rw [if_neg hn] at h; exact h
theorem add_block (a : Addr) (n : Nat) : (a.add n).block = a.block := by unfold Addr.add; split <;> rfl
theorem add_off (a : Addr) (n : Nat) : (a.add n).off = a.off + n := by unfold Addr.add; split <;> simp_all
theorem cells_at {w : World} {a : Addr} {n : Nat} {cs : List Value} (h : w.cells? 0 a n = some cs) : cs.length = n ∧ ∀ (j : Nat) (v : Value), cs[j]? = some v → w.cell? (a.add j) = some v := by
  unfold World.cells? at h
  rw [if_pos (Nat.zero_le _)] at h
  have hl := mapM_len h
  simp only [List.length_range] at hl
  refine ⟨hl, fun j v hv => ?_⟩
  have hj : j < n := by rw [← hl]; exact (List.getElem?_eq_some_iff.1 hv).1
  obtain ⟨b, hb, hf⟩ := Lib.mapM_at h j j (by simp [hj])
  rw [hv] at hb; cases hb
  exact hf
theorem weights_all {e : TypeId} : ∀ {l : List (DataW H)}, (DataW.weightsAll P e l).all (· ≤ reachBytes) = true → ∀ d ∈ l, (d.weights P e).all (· ≤ reachBytes) = true
  | [], _, d, hd => by cases hd
  | x :: r, h, d, hd => by
    simp only [DataW.weightsAll, List.all_append, Bool.and_eq_true] at h
    rcases List.mem_cons.1 hd with rfl | hd
    · exact h.1
    · exact weights_all h.2 d hd
theorem slice_rel {t e : TypeId} {a : Addr} {len cap : Nat} {R : List Value → Option (DataW H × List MemPlace)} {d : DataW H} {ps : List MemPlace} (hu : P.underlying t = some (.slice e)) (hpos : 0 < P.cellsOf e)
    (hz : (d.weights P t).all (· ≤ reachBytes) = true) (ih : ∀ cs d ps, R cs = some (d, ps) → (d.weights P e).all (· ≤ reachBytes) = true → ∃ p, HasT P e p ∧ RelC w imm p cs) (himm : ∀ b o, b < w.heap.size → imm b o)
    (h : (if 0 ≤ a.block ∧ len ≤ cap ∧ cap ≤ maxLen then
      (List.mapM (fun i => (w.cells? 0 (a.add (i * P.cellsOf e)) (P.cellsOf e)).bind R) (List.range len)).bind fun elems =>
        Option.map (fun rest => (DataW.slice (List.map (fun x => x.fst) elems) (List.map (fun x => x.fst) rest), MemPlace.row a ((elems.length + rest.length) * P.cellsOf e) ++ List.flatMap (fun x => x.snd) (elems ++ rest)))
          (if spare a.block = true then List.mapM (fun j => (w.cells? 0 (a.add ((len + j) * P.cellsOf e)) (P.cellsOf e)).bind R) (List.range (cap - len)) else some [])
      else none) = some (d, ps)) : ∃ p, HasT P t p ∧ RelC w imm p [.slice (some a) len cap] := by
  split at h
  · rename_i hh
    obtain ⟨_, hlc, hcm⟩ := hh
    simp only [Option.bind_eq_some_iff] at h
    obtain ⟨elems, he, hrest⟩ := h
    simp only [Option.map_eq_some_iff, Prod.mk.injEq] at hrest
    obtain ⟨rest, _, rfl, _⟩ := hrest
    simp only [DataW.weights, hu, List.all_cons, List.all_append, Bool.and_eq_true, decide_eq_true_eq, List.length_map] at hz
    obtain ⟨hz1, hz2, _⟩ := hz
    have hel : elems.length = len := by rw [mapM_len he]; simp
    have hzl : len * P.bytesOf e ≤ 140737488351232 := by
      have h1 : elems.length * P.bytesOf e ≤ (elems.length + rest.length) * P.bytesOf e := Nat.mul_le_mul_right _ (by omega)
      have h2 : (elems.length + rest.length) * P.bytesOf e ≤ 140737488351232 := hz1
      exact Nat.le_trans (by rw [← hel]; exact h1) h2
    have hat : ∀ i, i < len → ∃ cs, w.cells? 0 (a.add (i * P.cellsOf e)) (P.cellsOf e) = some cs ∧ ∃ p, HasT P e p ∧ RelC w imm p cs := by
      intro i hi
      obtain ⟨b, hb, hf⟩ := Lib.mapM_at he i i (by simp [hi])
      simp only [Option.bind_eq_some_iff] at hf
      obtain ⟨cs, h1, h2⟩ := hf
      obtain ⟨p, h3, h4⟩ := ih cs b.1 b.2 h2 (weights_all hz2 b.1 (List.mem_map.2 ⟨b, List.mem_of_getElem? hb, rfl⟩))
      exact ⟨cs, h1, p, h3, h4⟩
    have hex : ∃ l : List PV, l.length = len ∧ ∀ (i : Nat) (x : PV), l[i]? = some x → HasT P e x ∧ ∃ cs, w.cells? 0 (a.add (i * P.cellsOf e)) (P.cellsOf e) = some cs ∧ RelC w imm x cs := by
      refine ⟨(List.range len).map fun i => if h : i < len then (hat i h).choose_spec.2.choose else .undef, by simp, fun i x hx => ?_⟩
      simp only [List.getElem?_map, Option.map_eq_some_iff] at hx
      obtain ⟨j, hj, rfl⟩ := hx
      obtain ⟨hlt, hji⟩ := List.getElem?_eq_some_iff.1 hj
      simp at hlt hji
      subst hji
      rw [dif_pos hlt]
      exact ⟨(hat i hlt).choose_spec.2.choose_spec.1, _, (hat i hlt).choose_spec.1, (hat i hlt).choose_spec.2.choose_spec.2⟩
    obtain ⟨l, hl, hle⟩ := hex
    refine ⟨.list l, .list _ _ _ hu (by omega) (by rw [hl]; exact hzl) (fun i x hx => (hle i x hx).1), relC_one rfl ?_ rfl⟩
    by_cases h0 : len = 0
    · have : l = [] := List.eq_nil_of_length_eq_zero (by omega)
      subst this
      rw [h0]
      exact .lnil _ _ hcm
    · have hcell : ∀ (i : Nat) (x : PV) (j : Nat) (y : PV), l[i]? = some x → x.cells[j]? = some y → ∃ v, w.cell? ((a.add (i * P.cellsOf e)).add j) = some v ∧ w.cell? ⟨a.block, a.off + i * P.cellsOf e + j, none⟩ = some v ∧ PRel w imm y v ∧ v.oneCell' = true := by
        intro i x j y hx hy
        obtain ⟨_, cs, h1, h2, h3⟩ := hle i x hx
        obtain ⟨k1, k2⟩ := cells_at h1
        have hj : j < cs.length := by rw [← h2]; exact (List.getElem?_eq_some_iff.1 hy).1
        have h4 := h3 j y hy
        have h5 := k2 j _ (List.getElem?_eq_getElem hj)
        refine ⟨cs[j], h5, ?_, ?_⟩
        · have := cell_add h5
          rw [add_block, add_off] at this; exact this
        · simpa [List.getD_eq_getElem?_getD, hj] using h4
      have hlen : ∀ (i : Nat) (x : PV), l[i]? = some x → x.cells.length = P.cellsOf e := by
        intro i x hx
        obtain ⟨_, cs, h1, h2, _⟩ := hle i x hx
        rw [h2, (cells_at h1).1]
      obtain ⟨b, off, spot⟩ := a
      have hspot : spot = none := by
        have hx := List.getElem?_eq_getElem (show 0 < l.length by omega)
        have hy := List.getElem?_eq_getElem (show 0 < (l[0]'(by omega)).cells.length by rw [hlen 0 _ hx]; exact hpos)
        obtain ⟨v, hv, _⟩ := hcell 0 _ 0 _ hx hy
        have := World.cell?_spot hv
        simpa [Addr.add] using this
      subst hspot
      have := PRel.list (w := w) (imm := imm) l b off cap (P.cellsOf e) (fun i j => (w.cell? ⟨b, off + i * P.cellsOf e + j, none⟩).getD Go.undef) (by omega) hcm hlen (fun i x j y hx hy => by
          obtain ⟨v, _, hv, _, h1⟩ := hcell i x j y hx hy
          have hv' : w.cell? ⟨b, off + i * P.cellsOf e + j, none⟩ = some v := hv
          have hb := World.block_lt_of_cell? w _ hv'
          exact ⟨himm _ _ hb, by rw [hv']; rfl, by rw [hv']; exact h1⟩) (fun i x j y hx hy => by
          obtain ⟨v, _, hv, h1, _⟩ := hcell i x j y hx hy
          have hv' : w.cell? ⟨b, off + i * P.cellsOf e + j, none⟩ = some v := hv
          rw [hv']; exact h1)
      rw [hl] at this
      exact this
  · cases h
theorem struct_rel {t : TypeId} {fs : Array Field} {cs : List Value} {R : TypeId → List Value → Option (DataW H × List MemPlace)} {d : DataW H} {ps : List MemPlace} (hu : P.underlying t = some (.struct fs))
    (hstep : ((match layT P fs.toList 0 with
      | some n => decide (n = P.cellsOf t)
      | none => false) && fs.toList.all fun f => ts.contains f.type) = true)
    (hz : (d.weights P t).all (· ≤ reachBytes) = true) (ih : ∀ t cs d ps, t ∈ ts → R t cs = some (d, ps) → (d.weights P t).all (· ≤ reachBytes) = true → ∃ p, HasT P t p ∧ RelC w imm p cs)
    (h : (if cs.length = P.cellsOf t then Option.map (fun xs => (DataW.agg (List.map (fun x => x.fst) xs), List.flatMap (fun x => x.snd) xs)) (List.mapM (fun f => R f.type (List.take (P.cellsOf f.type) (List.drop f.offset cs))) fs.toList) else none) = some (d, ps)) :
    ∃ p, HasT P t p ∧ RelC w imm p cs := by
  split at h
  · rename_i hcs
    simp only [Option.map_eq_some_iff, Prod.mk.injEq] at h
    obtain ⟨xs, hxs, rfl, _⟩ := h
    simp only [DataW.weights, hu] at hz
    simp only [Bool.and_eq_true] at hstep
    obtain ⟨h1, h2⟩ := hstep
    split at h1
    · rename_i n hn
      simp only [decide_eq_true_eq] at h1
      subst h1
      obtain ⟨qs, k1, k2, k3⟩ := fields_rel (w := w) (imm := imm) (P := P) (ts := ts) (H := H) hcs (F := fun f => R f.type (List.take (P.cellsOf f.type) (List.drop f.offset cs))) (fun f x hx hz hf => ih f.type _ x.1 x.2 hf hx hz) fs.toList 0 xs hn (fun f hf => by simpa using (List.all_eq_true.1 h2) f hf) hxs hz
      refine ⟨.agg qs, .agg _ fs _ hu (by omega) (fun i f hf => ?_), by simp only [PV.cells]; omega, fun i x hx => ?_⟩
      · have := k3 f (List.mem_of_getElem? hf)
        rwa [Nat.sub_zero] at this
      · have := k2 i x hx
        rwa [Nat.zero_add] at this
    · cases h1
  · cases h
def arrF (P : Program) (e : TypeId) : Nat → Nat → List Field
  | 0, _ => []
  | n + 1, k => { (default : Field) with type := e, offset := k * P.cellsOf e } :: arrF P e n (k + 1)
theorem arrF_lay (P : Program) (e : TypeId) : ∀ n k, layT P (arrF P e n k) (k * P.cellsOf e) = some ((k + n) * P.cellsOf e)
  | 0, k => by simp [arrF, layT]
  | n + 1, k => by
    rw [arrF, layT, if_pos rfl]
    have := arrF_lay P e n (k + 1)
    simp only
    rw [show k * P.cellsOf e + P.cellsOf e = (k + 1) * P.cellsOf e by rw [Nat.succ_mul], this]
    congr 2; omega
theorem arrF_mem {P : Program} {e : TypeId} : ∀ {n k : Nat} {f : Field}, f ∈ arrF P e n k → f.type = e
  | 0, _, _, h => by cases h
  | n + 1, k, f, h => by
    rcases List.mem_cons.1 h with rfl | h
    · rfl
    · exact arrF_mem h
theorem arrF_at {P : Program} {e : TypeId} : ∀ {n k i : Nat}, i < n → ∃ f, f ∈ arrF P e n k ∧ f.type = e ∧ f.offset = (k + i) * P.cellsOf e
  | 0, _, _, h => by omega
  | n + 1, k, 0, _ => ⟨_, List.mem_cons_self, rfl, by simp⟩
  | n + 1, k, i + 1, h => by
    obtain ⟨f, h1, h2, h3⟩ := arrF_at (P := P) (e := e) (n := n) (k := k + 1) (i := i) (by omega)
    exact ⟨f, List.mem_cons_of_mem _ h1, h2, by rw [h3]; congr 1; omega⟩
theorem arrF_mapM {α : Type} {P : Program} {e : TypeId} {R : TypeId → List Value → Option α} {cs : List Value} : ∀ (n k : Nat), (List.range' k n).mapM (fun i => R e ((cs.drop (i * P.cellsOf e)).take (P.cellsOf e))) = (arrF P e n k).mapM (fun f => R f.type ((cs.drop f.offset).take (P.cellsOf f.type)))
  | 0, k => by simp [arrF]
  | n + 1, k => by
    rw [List.range'_succ, arrF, List.mapM_cons, List.mapM_cons, arrF_mapM n (k + 1)]
theorem arrF_weights {P : Program} {e : TypeId} : ∀ (n k : Nat) (l : List (DataW H)), l.length = n → DataW.weightsEach P ((arrF P e n k).map (·.type)) l = DataW.weightsAll P e l
  | 0, k, l, h => by
    obtain rfl := List.eq_nil_of_length_eq_zero h
    simp [arrF, DataW.weightsEach, DataW.weightsAll]
  | n + 1, k, l, h => by
    cases l with
    | nil => simp at h
    | cons d r =>
      simp only [arrF, List.map_cons, DataW.weightsEach, DataW.weightsAll]
      rw [arrF_weights n (k + 1) r (by simpa using h)]
theorem arr_rel {t e : TypeId} {n : Nat} {cs : List Value} {R : TypeId → List Value → Option (DataW H × List MemPlace)} {d : DataW H} {ps : List MemPlace} (hu : P.underlying t = some (.array n e))
    (hstep : ts.contains e = true ∧ n * P.cellsOf e = P.cellsOf t)
    (hz : (d.weights P t).all (· ≤ reachBytes) = true) (ih : ∀ t cs d ps, t ∈ ts → R t cs = some (d, ps) → (d.weights P t).all (· ≤ reachBytes) = true → ∃ p, HasT P t p ∧ RelC w imm p cs)
    (h : (if cs.length = P.cellsOf t then Option.map (fun xs => (DataW.agg (List.map (fun x => x.fst) xs), List.flatMap (fun x => x.snd) xs)) (List.mapM (fun i => R e (List.take (P.cellsOf e) (List.drop (i * P.cellsOf e) cs))) (List.range n)) else none) = some (d, ps)) :
    ∃ p, HasT P t p ∧ RelC w imm p cs := by
  split at h
  · rename_i hcs
    simp only [Option.map_eq_some_iff, Prod.mk.injEq] at h
    obtain ⟨xs, hxs, rfl, _⟩ := h
    have hxl : xs.length = n := by rw [mapM_len hxs]; simp
    rw [List.range_eq_range', arrF_mapM n 0] at hxs
    simp only [DataW.weights, hu] at hz
    rw [← arrF_weights (P := P) n 0 _ (by simpa using hxl)] at hz
    have hlay := arrF_lay P e n 0
    rw [Nat.zero_mul, Nat.zero_add, hstep.2] at hlay
    obtain ⟨qs, k1, k2, k3⟩ := fields_rel (w := w) (imm := imm) (P := P) (ts := ts) (H := H) hcs (F := fun f => R f.type (List.take (P.cellsOf f.type) (List.drop f.offset cs))) (fun f x hx hz hf => ih f.type _ x.1 x.2 hf hx hz) (arrF P e n 0) 0 xs hlay
      (fun f hf => by rw [arrF_mem hf]; simpa using hstep.1) hxs hz
    refine ⟨.agg qs, .arr _ e n _ hu (by omega) (fun i hi => ?_), by simp only [PV.cells]; omega, fun i x hx => ?_⟩
    · obtain ⟨f, hf, h1, h2⟩ := arrF_at (P := P) (e := e) (k := 0) hi
      have := k3 f hf
      rwa [h1, h2, Nat.sub_zero, Nat.zero_add] at this
    · have := k2 i x hx
      rwa [Nat.zero_add] at this
  · cases h
theorem trod_rel (hts : okTs P ts = true) (himm : ∀ b o, b < w.heap.size → imm b o) : ∀ (fuel : Nat) (t : TypeId) (cs : List Value) (d : DataW H) (ps : List MemPlace), t ∈ ts → DataW.trod enc P w 0 spare held fuel t cs = some (d, ps) → (d.weights P t).all (· ≤ reachBytes) = true → ∃ p, HasT P t p ∧ RelC w imm p cs
  | 0, t, cs, d, ps, _, h, _ => by simp [DataW.trod] at h
  | fuel + 1, t, cs, d, ps, ht, h, hz => by
    have hstep := (List.all_eq_true.1 hts) t ht
    unfold okStep at hstep
    rw [DataW.trod.eq_def] at h
    simp only at h
    cases hu : P.underlying t with
    | none => rw [hu] at hstep; simp at hstep
    | some u =>
      rw [hu] at hstep h
      cases u with
      | bool =>
        split at h
        all_goals first
          | (rename_i b h1; exact ⟨.bool b, .bool _ _ hu, relC_one rfl (.bool _) rfl⟩)
          | (exfalso; simp_all; done)
          | skip
      | int k =>
        split at h
        all_goals first
          | (rename_i k' k2 n heq
             simp only [Option.some.injEq, TypeDesc.int.injEq] at heq
             subst heq
             split at h
             · rename_i hh
               obtain ⟨rfl, hw⟩ := hh
               exact ⟨.int _ n, .int _ _ _ hu hw, relC_one rfl (.int _ _) rfl⟩
             · cases h)
          | (exfalso; simp_all; done)
          | skip
      | string =>
        split at h
        all_goals first
          | (rename_i s _
             split at h
             · rename_i hh
               cases h
               simp only [DataW.weights, List.all_cons, List.all_nil, Bool.and_true, decide_eq_true_eq] at hz
               exact ⟨.str s.data.toList, .str _ _ hu hz, relC_one rfl (.str _ hh) rfl⟩
             · cases h)
          | (exfalso; simp_all; done)
          | skip
      | slice e =>
        split at h
        all_goals first
          | (exact ⟨.list [], .list _ _ _ hu (by simp) (by simp) (by simp), relC_one rfl (.lnil none 0 (by simp)) rfl⟩)
          | (rename_i e' a len cap heq
             simp only [Option.some.injEq, TypeDesc.slice.injEq] at heq
             subst heq
             simp only [Bool.and_eq_true, decide_eq_true_eq] at hstep
             exact slice_rel hu hstep.2 hz (fun cs d ps h hz => trod_rel hts himm fuel _ cs d ps (by simpa using hstep.1) h hz) himm h)
          | (exfalso; simp_all; done)
          | skip
      | struct fs =>
        split at h
        all_goals first
          | (rename_i fs' heq
             simp only [Option.some.injEq, TypeDesc.struct.injEq] at heq
             subst heq
             exact struct_rel hu hstep hz (fun t cs d ps ht h hz => trod_rel hts himm fuel t cs d ps ht h hz) h)
          | (exfalso; simp_all; done)
          | skip
      | array n e =>
        simp only [Bool.and_eq_true, decide_eq_true_eq] at hstep
        split at h
        all_goals first
          | (rename_i n' e' heq
             simp only [Option.some.injEq, TypeDesc.array.injEq] at heq
             obtain ⟨rfl, rfl⟩ := heq
             exact arr_rel hu hstep hz (fun t cs d ps ht h hz => trod_rel hts himm fuel t cs d ps ht h hz) h)
          | (exfalso; simp_all; done)
          | skip
      | _ => simp at hstep
end
end Go.Ab
set_option linter.unusedVariables false
set_option linter.unusedSimpArgs false
namespace Go.Ab
open Go Go.RowKit Go.ChangeShapes Go.WideShapes
section
variable {H : Type} {enc : TypeId × Value → H} {P : Program} {W : World} {ts : List TypeId} {base : Nat}
def immOf (W : World) : Nat → Nat → Prop := fun b _ => b < W.heap.size
theorem arg_rel (hts : okTs P ts = true) {t : TypeId} (ht : t ∈ ts) {v : Value} {d : DataW H} {p : List MemPlace} (hok : Value.okWide P W .any base t v) (h : DataW.Trod enc P W 0 (fun _ => true) true t v d p) (hz : (d.weights P t).all (· ≤ reachBytes) = true) :
    ∃ x, HasT P t x ∧ PRel W (immOf W) x v := by
  obtain ⟨fuel, hf⟩ := h
  obtain ⟨x, h1, h2⟩ := trod_rel (w := W) (imm := immOf W) hts (fun b o h => h) fuel t _ d p ht hf hz
  refine ⟨x, h1, ?_⟩
  cases h1 with
  | bool _ b hu => obtain ⟨b', rfl⟩ := okWide_bool hu hok; exact relC_val (.bool _ _ hu) h2 (by simp [isAggT, hu]) (fun _ => rfl)
  | int _ k n hu hw => obtain ⟨b', rfl⟩ := okWide_int hu hok; exact relC_val (.int _ _ _ hu hw) h2 (by simp [isAggT, hu]) (fun _ => rfl)
  | str _ s hu hs => obtain ⟨b', rfl⟩ := okWide_string hu hok; exact relC_val (.str _ _ hu hs) h2 (by simp [isAggT, hu]) (fun _ => rfl)
  | list _ e l hu hl hl2 hle => obtain ⟨a, len, cap, rfl⟩ := okWide_slice hu hok; exact relC_val (.list _ _ _ hu hl hl2 hle) h2 (by simp [isAggT, hu]) (fun _ => rfl)
  | arr _ e n cs hu hl hle =>
    have hok' := hok
    simp only [Value.okWide, hu] at hok'
    obtain ⟨cs', rfl, _⟩ := hok'
    exact relC_val (.arr _ _ _ _ hu hl hle) h2 (fun _ => ⟨_, rfl⟩) (by simp [isAggT, hu])
  | agg _ fs cs hu hl hle => obtain ⟨cs', rfl, _⟩ := okWide_struct hu hok; exact relC_val (.agg _ _ _ hu hl hle) h2 (fun _ => ⟨_, rfl⟩) (by simp [isAggT, hu])
theorem args_rel (hts : okTs P ts = true) : ∀ (tys : List TypeId) (vs : List Value) (ds : List (DataW H)) (p : List MemPlace), (∀ t ∈ tys, t ∈ ts) → (∀ (j : Nat) (t : TypeId) (v : Value), tys[j]? = some t → vs[j]? = some v → Value.okWide P W .any base t v) →
    DataW.TrodAll enc P W 0 (fun _ => true) true tys vs ds p → (DataW.weightsEach P tys ds).all (· ≤ reachBytes) = true → vs.length = tys.length ∧ ds.length = tys.length ∧ ∃ xs : List PV, xs.length = tys.length ∧ (∀ (i : Nat) (x : PV), xs[i]? = some x → PRel W (immOf W) x (vs.getD i Go.undef)) ∧ (∀ (i : Nat) (t : TypeId) (x : PV), tys[i]? = some t → xs[i]? = some x → HasT P t x)
  | [], vs, ds, p, _, _, h, _ => by
    cases vs <;> cases ds <;> simp [DataW.TrodAll] at h
    exact ⟨rfl, rfl, [], rfl, by simp, by simp⟩
  | t :: tys, vs, ds, p, ht, hok, h, hz => by
    obtain ⟨v, vs', d, ds', p', q', rfl, rfl, rfl, h1, h2⟩ := trodAll_cons h
    simp only [DataW.weightsEach, List.all_append, Bool.and_eq_true] at hz
    obtain ⟨x, k1, k2⟩ := arg_rel (base := base) hts (ht t (by simp)) (hok 0 t v rfl rfl) h1 hz.1
    obtain ⟨l1, l2, xs, l3, l4, l5⟩ := args_rel hts tys vs' ds' q' (fun t h => ht t (by simp [h])) (fun j t v h1 h2 => hok (j + 1) t v (by simpa using h1) (by simpa using h2)) h2 hz.2
    refine ⟨by simp [l1], by simp [l2], x :: xs, by simp [l3], fun i y hy => ?_, fun i t' y ht' hy => ?_⟩
    · cases i with
      | zero => simp only [List.getElem?_cons_zero, Option.some.injEq] at hy; subst hy; simpa using k2
      | succ i => simpa using l4 i y (by simpa using hy)
    · cases i with
      | zero =>
        simp only [List.getElem?_cons_zero, Option.some.injEq] at hy ht'
        subst hy; subst ht'; exact k1
      | succ i => exact l5 i t' y (by simpa using ht') (by simpa using hy)
theorem trodAll_lt : ∀ (tys : List TypeId) (vs : List Value) (ds : List (DataW H)) (p : List MemPlace), DataW.TrodAll enc P W 0 (fun _ => true) true tys vs ds p → ∀ x ∈ p, x.block < W.heap.size
  | [], vs, ds, p, h => by
    cases vs <;> cases ds <;> simp [DataW.TrodAll] at h
    subst h; simp
  | t :: tys, vs, ds, p, h => by
    obtain ⟨v, vs', d, ds', p', q', rfl, rfl, rfl, ⟨m, hm⟩, h2⟩ := trodAll_cons h
    intro x hx
    rcases List.mem_append.1 hx with hx | hx
    · exact DataW.trod_lt m _ _ _ hm x hx
    · exact trodAll_lt tys vs' ds' q' h2 x hx
theorem args_back (hlaid : laidOutB P = true) {W' : World} (hb : Below W.heap.size W W') : ∀ (tys : List TypeId) (vs : List Value) (ds : List (DataW H)) (p : List MemPlace), (∀ t ∈ tys, P.readableRec t = true ∧ t < P.types.size) →
    DataW.TrodAll enc P W 0 (fun _ => true) true tys vs ds p → DataW.TrodAll enc P W' 0 (fun b => decide (b < W.heap.size)) true tys vs ds p
  | [], vs, ds, p, _, h => by
    cases vs <;> cases ds <;> simp [DataW.TrodAll] at h
    subst h
    exact trodAll_mk0
  | t :: tys, vs, ds, p, ht, h => by
    have hlt := trodAll_lt _ _ _ _ h
    obtain ⟨v, vs', d, ds', p', q', rfl, rfl, rfl, h1, h2⟩ := trodAll_cons h
    exact trodAll_cons_mk (Below.trod hlaid (ht t (by simp)).1 (ht t (by simp)).2 h1 hb (fun x hx => hlt x (List.mem_append.2 (.inl hx)))) (args_back hlaid hb tys vs' ds' q' (fun t h => ht t (by simp [h])) h2)
theorem weightsEach_left : ∀ (ts us : List TypeId) (ds gs : List (DataW H)), (DataW.weightsEach P (ts ++ us) (ds ++ gs)).all (· ≤ reachBytes) = true → (DataW.weightsEach P ts ds).all (· ≤ reachBytes) = true
  | [], _, _, _, _ => by simp [DataW.weightsEach]
  | _ :: _, _, [], _, _ => by simp [DataW.weightsEach]
  | t :: ts, us, d :: ds, gs, h => by
    simp only [List.cons_append, DataW.weightsEach, List.all_append, Bool.and_eq_true] at h ⊢
    exact ⟨h.1, weightsEach_left ts us ds gs h.2⟩
theorem law_post {f : FuncId} {fn : Func} {s : ChangeSpec} {args : Array Value} {ds gs : List (DataW H)} {before : List MemPlace} {G : Nat → List PV} {tb : TypeId}
    (hs : s.vars = []) (hlaid : laidOutB P = true) (hread : ∀ t ∈ fn.params.toList, P.readableRec t = true ∧ t < P.types.size) (hts : okTs P ts = true) (htys : ∀ t ∈ fn.params.toList, t ∈ ts)
    (hres : fn.resultTypes = #[tb]) (htb : P.underlying tb = some .bool)
    (hfn : ∀ ds : List (DataW H), ds.length = fn.params.toList.length → s.fn H ds = { results := [.lit (.bool true)], args := ds })
    (hval : ∀ (j : Nat) (t : TypeId) (v : Value), fn.params[j]? = some t → args[j]? = some v → Value.okWide P W .any base t v) (hW : DataW.Whole enc P fn.params.toList s.vars false W args.toList ds gs before)
    (hsz : (DataW.weightsEach P (fn.params.toList ++ s.plain.varTypes P) (ds ++ gs)).all (· ≤ reachBytes) = true)
    (hG : GlobOk G W (immOf W))
    (hlaw : ∀ ps : List PV, ps.length = fn.params.toList.length → (∀ (i : Nat) (t : TypeId) (x : PV), fn.params.toList[i]? = some t → ps[i]? = some x → HasT P t x) → Pure P G f ps (.bool true)) :
    Calls P f args W fun e W' => ∃ v, e = .returned v ∧ s.post enc P fn false true false false W args v W' := by
  have hW' := hW
  obtain ⟨p, q, hA, hV, rfl, hfz, hnd⟩ := hW
  rw [hs] at hV
  obtain ⟨rfl, rfl⟩ := trodVars_none hV
  obtain ⟨l1, l2, xs, l3, l4, l5⟩ := args_rel (base := base) hts fn.params.toList args.toList ds p htys (fun j t v h1 h2 => hval j t v (by simpa using h1) (by simpa using h2)) hA (weightsEach_left _ _ _ _ hsz)
  obtain ⟨_, hP⟩ := hlaw xs l3 l5
  refine (hP W (immOf W) args hG (fun b o h => h) (by rw [l3, ← l1]; simp) (fun i x hx => by rw [getD_toList]; exact l4 i x hx)).mono ?_
  rintro e W' ⟨u, imm', rfl, hb, _, _, _, hu⟩
  cases hu
  refine ⟨_, rfl, ds, [], _, [], p, [], hW', ?_, ?_, ?_, hb.frame _, fun h => by cases h⟩
  · rw [hres, List.append_nil, hfn ds l2]
    exact trodAll_mk1 (shut_bool htb _)
  · rw [List.append_nil, hfn ds l2]
    exact args_back hlaid hb _ _ _ _ hread hA
  · rw [hs, List.append_nil, hfn ds l2]
    rfl
end
end Go.Ab
set_option linter.unusedVariables false
set_option linter.unusedSimpArgs false
namespace Go.Ab
open Go
section
variable {P : Program} {G : Nat → List PV}
theorem lookB_head (B : Blk) (bs : List Blk) (r : Nat) : lookB r (enumB (B :: bs) 0) = if r = 0 then B else lookB r (enumB bs 1) := by
  simp only [enumB, lookB]
  by_cases h : r = 0
  · subst h; simp
  · rw [if_neg (fun e => h e.symm), if_neg h]
theorem ctx_head {κ : Kap} {B C : Blk} {bs : List Blk} (h : (B ≠ .none ↔ C ≠ .none) ∨ κ.nm 0 = some (.own (.slice none 0 0))) :
    ctxOf κ (fun r => lookB r (enumB (B :: bs) 0)) G = ctxOf κ (fun r => lookB r (enumB (C :: bs) 0)) G := by
  have main : ∀ (B C : Blk) (b : Nat), ((B ≠ .none ↔ C ≠ .none) ∨ κ.nm 0 = some (.own (.slice none 0 0))) →
      (∃ r d, lookB r (enumB (B :: bs) 0) ≠ .none ∧ κ.nm r = some d ∧ d.block = some b) → ∃ r d, lookB r (enumB (C :: bs) 0) ≠ .none ∧ κ.nm r = some d ∧ d.block = some b := by
    rintro B C b h ⟨r, d, h1, h2, h3⟩
    refine ⟨r, d, ?_, h2, h3⟩
    rw [lookB_head] at h1 ⊢
    by_cases hr : r = 0
    · rw [if_pos hr] at h1 ⊢
      rcases h with h | h
      · exact h.1 h1
      · subst hr
        rw [h] at h2; cases h2; cases h3
    · rw [if_neg hr] at h1 ⊢; exact h1
  unfold ctxOf
  congr 1
  funext b
  exact propext ⟨main B C b h, main C B b (h.imp Iff.symm id)⟩
theorem Lent.full {k f T sz len : Nat} {rest : List AV} {l : List AV} {bs bs' : List Blk} {v : AV} (hs : 0 < sz)
    (hn : len = 0 → l = [] → Lent P G k f (.pv .nils :: rest) (.none :: bs) v bs')
    (hf : ∀ cap, len ≤ cap → l.length ≤ cap * sz → Lent P G k f (.row 0 sz 0 len :: rest) (.cells T true (l ++ List.replicate (cap * sz - l.length) .any) :: bs) v bs') :
    Lent P G k f (.row 0 sz 0 len :: rest) (.cells T false l :: bs) v bs' := by
  refine ⟨(hf (max len l.length) (Nat.le_max_left _ _) (Nat.le_trans (Nat.le_max_right len _) (Nat.le_mul_of_pos_right _ hs))).1, fun κ vals hS hfresh hsz hargs => ?_⟩
  have h0 := hargs 0 _ rfl
  have hB := hS.blk 0
  rw [lookB_head, if_pos rfl] at hB
  generalize hu : vals.getD 0 Go.undef = u0 at h0
  cases h0 with
  | row0 _ _ hnm =>
    have hl : l = [] := by
      rcases hB with ⟨_, h, _⟩ | ⟨b, n, cs, h, _⟩
      · exact h
      · rw [hnm] at h; cases h
    have e := ctx_head (G := G) (κ := κ) (B := .cells T false l) (C := .none) (bs := bs) (.inr hnm)
    have hS' := SRel.drop hS 0
    have e2 : Store.set (fun r => lookB r (enumB (.cells T false l :: bs) 0)) 0 .none = fun r => lookB r (enumB (.none :: bs) 0) := by
      funext r
      simp only [Store.set]
      rw [lookB_head, lookB_head]
      by_cases hr : r = 0
      · rw [if_pos hr, if_pos hr]
      · rw [if_neg hr, if_neg hr, if_neg hr]
    rw [e2, e] at hS'
    rw [e]
    refine (hn rfl hl).2 κ vals hS' (by simpa using hfresh) (by simpa using hsz) (fun i x hx => ?_)
    cases i with
    | zero =>
      simp only [List.getElem?_cons_zero, Option.some.injEq] at hx
      subst hx
      rw [hu]; exact .pv _ _ .nils
    | succ i => exact hargs (i + 1) x hx
  | row _ _ _ _ b n cap hnm h1 h2 h3 h4 =>
    rcases hB with ⟨_, _, h⟩ | ⟨b', n', cs, g1, g2, g3, g4, g5, g6, g7⟩
    · rw [hnm] at h; cases h
    rw [hnm] at g1; cases g1
    have hcap := h2 rfl
    have hle : l.length ≤ cap * sz := by omega
    have e := ctx_head (G := G) (κ := κ) (B := .cells T false l) (C := .cells T true (l ++ List.replicate (cap * sz - l.length) .any)) (bs := bs) (.inl (by simp))
    have hS' : SRel (ctxOf κ (fun r => lookB r (enumB (.cells T true (l ++ List.replicate (cap * sz - l.length) .any) :: bs) 0)) G) κ (fun r => lookB r (enumB (.cells T true (l ++ List.replicate (cap * sz - l.length) .any) :: bs) 0)) := by
      rw [← e]
      have hz : ∀ r, lookB r (enumB (.cells T true (l ++ List.replicate (cap * sz - l.length) .any) :: bs) 0) ≠ .none → lookB r (enumB (.cells T false l :: bs) 0) ≠ .none := by
        intro r h
        rw [lookB_head] at h ⊢
        by_cases hr : r = 0
        · rw [if_pos hr]; simp
        · rw [if_neg hr] at h ⊢; exact h
      refine ⟨fun r => ?_, fun r r' d d' b h1 h2 => hS.apart r r' d d' b (hz r h1) (hz r' h2), fun r d b h1 => hS.mine r d b (hz r h1), hS.immLt, hS.glob⟩
      have hr0 : BRel κ r (lookB r (enumB (.cells T false l :: bs) 0)) := hS.blk r
      show BRel κ r (lookB r (enumB (.cells T true (l ++ List.replicate (cap * sz - l.length) .any) :: bs) 0))
      rw [lookB_head] at hr0 ⊢
      by_cases hr : r = 0
      · subst hr
        rw [if_pos rfl]
        refine .inr ⟨b, n, cs, hnm, g2, g3, ?_, fun _ => ?_, fun o x hx => ?_, g7⟩
        · simp; omega
        · simp; omega
        · by_cases ho : o < l.length
          · rw [List.getElem?_append_left ho] at hx
            exact g6 o x hx
          · rw [List.getElem?_append_right (by omega), List.getElem?_replicate] at hx
            split at hx
            · cases hx; exact .any _
            · cases hx
      · rw [if_neg hr] at hr0 ⊢; exact hr0
    rw [e]
    exact (hf cap h3 hle).2 κ vals hS' (by simpa using hfresh) (by simpa using hsz) hargs
end
def capB (sz s off : Nat) : Blk → Option AV
  | .cells _ f l => if f = true ∧ s = sz ∧ 0 < sz ∧ off = 0 then some (.pv (.int .i64 ((l.length / sz : Nat) : Int))) else none
  | _ => none
theorem rCap_row (sz : Nat) (σ : Store) (r s off len : Nat) : rCap sz σ (.row r s off len) = capB sz s off (σ r) := by
  simp only [rCap, capB]; cases σ r <;> rfl
theorem capB_ok {sz T n : Nat} {l : List AV} (hs : 0 < sz) (h : l.length = n * sz) : capB sz sz 0 (.cells T true l) = some (.pv (.int .i64 (n : Int))) := by
  refine Eq.trans (if_pos ⟨rfl, rfl, hs, rfl⟩ : (if true = true ∧ sz = sz ∧ 0 < sz ∧ 0 = 0 then _ else _) = _) ?_
  rw [h, Nat.mul_div_cancel _ hs]
def reslB (sz r s off : Nat) (h : Int) : Blk → Option AV
  | .cells _ f l => if f = true ∧ s = sz ∧ 0 < sz ∧ off = 0 ∧ 0 ≤ h ∧ h.toNat * sz ≤ l.length then some (.row r sz 0 h.toNat) else none
  | _ => none
theorem rResl_row (sz : Nat) (σ : Store) (r s off len : Nat) (k : IntKind) (h : Int) : rResl sz σ (.row r s off len) (.pv (.int k h)) = reslB sz r s off h (σ r) := by
  simp only [rResl, reslB]; cases σ r <;> rfl
theorem reslB_ok {sz r T n : Nat} {h : Int} {l : List AV} (hs : 0 < sz) (hh : h = (n : Int)) (hl : n * sz ≤ l.length) : reslB sz r sz 0 h (.cells T true l) = some (.row r sz 0 n) := by
  subst hh
  refine Eq.trans (if_pos ⟨rfl, rfl, hs, rfl, by omega, by simpa using hl⟩ : (if true = true ∧ sz = sz ∧ 0 < sz ∧ 0 = 0 ∧ 0 ≤ (n : Int) ∧ (n : Int).toNat * sz ≤ l.length then _ else _) = _) ?_
  rw [Int.toNat_natCast]
def srcB (sz s off len : Nat) : Blk → Option (Nat × List AV)
  | .cells _ _ l => if s = sz ∧ off + len * sz ≤ l.length then some (len, (l.drop off).take (len * sz)) else none
  | _ => none
theorem srcC_row (sz : Nat) (σ : Store) (r s off len : Nat) : srcC sz σ (.row r s off len) = srcB sz s off len (σ r) := by
  cases hh : σ r <;> simp [srcC, srcB, hh]
theorem srcC_ol (sz r : Nat) (σ : Store) (l : List PV) : srcC sz σ (.olist r sz l) = some (l.length, flat l) := by
  simp [srcC, elemsOf]
theorem srcB_ok {sz off len T : Nat} {f : Bool} {l : List AV} (h : off + len * sz ≤ l.length) : srcB sz sz off len (.cells T f l) = some (len, (l.drop off).take (len * sz)) := if_pos ⟨rfl, h⟩
def copyR (sz r s off len : Nat) : Blk → Option (Nat × List AV) → Option (AV × List (Nat × Blk))
  | .cells T f l, o => if s = sz then o.bind (copyB sz r off len T f l) else none
  | _, _ => none
theorem rCopy_row (sz : Nat) (σ : Store) (r s off len : Nat) (y : AV) : rCopy sz σ (.row r s off len) y = copyR sz r s off len (σ r) (srcC sz σ y) := by
  simp only [rCopy, copyR]; cases σ r <;> rfl
theorem copyR_ok {sz r off len T m n : Nat} {f : Bool} {l cs k : List AV} (hn : min m len = n) (h1 : off + n * sz ≤ l.length) (h2 : (cs.take (n * sz)).all AV.one = true) (hk : l.take off ++ cs.take (n * sz) ++ l.drop (off + n * sz) = k) :
    copyR sz r sz off len (.cells T f l) (some (m, cs)) = some (.pv (.int .i64 (n : Int)), [(r, .cells T f k)]) := by
  subst hn hk
  exact (if_pos rfl : (if sz = sz then _ else _) = _).trans (if_pos ⟨h1, h2⟩)
def apartB (r q : Nat) (k : List PV) : Blk → Blk → Option AV
  | .tok _ _, .cells _ f l => if r ≠ q ∧ f = true ∧ 0 < l.length ∧ 0 < k.length then some (.pv (.bool false)) else none
  | _, _ => none
theorem rApart_row (σ : Store) (r s q sz off len : Nat) (k : List PV) : rApart σ (.olist r s k) (.row q sz off len) = apartB r q k (σ r) (σ q) := by
  simp only [rApart, apartB]; cases σ r <;> cases σ q <;> rfl
theorem apartB_ok {r q e n T : Nat} {l : List PV} {k : List AV} (hne : r ≠ q) (hk : 0 < k.length) (hl : 0 < l.length) : apartB r q l (.tok e n) (.cells T true k) = some (.pv (.bool false)) := if_pos ⟨hne, rfl, hk, hl⟩
def appzB (e sz by_ : Nat) (zs : List PV) (new s off len : Nat) (k : Int) : Blk → Option (AV × List (Nat × Blk))
  | .cells _ f l => if f = true ∧ s = sz ∧ 0 < sz ∧ off = 0 ∧ 0 < k ∧ l.length < (len + k.toNat) * sz ∧ zs.length = sz ∧ zs.all PV.one = true ∧ room len k.toNat by_ = true then
        some (.row new sz 0 (len + k.toNat), [(new, .cells e false (l.take (len * sz) ++ (List.replicate k.toNat zs).flatten.map .pv))]) else none
  | _ => none
theorem rAppz_row (e sz by_ : Nat) (zs : List PV) (new : Nat) (σ : Store) (r s off len : Nat) (kd : IntKind) (k : Int) : rAppz e sz by_ zs new σ (.row r s off len) (.pv (.int kd k)) = appzB e sz by_ zs new s off len k (σ r) := by
  simp only [rAppz, appzB]; cases σ r <;> rfl
theorem appzB_ok {e sz by_ new len T n m : Nat} {zs : List PV} {k : Int} {l j : List AV} (hk : k = (n : Int)) (hm : len + n = m) (hs : 0 < sz) (h0 : 0 < n) (hl : l.length < m * sz) (hz : zs.length = sz)
    (ho : zs.all PV.one = true) (hr : room len n by_ = true) (hj : l.take (len * sz) ++ (List.replicate n zs).flatten.map .pv = j) : appzB e sz by_ zs new sz 0 len k (.cells T true l) = some (.row new sz 0 m, [(new, .cells e false j)]) := by
  subst hk hm hj
  refine Eq.trans (if_pos ⟨rfl, rfl, hs, rfl, by omega, hl, hz, ho, hr⟩ : (if true = true ∧ sz = sz ∧ 0 < sz ∧ 0 = 0 ∧ (0 : Int) < (n : Int) ∧ l.length < (len + (n : Int).toNat) * sz ∧ zs.length = sz ∧ zs.all PV.one = true ∧ room len (n : Int).toNat by_ = true then _ else _) = _) ?_
  rw [Int.toNat_natCast]
theorem app_nilT {e sz by_ new : Nat} {σ : Store} {y : PV} {r : List PV} (h1 : r.length + 1 ≤ 9223372036854775807) (h2 : (r.length + 1) * by_ ≤ 140737488355328) : appRow true e sz by_ new σ (.pv .nils) (some (y :: r)) = some (.row new sz 0 (r.length + 1), [(new, .cells e false (flat (y :: r)))]) := by
  simp only [appRow]; rw [if_pos (room_ok (by omega) (by simpa using h2))]
theorem rSliceL_lo {sz r off n i m o : Nat} {k : IntKind} {a : Int} (ha : a = (i : Int)) (h1 : i < n) (hs : 0 < sz) (hm : n - i = m) (ho : off + i * sz = o) : rSliceL sz (.row r sz off n) (some (.pv (.int k a))) none = some (.row r sz o m) := by
  subst ha hm ho
  rcases Nat.eq_zero_or_pos i with h | h
  · subst h; simpa using rSliceL_row0 hs
  · have := rSliceL_rowlo (sz := sz) (r := r) (off := off) (n := n) (k := k) (i := (i : Int)) (by omega) (by omega) hs
    simpa using this
section
variable (e : List (Nat × AV)) (σ : List (Nat × Blk)) (new : Nat)
theorem mRun_x (G : Nat → List PV) (o : XOp) : mRun G e σ new (.xop o) = xRun e σ new o := _root_.id rfl
theorem xRun_cap (sz : Nat) (x : AX) : xRun e σ new (.cap sz x) = withD [] (rCap sz (fun r => lookB r σ) (evE e x)) := by
  simp only [xRun, withD]; cases rCap sz (fun r => lookB r σ) (evE e x) <;> rfl
theorem xRun_resl (sz : Nat) (x h : AX) : xRun e σ new (.resl sz x h) = withD [] (rResl sz (fun r => lookB r σ) (evE e x) (evE e h)) := by
  simp only [xRun, withD]; cases rResl sz (fun r => lookB r σ) (evE e x) (evE e h) <;> rfl
theorem xRun_copy (sz : Nat) (x y : AX) : xRun e σ new (.copy sz x y) = rCopy sz (fun r => lookB r σ) (evE e x) (evE e y) := _root_.id rfl
theorem xRun_apart (x y : AX) : xRun e σ new (.apart x y) = withD [] (rApart (fun r => lookB r σ) (evE e x) (evE e y)) := by
  simp only [xRun, withD]; cases rApart (fun r => lookB r σ) (evE e x) (evE e y) <;> rfl
theorem xRun_appz (t sz by_ : Nat) (zs : List PV) (x k : AX) : xRun e σ new (.appz t sz by_ zs x k) = rAppz t sz by_ zs new (fun r => lookB r σ) (evE e x) (evE e k) := _root_.id rfl
theorem mReads_x (o : XOp) : mReads e (.xop o) = xReads e o := _root_.id rfl
theorem xReads_copy (sz : Nat) (x y : AX) : xReads e (.copy sz x y) = (evE e x).name ++ (evE e y).name := _root_.id rfl
theorem makesN_copy (sz : Nat) (x y : AX) : makesN (.xop (.copy sz x y)) = 0 := _root_.id rfl
end
attribute [push_cast] app_nilT rCap_row rResl_row srcC_ol srcC_row rCopy_row rApart_row rAppz_row mRun_x xRun_cap xRun_resl xRun_copy xRun_apart xRun_appz mReads_x xReads_copy makesN_copy
end Go.Ab
set_option linter.unusedVariables false
set_option linter.unusedSimpArgs false
namespace Go.Ab
open Go Go.RowKit Go.Proofs Go.Lib
section
variable {P : Program} {W : World}
theorem trod_len {H : Type} {enc : TypeId × Value → H} {w : World} {base : Nat} {sp : Nat → Bool} {held : Bool} {fuel n : Nat} {t e : TypeId} {cs : List Value} {x : DataW H × List MemPlace} (ht : P.underlying t = some (.array n e))
    (h : DataW.trod enc P w base sp held fuel t cs = some x) : cs.length = P.cellsOf t := by
  cases fuel with
  | zero => simp [DataW.trod] at h
  | succ fuel =>
    simp only [DataW.trod, ht] at h
    split at h
    · assumption
    · cases h
structure TabAt (w : World) (g : Nat) (ps : List PV) : Prop where
  obj : ∃ cs T fz, w.heap[g]? = some (.cells cs T fz) ∧ cs.size = ps.length
  cell : ∀ (o : Nat) (p : PV), ps[o]? = some p → ∃ k z, p = .int k z ∧ w.cell? ⟨g, o, none⟩ = some (.int k z)
theorem globOk_of {G : Nat → List PV} (h : ∀ g, G g ≠ [] → TabAt W g (G g)) : GlobOk G W (immOf W) := by
  refine ⟨fun g o p hp => ?_, fun g hg => (h g hg).obj⟩
  have hne : G g ≠ [] := by intro e; rw [e] at hp; simp at hp
  obtain ⟨k, z, rfl, hc⟩ := (h g hne).cell o p hp
  exact ⟨World.block_lt_of_cell? W _ hc, _, hc, rfl, .int _ _⟩
theorem tabAt_of {n : String} {g : Nat} {t e : TypeId} {m : Nat} {d : DataW Unit} {ps : List PV} (hv : VarReads P W n d) (hg : P.globalNamed n = some g) (hty : (P.globals[g]?).map (·.type) = some t) (ht : P.underlying t = some (.array m e)) (hl : P.cellsOf t = ps.length)
    (h : ∀ (o : Nat) (p : PV), ps[o]? = some p → ∃ k z, p = .int k z ∧ W.cell? ⟨g, o, none⟩ = some (.int k z)) : TabAt W g ps := by
  refine ⟨?_, h⟩
  obtain ⟨g', t', cs, fuel, p, hg', hty', hvar, hd⟩ := hv
  obtain rfl := Option.some.inj (hg.symm.trans hg')
  obtain rfl := Option.some.inj (hty.symm.trans hty')
  have hlen := trod_len ht hd
  unfold World.var? at hvar
  rw [hg] at hvar
  simp only [Option.bind_some] at hvar
  split at hvar
  · rename_i cs' T fz hh
    cases hvar
    exact ⟨cs, T, fz, hh, by rw [← hl, ← hlen]; simp⟩
  · cases hvar
theorem tabAt_ints {n : String} {g : Nat} {t e : TypeId} {m : Nat} {k : IntKind} {zs : List Int} (hv : VarReads P W n (Lib.tabData k zs)) (hg : P.globalNamed n = some g) (hty : (P.globals[g]?).map (·.type) = some t) (ht : P.underlying t = some (.array m e))
    (he : P.underlying e = some (.int k)) (hce : P.cellsOf e = 1) (hct : P.cellsOf t = m) (hm : m = zs.length) : TabAt W g (zs.map (PV.int k)) := by
  have hv' := hv
  refine tabAt_of hv hg hty ht (by rw [hct, hm]; simp) fun o p hp => ?_
  simp only [List.getElem?_map, Option.map_eq_some_iff] at hp
  obtain ⟨z, hz, rfl⟩ := hp
  refine ⟨k, z, rfl, ?_⟩
  obtain ⟨g', t', cs, fuel, q, hg', hty', hvar, hd⟩ := hv'
  obtain rfl := Option.some.inj (hg.symm.trans hg')
  obtain rfl := Option.some.inj (hty.symm.trans hty')
  have hcs := Lib.cells_of_tab ht he hce hct hd
  rw [World.var?_cell hg hvar o, ← Array.getElem?_toList, hcs]
  simp [hz]
end
end Go.Ab
