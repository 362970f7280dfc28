/- A program logic over the model: part 5 (a proof is built on it; nothing of the statement is said here). -/
import Derived.Lib.Join
import Derived.Lib.ItoaNum
import Derived.Lib.LaidTab
import Derived.Lib.AppendIntMem
import Derived.Lib.Strings
import Derived.Lib.Bytealg
import Derived.ChangeShapes
import Derived.ProofKit
import Derived.OpenShut
import Derived.ShutString
import Derived.ChangeOld
import Derived.Carry
import Derived.WideShapes
import Derived.Deep.DeepHandedRow
import Derived.Lib.LaidU8T
import Derived.Test.YtbaaokocnegdoaaGreatDoorCore4
set_option linter.unusedVariables false
set_option linter.unusedSimpArgs false
namespace Go.Ab
open Go Go.RowKit
def Kap.cut (κ : Kap) (k : Nat) : Kap := ⟨κ.w, fun r => if r < k then κ.nm r else none, κ.imm⟩
theorem Kap.cut_ext (κ : Kap) (k : Nat) : Ext (κ.cut k) κ := ⟨fun _ _ h => h, fun _ _ _ _ h => h, fun r d h => by
  simp only [Kap.cut] at h
  split at h
  · exact h
  · cases h⟩
theorem Kap.cut_none (κ : Kap) (k r : Nat) (h : k ≤ r) : (κ.cut k).nm r = none := by simp only [Kap.cut]; rw [if_neg (by omega)]
def LCalls (P : Program) (G : Nat → List PV) (k : Nat) (f : Nat) (args : List AV) (sto : List (Nat × Blk)) (next : Nat) (Q : AV → List (Nat × Blk) → Nat → Prop) : Prop :=
  Callable P f = true ∧ ∀ (κ : Kap) (vals : Array Value), SRel (ctxOf κ (fun r => lookB r sto) G) κ (fun r => lookB r sto) → (∀ r, next ≤ r → κ.nm r = none) → vals.size = args.length →
    (∀ (i : Nat) (x : AV), args[i]? = some x → ARel κ x (vals.getD i Go.undef)) →
    Calls P f vals κ.w fun e w' => ∃ u v κ' sto' next', e = .returned u ∧ κ'.w = w' ∧ Ext (κ.cut k) κ' ∧ Left (ctxOf κ (fun r => lookB r sto) G) κ.imm κ' ∧ ARel κ' v u ∧
      SRel (ctxOf κ (fun r => lookB r sto) G) κ' (fun r => lookB r sto') ∧ (∀ r, next' ≤ r → κ'.nm r = none) ∧ Q v sto' next'
section
variable {P : Program} {G : Nat → List PV}
theorem LCalls.of_code {muts : List Nat} {k f : Nat} {fn : AFn} {args : List AV} {sto : List (Nat × Blk)} {next : Nat} {R : AV → List (Nat × Blk) → Nat → Prop} (hc : cFn P muts f = some fn) (hn : args.length ≤ fn.N)
    (hv : vc P G k fn.body (FnK G fn.res R) ⟨initEnv args, sto, next⟩) : LCalls P G k f args sto next R := by
  unfold cFn at hc
  split at hc
  · rename_i fnc hfn
    split at hc
    · rename_i co hco
      split at hc
      · rename_i rs hrs
        split at hc
        · rename_i hok
          split at hc
          · rename_i b li hb
            cases hc
            refine ⟨hok, fun κ vals hS hf hsz hargs => ?_⟩
            refine calls_of_wp hfn hco ?_
            let c := ctxOf κ (fun r => lookB r sto) G
            have hsize : (vals ++ Array.replicate (fnc.ntmps - vals.size) Go.undef).size = fnc.ntmps := by
              simp only at hn
              simp only [Array.size_append, Array.size_replicate]; omega
            have hR : Rel c (κ.cut k) fnc.ntmps ⟨initEnv args, sto, next⟩ ⟨vals ++ Array.replicate (fnc.ntmps - vals.size) Go.undef, []⟩ κ.w κ := by
              refine ⟨rfl, κ.cut_ext k, hS, ⟨rfl, rfl, rfl, Nat.le_refl _, fun _ _ _ => rfl, fun _ _ h => .inl h⟩, fun i => ?_, hsize, rfl, hf⟩
              show ARel κ (look i ((args.zipIdx 0).map fun p => (p.2, p.1))) _
              rw [look_init, if_pos (Nat.zero_le _), Nat.sub_zero]
              cases hx : args[i]? with
              | none => exact .any _
              | some x =>
                have hi : i < vals.size := by rw [hsz]; exact (List.getElem?_eq_some_iff.1 hx).1
                have := hargs i x hx
                have e : (vals ++ Array.replicate (fnc.ntmps - vals.size) Go.undef).getD i Go.undef = vals.getD i Go.undef := by
                  simp only [Array.getD_eq_getD_getElem?]
                  rw [Array.getElem?_append_left hi]
                rw [e]; exact this
            refine Code.wp_mono ?_ (vc_sound (P := P) (c := c) (κ0 := κ.cut k) (N := fnc.ntmps) (fun r hr => κ.cut_none k r hr) co b [] (resLive rs) li (FnK G rs R) _ _ κ.w κ hb hR hv)
            have fin : ∀ (s : St) (κ' : Kap) (a : Act) (w : World), Rel c (κ.cut k) fnc.ntmps s a w κ' → onSome (resVs G s rs) (retK R s) → a.defers = [] ∧ ∃ v, (results fnc a.tmps).run P w = .ok v w ∧
                ∃ u v' κ'' sto' next', Ending.returned v = .returned u ∧ κ''.w = w ∧ Ext (κ.cut k) κ'' ∧ Left c κ.imm κ'' ∧ ARel κ'' v' u ∧ SRel c κ'' (fun r => lookB r sto') ∧ (∀ r, next' ≤ r → κ''.nm r = none) ∧ R v' sto' next' := by
              intro s κ' a w hR hF
              refine ⟨hR.defers, ?_⟩
              simp only [onSome] at hF
              split at hF
              · rename_i vs hvs
                obtain ⟨us, h1, h2, h3⟩ := res_sound (P := P) hR fnc.results.toList rs vs hrs hvs
                have hrun : (results fnc a.tmps).run P w = .ok (if h : us.toArray.size = 1 then us.toArray[0] else .tuple us.toArray) w := by
                  rw [results_eq, Sem.run_bind, Array.mapM_eq_mapM_toList]
                  simp only [Sem.run_bind, Sem.run_map]
                  rw [h1]
                  simp
                refine ⟨_, hrun, _, retV vs, κ', s.sto, s.next, rfl, hR.w_eq, hR.ext0, hR.left, ?_, hR.rel, hR.fresh, hF⟩
                by_cases hl : vs.length = 1
                · obtain ⟨v, rfl⟩ := List.length_eq_one_iff.1 hl
                  obtain ⟨u, rfl⟩ := List.length_eq_one_iff.1 (h2.trans hl)
                  have := h3 0 v rfl
                  exact this
                · have hul : ¬ us.toArray.size = 1 := by simpa [h2] using hl
                  rw [dif_neg hul]
                  have hrv : retV vs = mkTup vs := by
                    unfold retV
                    split
                    · simp at hl
                    · rfl
                  rw [hrv]
                  exact mkTup_rel (.tup _ _ (by simpa using h2) (fun i x hx => by rw [getD_toList]; simpa using h3 i x hx))
              · exact hF.elim
            intro e a w hq
            cases e with
            | normal =>
              obtain ⟨s, κ', hR, hF⟩ := hq
              exact fin s κ' a w hR hF
            | ret =>
              obtain ⟨s, κ', hR, hF⟩ := hq
              exact fin s κ' a w hR hF
            | exit id =>
              obtain ⟨s, κ', hR, hF⟩ := hq
              exact hF.elim
            | goto l => exact hq.elim
            | panic ch => exact hq.elim
            | outgrown => exact hq.elim
          · cases hc
        · cases hc
      · cases hc
    · cases hc
  · cases hc
def enumB : List Blk → Nat → List (Nat × Blk)
  | [], _ => []
  | b :: r, k => (k, b) :: enumB r (k + 1)
theorem lookB_enum : ∀ (bs : List Blk) (k i : Nat), lookB i (enumB bs k) = if k ≤ i then bs.getD (i - k) .none else .none
  | [], k, i => by simp [enumB, lookB]
  | b :: r, k, i => by
    simp only [enumB, lookB]
    by_cases h : k = i
    · subst h; simp
    · rw [if_neg h, lookB_enum r (k + 1) i]
      by_cases hk : k ≤ i
      · rw [if_pos (by omega), if_pos hk, show i - k = (i - (k + 1)) + 1 by omega]; simp
      · rw [if_neg (by omega), if_neg hk]
theorem lookB_enum0 (bs : List Blk) : (fun r => lookB r (enumB bs 0)) = fun r => bs.getD r .none := by
  funext r; rw [lookB_enum]; simp
def Lent (P : Program) (G : Nat → List PV) (k f : Nat) (args : List AV) (bs : List Blk) (v : AV) (bs' : List Blk) : Prop :=
  LCalls P G k f args (enumB bs 0) bs.length fun v' sto' next' => v' = v ∧ sto' = enumB bs' 0 ∧ next' = bs'.length
def lentR (k : Nat) (v : AV) (bs' : List Blk) (v' : AV) (sto' : List (Nat × Blk)) (next' : Nat) : Prop :=
  Wk k ⟨[(0, v')], sto', next'⟩ ⟨[(0, v)], enumB bs' 0, bs'.length⟩
theorem Lent.of_lcalls {k f : Nat} {args : List AV} {bs : List Blk} {v : AV} {bs' : List Blk} (h : LCalls P G k f args (enumB bs 0) bs.length (lentR k v bs')) : Lent P G k f args bs v bs' := by
  obtain ⟨hcal, h⟩ := h
  refine ⟨hcal, fun κ vals hS hf hsz hargs => (h κ vals hS hf hsz hargs).mono ?_⟩
  rintro e w' ⟨u, v', κ', sto', next', rfl, rfl, he, hL, hv, hS', hf', hw⟩
  obtain ⟨κ'', hR⟩ := hw _ (κ.cut k) κ' 1 ⟨#[u], []⟩ κ'.w (fun r hr => κ.cut_none k r hr) ⟨rfl, he, hS', hL, fun i => by
    show ARel κ' (look i [(0, v')]) _
    by_cases hi : 0 = i
    · subst hi; simpa [look] using hv
    · simp only [look, if_neg hi]; exact .any _, rfl, rfl, hf'⟩
  refine ⟨u, v, κ'', _, _, rfl, hR.w_eq, hR.ext0, hR.left, ?_, hR.rel, hR.fresh, rfl, rfl, rfl⟩
  have := hR.env 0
  simpa [St.E, look] using this
theorem Lent.intro {muts : List Nat} {k f : Nat} {fn : AFn} {args : List AV} {bs : List Blk} {v : AV} {bs' : List Blk} (hc : cFn P muts f = some fn) (hn : args.length ≤ fn.N)
    (hv : vc P G k fn.body (FnK G fn.res (lentR k v bs')) ⟨initEnv args, enumB bs 0, bs.length⟩) : Lent P G k f args bs v bs' :=
  Lent.of_lcalls (LCalls.of_code hc hn hv)
def gIn (next : Nat) : List Nat → Nat → Nat
  | [], i => next + i
  | r :: _, 0 => r
  | _ :: q, i + 1 => gIn next q i
def gSo (next : Nat) (rs : List Nat) (r : Nat) : Option Nat := some (gIn next rs r)
theorem gIn_lt (next : Nat) : ∀ (rs : List Nat) (i : Nat) (r : Nat), rs[i]? = some r → gIn next rs i = r
  | [], i, r, h => by simp at h
  | x :: q, 0, r, h => by simpa [gIn] using h
  | x :: q, i + 1, r, h => by simpa [gIn] using gIn_lt next q i r (by simpa using h)
theorem gIn_ge (next : Nat) : ∀ (rs : List Nat) (i : Nat), rs.length ≤ i → gIn next rs i = next + (i - rs.length)
  | [], i, h => by simp [gIn]
  | x :: q, 0, h => by simp at h
  | x :: q, i + 1, h => by
    simp only [List.length_cons] at h
    rw [gIn, gIn_ge next q i (by omega)]
    simp
mutual
theorem unren {κ κ' : Kap} (hw : κ'.w = κ.w) (hi : κ'.imm = κ.imm) {g : Nat → Nat} (hf : ∀ r, κ'.nm r = κ.nm (g r)) : ∀ (x : AV) (v : Value), ARel κ (x.ren fun r => some (g r)) v → ARel κ' x v
  | .pv p, v, h => by
    simp only [AV.ren] at h
    cases h with
    | pv _ _ hp => exact .pv _ _ (by rw [hw, hi]; exact hp)
  | .any, v, h => .any v
  | .ptr r o, v, h => by
    simp only [AV.ren] at h
    cases h with
    | ptr _ _ b n hn => exact .ptr _ _ b n (by rw [hf r]; exact hn)
  | .row r a b c, v, h => by
    simp only [AV.ren] at h
    cases h with
    | row _ _ _ _ bb n cap hn h1 h2 h3 h4 => exact .row _ _ _ _ bb n cap (by rw [hf r]; exact hn) h1 h2 h3 h4
    | row0 _ _ hn => exact .row0 _ _ (by rw [hf r]; exact hn)
  | .olist r a l, v, h => by
    simp only [AV.ren] at h
    cases h with
    | olist _ _ _ _ hn hp hs => exact .olist _ _ _ _ (by rw [hf r]; exact hn) (by rw [hw, hi]; exact hp) hs
  | .agg cs, v, h => by
    simp only [AV.ren] at h
    cases h with
    | agg _ vs hl hr =>
      obtain ⟨h1, h2⟩ := unrenL hw hi hf cs vs hr
      exact .agg _ _ (by rw [← h1]; exact hl) h2
  | .tup cs, v, h => by
    simp only [AV.ren] at h
    cases h with
    | tup _ vs hl hr =>
      obtain ⟨h1, h2⟩ := unrenL hw hi hf cs vs hr
      exact .tup _ _ (by rw [← h1]; exact hl) h2
  | .clo g fs cs, v, h => by
    simp only [AV.ren] at h
    cases h with
    | clo _ _ _ vs us hl hr hl' hr' =>
      obtain ⟨h1, h2⟩ := unrenL hw hi hf fs vs hr
      obtain ⟨h3, h4⟩ := unrenL hw hi hf cs us hr'
      exact .clo _ _ _ _ _ (by rw [← h1]; exact hl) h2 (by rw [← h3]; exact hl') h4
theorem unrenL {κ κ' : Kap} (hw : κ'.w = κ.w) (hi : κ'.imm = κ.imm) {g : Nat → Nat} (hf : ∀ r, κ'.nm r = κ.nm (g r)) : ∀ (xs : List AV) (vs : Array Value),
    (∀ (i : Nat) (x : AV), (AV.renL (fun r => some (g r)) xs)[i]? = some x → ARel κ x (vs.getD i Go.undef)) → (AV.renL (fun r => some (g r)) xs).length = xs.length ∧ ∀ (i : Nat) (x : AV), xs[i]? = some x → ARel κ' x (vs.getD i Go.undef)
  | [], vs, h => by simp [AV.renL]
  | x :: r, vs, h => by
    have e : ∀ i, (vs.extract 1 vs.size).getD i Go.undef = vs.getD (i + 1) Go.undef := by
      intro i
      simp only [Array.getD_eq_getD_getElem?, Array.getElem?_extract]
      by_cases hh : i < min vs.size vs.size - 1
      · rw [if_pos hh]; congr 2; omega
      · rw [if_neg hh, Array.getElem?_eq_none (by omega)]
    obtain ⟨h1, h2⟩ := unrenL hw hi hf r (vs.extract 1 vs.size) (fun i y hy => by
      have := h (i + 1) y (by simpa [AV.renL] using hy)
      rw [e]; exact this)
    refine ⟨by simp [AV.renL, h1], fun i y hy => ?_⟩
    cases i with
    | zero =>
      simp only [List.getElem?_cons_zero, Option.some.injEq] at hy
      subst hy
      exact unren hw hi hf x _ (h 0 _ (by simp [AV.renL]))
    | succ i =>
      simp only [List.getElem?_cons_succ] at hy
      have := h2 i y hy
      rw [e] at this; exact this
end
theorem BRel.unren {κ κ' : Kap} (hw : κ'.w = κ.w) (hi : κ'.imm = κ.imm) {g : Nat → Nat} (hf : ∀ r, κ'.nm r = κ.nm (g r)) {r : Nat} {B : Blk} (h : BRel κ (g r) (B.ren fun r => some (g r))) : BRel κ' r B := by
  cases B with
  | none => trivial
  | cells T f l =>
    simp only [Blk.ren] at h
    rcases h with ⟨h1, h2, h3⟩ | ⟨b, n, cs, h1, h2, h3, h4, h5, h6, h7⟩
    · refine .inl ⟨h1, ?_, by rw [hf]; exact h3⟩
      cases l with
      | nil => rfl
      | cons x r => simp [AV.renL] at h2
    · obtain ⟨q1, q2⟩ := unrenL hw hi hf l cs h6
      exact .inr ⟨b, n, cs, by rw [hf]; exact h1, by rw [hw]; exact h2, h3, by rw [← q1]; exact h4, fun hb => by rw [← q1]; exact h5 hb, q2, by rw [hi]; exact h7⟩
  | tok e sz =>
    simp only [Blk.ren] at h
    rcases h with h | ⟨g', n, cap, cur, h1, h2, h3⟩
    · exact .inl (by rw [hf]; exact h)
    · exact .inr ⟨g', n, cap, cur, by rw [hf]; exact h1, by rw [hw]; exact h2, by rw [hi]; exact h3⟩
theorem BRel.ren {κ κ' : Kap} (hw : κ'.w = κ.w) (hi : κ'.imm = κ.imm) {g : Nat → Nat} (hf : ∀ r, κ'.nm (g r) = κ.nm r) {r : Nat} {B : Blk} (h : BRel κ r B) : BRel κ' (g r) (B.ren fun r => some (g r)) := by
  have hf' : ∀ r r', (fun r => some (g r)) r = some r' → κ'.nm r' = κ.nm r := fun r r' h => by cases h; exact hf r
  cases B with
  | none => trivial
  | cells T f l =>
    simp only [Blk.ren]
    rcases h with ⟨h1, h2, h3⟩ | ⟨b, n, cs, h1, h2, h3, h4, h5, h6, h7⟩
    · exact .inl ⟨h1, by rw [h2]; simp only [AV.renL], by rw [hf]; exact h3⟩
    · obtain ⟨q1, q2⟩ := renL_rel hw hi hf' l cs h6
      exact .inr ⟨b, n, cs, by rw [hf]; exact h1, by rw [hw]; exact h2, h3, by rw [q1]; exact h4, fun hb => by rw [q1]; exact h5 hb, q2, by rw [hi]; exact h7⟩
  | tok e sz =>
    simp only [Blk.ren]
    rcases h with h | ⟨g', n, cap, cur, h1, h2, h3⟩
    · exact .inl (by rw [hf]; exact h)
    · exact .inr ⟨g', n, cap, cur, by rw [hf]; exact h1, by rw [hw]; exact h2, by rw [hi]; exact h3⟩
def outB (f : Nat → Option Nat) : List Blk → Nat → (Nat → Nat) → List (Nat × Blk)
  | [], _, _ => []
  | b :: r, i, g => (g i, b.ren f) :: outB f r (i + 1) g
def noneB : List Nat → List (Nat × Blk)
  | [] => []
  | r :: q => (r, .none) :: noneB q
def LentAt (sto : List (Nat × Blk)) (f : Nat → Option Nat) : List Nat → List Blk → Prop
  | [], [] => True
  | r :: rs, b :: bs => BlkZ (lookB r sto) (b.ren f) ∧ LentAt sto f rs bs
  | _, _ => False
theorem LentAt.get {sto : List (Nat × Blk)} {f : Nat → Option Nat} : ∀ {rs : List Nat} {bs : List Blk}, LentAt sto f rs bs → rs.length = bs.length ∧ ∀ (i r : Nat) (b : Blk), rs[i]? = some r → bs[i]? = some b → BlkZ (lookB r sto) (b.ren f)
  | [], [], h => ⟨rfl, by simp⟩
  | r :: rs, b :: bs, h => by
    obtain ⟨h1, h2⟩ := h
    obtain ⟨h3, h4⟩ := LentAt.get h2
    refine ⟨by simp [h3], fun i q d hq hd => ?_⟩
    cases i with
    | zero => simp at hq hd; subst hq; subst hd; exact h1
    | succ i => exact h4 i q d (by simpa using hq) (by simpa using hd)
  | [], _ :: _, h => h.elim
  | _ :: _, [], h => h.elim
end
end Go.Ab
set_option linter.unusedVariables false
set_option linter.unusedSimpArgs false
namespace Go.Ab
open Go Go.RowKit
section
variable {P : Program} {G : Nat → List PV}
theorem BRel.named {κ : Kap} {r : Nat} {B : Blk} (h : BRel κ r B) (hB : B ≠ .none) : ∃ d, κ.nm r = some d := by
  cases B with
  | none => exact absurd rfl hB
  | cells T f l =>
    rcases h with ⟨_, _, h⟩ | ⟨b, n, cs, h, _⟩
    · exact ⟨_, h⟩
    · exact ⟨_, h⟩
  | tok e sz =>
    rcases h with h | ⟨g, n, cap, cur, h, _⟩
    · exact ⟨_, h⟩
    · exact ⟨_, h⟩
theorem Blk.ren_ne {f : Nat → Option Nat} {b : Blk} : b.ren f ≠ .none ↔ b ≠ .none := by
  cases b <;> simp [Blk.ren]
theorem gIn_inj {next : Nat} {rs : List Nat} (hnd : rs.Nodup) (hlt : ∀ r ∈ rs, r < next) {i j : Nat} (h : gIn next rs i = gIn next rs j) : i = j := by
  by_cases hi : i < rs.length
  · have ei := gIn_lt next rs i _ (List.getElem?_eq_getElem hi)
    have hi' := hlt _ (List.getElem_mem hi)
    by_cases hj : j < rs.length
    · have ej := gIn_lt next rs j _ (List.getElem?_eq_getElem hj)
      rw [ei, ej] at h
      exact (List.getElem_inj hnd).1 h
    · have ej := gIn_ge next rs j (by omega)
      omega
  · have ei := gIn_ge next rs i (by omega)
    by_cases hj : j < rs.length
    · have ej := gIn_lt next rs j _ (List.getElem?_eq_getElem hj)
      have hj' := hlt _ (List.getElem_mem hj)
      omega
    · have ej := gIn_ge next rs j (by omega)
      omega
theorem lookB_out {f : Nat → Option Nat} {g : Nat → Nat} (hg : ∀ i j, g i = g j → i = j) (rest : List (Nat × Blk)) (r : Nat) : ∀ (bs : List Blk) (k : Nat),
    (∀ i b, bs[i]? = some b → g (k + i) = r → lookB r (outB f bs k g ++ rest) = b.ren f) ∧ ((∀ i, i < bs.length → g (k + i) ≠ r) → lookB r (outB f bs k g ++ rest) = lookB r rest)
  | [], k => ⟨by simp, fun _ => rfl⟩
  | b :: q, k => by
    obtain ⟨h1, h2⟩ := lookB_out hg rest r q (k + 1)
    refine ⟨fun i b' hi hr => ?_, fun h => ?_⟩
    · simp only [outB, List.cons_append, lookB]
      cases i with
      | zero =>
        simp only [List.getElem?_cons_zero, Option.some.injEq] at hi
        subst hi
        rw [if_pos (by simpa using hr)]
      | succ i =>
        rw [if_neg (fun e => by have := hg _ _ (e.trans hr.symm); omega)]
        exact h1 i b' (by simpa using hi) (by rw [← hr]; congr 1; omega)
    · simp only [outB, List.cons_append, lookB]
      rw [if_neg (by have := h 0 (by simp); simpa using this)]
      exact h2 fun i hi => by
        have := h (i + 1) (by simp; omega)
        rwa [show k + (i + 1) = k + 1 + i by omega] at this
theorem lookB_none (rest : List (Nat × Blk)) (r : Nat) : ∀ (l : List Nat), lookB r (noneB l ++ rest) = if r ∈ l then .none else lookB r rest
  | [] => by simp [noneB]
  | x :: q => by
    simp only [noneB, List.cons_append, lookB, lookB_none rest r q, List.mem_cons]
    by_cases h : x = r
    · subst h; simp
    · rw [if_neg h]
      by_cases hq : r ∈ q
      · simp [hq]
      · have : ¬ (r = x ∨ r ∈ q) := by rintro (e | e); exact h e.symm; exact hq e
        rw [if_neg hq, if_neg this]
theorem Lent.frame {k f : Nat} {args0 : List AV} {bs : List Blk} {v : AV} {bs' : List Blk} (h : Lent P G k f args0 bs v bs') {rs : List Nat} {args : List AV} {sto : List (Nat × Blk)} {next : Nat}
    (hargs : AVzL args (AV.renL (gSo next rs) args0)) (hbs : LentAt sto (gSo next rs) rs bs) (hnd : rs.Nodup) (hlt : ∀ r ∈ rs, r < next) (hk : k ≤ bs.length) (hk' : k ≤ bs'.length) (hne : ∀ b ∈ bs.take k, b ≠ .none) :
    TCalls P G f args sto next fun v' sto' next' => v' = v.ren (gSo next (rs.take k)) ∧ sto' = outB (gSo next (rs.take k)) bs' 0 (gIn next (rs.take k)) ++ (noneB (rs.drop k) ++ sto) ∧ next' = next + (bs'.length - k) := by
  obtain ⟨hcal, h⟩ := h
  refine ⟨hcal, fun κ vals hS hf hsz hvals => ?_⟩
  obtain ⟨hrl, hat⟩ := hbs.get
  let κ1 : Kap := ⟨κ.w, fun i => κ.nm (gIn next rs i), κ.imm⟩
  have hσ1 : (fun r => lookB r (enumB bs 0)) = fun r => bs.getD r .none := lookB_enum0 bs
  have hlook : ∀ i b, bs[i]? = some b → ∃ r, rs[i]? = some r ∧ gIn next rs i = r ∧ BRel κ r (b.ren (gSo next rs)) ∧ (b ≠ .none → lookB r sto ≠ .none) := by
    intro i b hb
    have hi : i < rs.length := by rw [hrl]; exact (List.getElem?_eq_some_iff.1 hb).1
    have hr := List.getElem?_eq_getElem hi
    obtain ⟨q1, q2⟩ := (hat i _ b hr hb).rel (hS.blk rs[i])
    exact ⟨rs[i], hr, gIn_lt next rs i _ hr, q1, fun hb' => q2 (Blk.ren_ne.2 hb')⟩
  have hlive : ∀ i, bs.getD i .none ≠ .none → ∃ b, bs[i]? = some b ∧ b ≠ .none := by
    intro i hi
    rw [List.getD_eq_getElem?_getD] at hi
    cases hb : bs[i]? with
    | none => rw [hb] at hi; exact absurd rfl hi
    | some b => rw [hb] at hi; exact ⟨b, rfl, hi⟩
  have hB1 : ∀ i b, bs[i]? = some b → BRel κ1 i b := by
    intro i b hb
    obtain ⟨r, hr, hgr, hB, _⟩ := hlook i b hb
    exact BRel.unren (κ := κ) (κ' := κ1) rfl rfl (g := gIn next rs) (fun _ => rfl) (by rw [hgr]; exact hB)
  have hl1 : ∀ b, (ctxOf κ1 (fun r => lookB r (enumB bs 0)) G).lent b → (ctxOf κ (fun r => lookB r sto) G).lent b := by
    rintro b ⟨i, d, h1, h2, h3⟩
    simp only [congrFun hσ1 i] at h1
    obtain ⟨b', hb, hbn⟩ := hlive i h1
    obtain ⟨r, hr, hgr, _, hn⟩ := hlook i b' hb
    exact ⟨r, d, hn hbn, by rw [← hgr]; exact h2, h3⟩
  have hm1 : ∀ b, (ctxOf κ1 (fun r => lookB r (enumB bs 0)) G).mine b → (ctxOf κ (fun r => lookB r sto) G).mine b := fun b hb => hb.elim .inl (fun h => .inr (hl1 b h))
  have hS1 : SRel (ctxOf κ1 (fun r => lookB r (enumB bs 0)) G) κ1 (fun r => lookB r (enumB bs 0)) := by
    refine ⟨fun i => ?_, fun i j d d' b h1 h2 hij hd hd' hb => ?_, fun i d b h1 hd hb => .inr ⟨i, d, h1, hd, hb⟩, hS.immLt, ?_⟩
    · rw [congrFun hσ1 i]
      show BRel κ1 i (bs.getD i .none)
      rw [List.getD_eq_getElem?_getD]
      cases hb : bs[i]? with
      | none => trivial
      | some b => exact hB1 i b hb
    · simp only [congrFun hσ1 i] at h1
      simp only [congrFun hσ1 j] at h2
      obtain ⟨b1, hb1, hn1⟩ := hlive i h1
      obtain ⟨b2, hb2, hn2⟩ := hlive j h2
      obtain ⟨r, hr, hgr, _, hn⟩ := hlook i b1 hb1
      obtain ⟨r', hr', hgr', _, hn'⟩ := hlook j b2 hb2
      refine hS.apart r r' d d' b (hn hn1) (hn' hn2) (fun e => hij ?_) (by rw [← hgr]; exact hd) (by rw [← hgr']; exact hd') hb
      obtain ⟨hi, ei⟩ := List.getElem?_eq_some_iff.1 hr
      obtain ⟨hj, ej⟩ := List.getElem?_eq_some_iff.1 hr'
      exact (List.getElem_inj hnd).1 (ei.trans (e.trans ej.symm))
    · refine ⟨fun g o p hp => ?_, fun g hg => ?_⟩
      · exact hS.glob.1 g o p hp
      · obtain ⟨h1, h2, h3⟩ := hS.glob.2 g hg
        exact ⟨h1, fun hl => h2 (hl1 g hl), h3⟩
  have hf1 : ∀ r, bs.length ≤ r → κ1.nm r = none := fun r hr => by
    show κ.nm (gIn next rs r) = none
    rw [gIn_ge next rs r (by omega)]
    exact hf _ (by omega)
  have hlen0 : args0.length = args.length := by
    rw [hargs.length]
    have : ∀ (f : Nat → Option Nat) (l : List AV), (AV.renL f l).length = l.length := by
      intro f l
      induction l with
      | nil => simp [AV.renL]
      | cons x r ih => simp [AV.renL, ih]
    rw [this]
  have hv1 : ∀ (i : Nat) (x : AV), args0[i]? = some x → ARel κ1 x (vals.getD i Go.undef) :=
    (unrenL (κ := κ) (κ' := κ1) rfl rfl (g := gIn next rs) (fun _ => rfl) args0 vals (fun i x hx => by
      obtain ⟨y, hy, hyx⟩ := hargs.get i x hx
      exact hyx.rel (hvals i y hy))).2
  refine (h κ1 vals hS1 hf1 (by omega) hv1).mono ?_
  rintro e w' ⟨u, v', κ1', sto', next', rfl, rfl, he, hL, hv, hS', hf', rfl, rfl, rfl⟩
  obtain ⟨g, hgdef⟩ : ∃ g, g = gIn next (rs.take k) := ⟨_, rfl⟩
  have htl : (rs.take k).length = k := by rw [List.length_take]; omega
  have hg1 : ∀ i, i < k → ∃ r, rs[i]? = some r ∧ g i = r ∧ r < next := by
    intro i hi
    have hi' : i < rs.length := by omega
    have hr := List.getElem?_eq_getElem hi'
    refine ⟨rs[i], hr, ?_, hlt _ (List.getElem_mem hi')⟩
    rw [hgdef]
    exact gIn_lt next _ i _ (by rw [List.getElem?_take, if_pos hi]; exact hr)
  have hg2 : ∀ i, k ≤ i → g i = next + (i - k) := fun i hi => by rw [hgdef, gIn_ge next _ i (by omega), htl]
  have hginj : ∀ i j, g i = g j → i = j := fun i j hij => by
    rw [hgdef] at hij
    exact gIn_inj (hnd.sublist (List.take_sublist _ _)) (fun r hr => hlt r (List.mem_of_mem_take hr)) hij
  have hso : gSo next (rs.take k) = fun r => some (g r) := by rw [hgdef]; rfl
  rw [hso, ← hgdef]
  let κ' : Kap := ⟨κ1'.w, fun r => if r < next then κ.nm r else κ1'.nm (k + (r - next)), κ1'.imm⟩
  have hnmk : ∀ i, i < k → κ1'.nm i = κ1.nm i := by
    intro i hi
    have hib : i < bs.length := by omega
    have hb := List.getElem?_eq_getElem hib
    obtain ⟨d, hd⟩ := (hB1 i _ hb).named (hne _ (List.mem_take_iff_getElem.2 ⟨i, by omega, rfl⟩))
    rw [hd]
    exact he.nm i d (by simp only [Kap.cut]; rw [if_pos hi]; exact hd)
  have hnm' : ∀ i, κ'.nm (g i) = κ1'.nm i := by
    intro i
    by_cases hi : i < k
    · obtain ⟨r, hr, hgr, hrn⟩ := hg1 i hi
      show (if g i < next then κ.nm (g i) else κ1'.nm (k + (g i - next))) = _
      rw [hgr, if_pos hrn, hnmk i hi]
      show κ.nm r = κ.nm (gIn next rs i)
      rw [gIn_lt next rs i r hr]
    · show (if g i < next then κ.nm (g i) else κ1'.nm (k + (g i - next))) = _
      rw [hg2 i (by omega), if_neg (by omega)]
      congr 1; omega
  have hext : Ext κ κ' := ⟨fun b o hi => he.imm b o hi, fun b o v hi hc => he.cell b o v hi hc, fun r d hd => by
    have hr : r < next := by
      rcases Nat.lt_or_ge r next with h | h
      · exact h
      · rw [hf r h] at hd; cases hd
    show (if r < next then κ.nm r else _) = _
    rw [if_pos hr]; exact hd⟩
  have hout : ∀ r d b, lookB r sto ≠ .none → r ∉ rs → κ.nm r = some d → d.block = some b → b < κ.w.heap.size ∧ ¬ (ctxOf κ1 (fun r => lookB r (enumB bs 0)) G).lent b := by
    intro r d b h1 h2 h3 h4
    refine ⟨(hS.blk r).lt h1 h3 h4, ?_⟩
    rintro ⟨i, d', q1, q2, q3⟩
    simp only [congrFun hσ1 i] at q1
    obtain ⟨b', hb, hbn⟩ := hlive i q1
    obtain ⟨r', hr', hgr, _, hn⟩ := hlook i b' hb
    refine hS.apart r r' d d' b h1 (hn hbn) (fun e => h2 (e ▸ List.mem_of_getElem? hr')) h3 (by rw [← hgr]; exact q2) h4 q3
  have hmem : ∀ r, r ∈ rs → (∃ i, i < bs'.length ∧ g i = r) ∨ r ∈ rs.drop k := by
    intro r hr
    obtain ⟨i, hi⟩ := List.getElem?_of_mem hr
    by_cases hik : i < k
    · obtain ⟨r', hr', hgr, _⟩ := hg1 i hik
      rw [hi] at hr'; cases hr'
      exact .inl ⟨i, by omega, hgr⟩
    · refine .inr (List.mem_of_getElem? (i := i - k) ?_)
      rw [List.getElem?_drop, show k + (i - k) = i by omega]; exact hi
  have hσ' : ∀ r, (∃ i b, bs'[i]? = some b ∧ g i = r ∧ lookB r (outB (fun r => some (g r)) bs' 0 g ++ (noneB (rs.drop k) ++ sto)) = b.ren (fun r => some (g r))) ∨
      lookB r (outB (fun r => some (g r)) bs' 0 g ++ (noneB (rs.drop k) ++ sto)) = .none ∨ (r ∉ rs ∧ (∀ i, i < bs'.length → g i ≠ r) ∧ lookB r (outB (fun r => some (g r)) bs' 0 g ++ (noneB (rs.drop k) ++ sto)) = lookB r sto) := by
    intro r
    obtain ⟨q1, q2⟩ := lookB_out (f := fun r => some (g r)) hginj (noneB (rs.drop k) ++ sto) r bs' 0
    by_cases hi : ∃ i, i < bs'.length ∧ g i = r
    · obtain ⟨i, hi, hgi⟩ := hi
      exact .inl ⟨i, bs'[i], List.getElem?_eq_getElem hi, hgi, q1 i _ (List.getElem?_eq_getElem hi) (by rw [Nat.zero_add]; exact hgi)⟩
    · have hni : ∀ i, i < bs'.length → g i ≠ r := fun i h1 h2 => hi ⟨i, h1, h2⟩
      have e := q2 (fun i h1 => by rw [Nat.zero_add]; exact hni i h1)
      rw [lookB_none] at e
      by_cases hr : r ∈ rs.drop k
      · rw [if_pos hr] at e; exact .inr (.inl e)
      · rw [if_neg hr] at e
        exact .inr (.inr ⟨fun h => (hmem r h).elim hi hr, hni, e⟩)
  have hlive' : ∀ i b, bs'[i]? = some b → b.ren (fun r => some (g r)) ≠ .none → lookB i (enumB bs' 0) ≠ .none := by
    intro i b hb hbn
    have e2 : lookB i (enumB bs' 0) = bs'.getD i .none := congrFun (lookB_enum0 bs') i
    rw [e2, List.getD_eq_getElem?_getD, hb]
    exact Blk.ren_ne.1 hbn
  refine ⟨u, _, κ', _, _, rfl, rfl, hext, ⟨hL.os, hL.tape, hL.output, hL.size, fun b hb hl => hL.block b hb fun h => hl (hl1 b h), fun b o hi => (hL.imm b o hi).imp id (hm1 b)⟩,
    ren_rel (κ := κ1') (κ' := κ') rfl rfl (fun r r' hr => by cases hr; exact hnm' r) v' u hv, ?_, fun r hr => ?_, rfl, rfl, rfl⟩
  · refine ⟨fun r => ?_, fun r r' d d' b h1 h2 hrr hd hd' hb => ?_, fun r d b h1 hd hb => ?_, hS'.immLt, ?_⟩
    · show BRel κ' r (lookB r _)
      rcases hσ' r with ⟨i, b, hb, hgi, e⟩ | e | ⟨hr, hni, e⟩
      · rw [e, ← hgi]
        refine BRel.ren (κ := κ1') (κ' := κ') rfl rfl hnm' ?_
        have := hS'.blk i
        have e2 : lookB i (enumB bs' 0) = bs'.getD i .none := congrFun (lookB_enum0 bs') i
        simp only [e2, List.getD_eq_getElem?_getD, hb] at this
        exact this
      · rw [e]; trivial
      · rw [e]
        refine (hS.blk r).keep hext fun hbn d b hd hb => ?_
        obtain ⟨q1, q2⟩ := hout r d b hbn hr hd hb
        refine ⟨hL.block b q1 q2, fun o ho => ?_⟩
        rcases hL.imm b o ho with h | h | h
        · exact h
        · exact absurd q1 (Nat.not_lt.2 h)
        · exact absurd h q2
    · have cal : ∀ r i b0 d, bs'[i]? = some b0 → g i = r → b0.ren (fun r => some (g r)) ≠ .none → κ'.nm r = some d → lookB i (enumB bs' 0) ≠ .none ∧ κ1'.nm i = some d := by
        intro r i b0 d hb0 hgi hbn hd
        exact ⟨hlive' i b0 hb0 hbn, by rw [← hnm' i, hgi]; exact hd⟩
      have own : ∀ r d, r ∉ rs → lookB r sto ≠ .none → κ'.nm r = some d → κ.nm r = some d := by
        intro r d hr hbn hd
        obtain ⟨d', hd'⟩ := (hS.blk r).named hbn
        have := hext.nm r d' hd'
        rw [this] at hd; cases hd; exact hd'
      have mix : ∀ r i b0 d d' b, bs'[i]? = some b0 → b0.ren (fun r => some (g r)) ≠ .none → κ1'.nm i = some d → d.block = some b → lookB i (enumB bs' 0) ≠ .none → r ∉ rs → lookB r sto ≠ .none → κ.nm r = some d' → d'.block ≠ some b := by
        intro r i b0 d d' b hb0 hbn hd hdb hl hr hrl hd' hdb'
        obtain ⟨q1, q2⟩ := hout r d' b hrl hr hd' hdb'
        rcases hS'.mine i d b hl hd hdb with h | h
        · exact absurd q1 (Nat.not_lt.2 h)
        · exact q2 h
      rcases hσ' r with ⟨i, b1, hb1, hgi, e⟩ | e | ⟨hr, hni, e⟩
      · have h1' : b1.ren (fun r => some (g r)) ≠ .none := by
          intro h0; exact h1 (e.trans h0)
        obtain ⟨p1, p2⟩ := cal r i b1 d hb1 hgi h1' hd
        rcases hσ' r' with ⟨j, b2, hb2, hgj, e'⟩ | e' | ⟨hr', hni', e'⟩
        · have h2' : b2.ren (fun r => some (g r)) ≠ .none := by
            intro h0; exact h2 (e'.trans h0)
          obtain ⟨p3, p4⟩ := cal r' j b2 d' hb2 hgj h2' hd'
          exact hS'.apart i j d d' b p1 p3 (fun hij => hrr (by rw [← hgi, ← hgj, hij])) p2 p4 hb
        · exact absurd e' h2
        · have h2' : lookB r' sto ≠ .none := by intro h0; exact h2 (e'.trans h0)
          exact mix r' i b1 d d' b hb1 h1' p2 hb p1 hr' h2' (own r' d' hr' h2' hd')
      · exact absurd e h1
      · have h1' : lookB r sto ≠ .none := by intro h0; exact h1 (e.trans h0)
        have hd0 := own r d hr h1' hd
        rcases hσ' r' with ⟨j, b2, hb2, hgj, e'⟩ | e' | ⟨hr', hni', e'⟩
        · have h2' : b2.ren (fun r => some (g r)) ≠ .none := by
            intro h0; exact h2 (e'.trans h0)
          obtain ⟨p3, p4⟩ := cal r' j b2 d' hb2 hgj h2' hd'
          intro hb'
          exact mix r j b2 d' d b hb2 h2' p4 hb' p3 hr h1' hd0 hb
        · exact absurd e' h2
        · have h2' : lookB r' sto ≠ .none := by intro h0; exact h2 (e'.trans h0)
          exact hS.apart r r' d d' b h1' h2' hrr hd0 (own r' d' hr' h2' hd') hb
    · rcases hσ' r with ⟨i, b1, hb1, hgi, e⟩ | e | ⟨hr, hni, e⟩
      · have h1' : b1.ren (fun r => some (g r)) ≠ .none := by
          intro h0; exact h1 (e.trans h0)
        refine hm1 b (hS'.mine i d b (hlive' i b1 hb1 h1') (by rw [← hnm' i, hgi]; exact hd) hb)
      · exact absurd e h1
      · have h1' : lookB r sto ≠ .none := by intro h0; exact h1 (e.trans h0)
        obtain ⟨d', hd'⟩ := (hS.blk r).named h1'
        have := hext.nm r d' hd'
        rw [this] at hd; cases hd
        exact .inr ⟨r, d, h1', hd', hb⟩
    · refine ⟨hS'.glob.1, fun g' hg' => ?_⟩
      obtain ⟨h1, h2, cs, T, fz, h3, h4⟩ := hS.glob.2 g' hg'
      exact ⟨h1, h2, cs, T, fz, (hL.block g' h1 fun h => h2 (hl1 g' h)).trans h3, h4⟩
  · show (if r < next then κ.nm r else κ1'.nm (k + (r - next))) = none
    rw [if_neg (by omega)]
    exact hf' _ (by omega)
def lentOk (k : Nat) (rs : List Nat) (bs bs' : List Blk) (next : Nat) : Bool :=
  decide (k ≤ bs.length) && decide (k ≤ bs'.length) && (bs.take k).all (fun b => match b with | .none => false | _ => true) && rs.all (fun r => decide (r < next)) && decide rs.Nodup
theorem ACall.lentK {k f : Nat} {args0 : List AV} {bs : List Blk} {v : AV} {bs' : List Blk} (h : Lent P G k f args0 bs v bs') (rs : List Nat) {args : List AV} {env : List (Nat × AV)} {sto : List (Nat × Blk)} {next : Nat} {K : AV → St → Prop}
    (hok : lentOk k rs bs bs' next = true) (hargs : AVzL args (AV.renL (gSo next rs) args0)) (hbs : LentAt sto (gSo next rs) rs bs)
    (hK : K (v.ren (gSo next (rs.take k))) ⟨env, outB (gSo next (rs.take k)) bs' 0 (gIn next (rs.take k)) ++ (noneB (rs.drop k) ++ sto), next + (bs'.length - k)⟩) : ACall P G f args ⟨env, sto, next⟩ K := by
  simp only [lentOk, Bool.and_eq_true, decide_eq_true_eq, List.all_eq_true] at hok
  obtain ⟨⟨⟨⟨h1, h2⟩, h3⟩, h4⟩, h5⟩ := hok
  refine ACall.lent (h.frame hargs hbs h5 h4 h1 h2 (fun b hb e => ?_)) ?_
  · have := h3 b hb
    subst e; cases this
  · rintro v' sto' next' ⟨rfl, rfl, rfl⟩
    exact hK
theorem ACall.weak {f : Nat} {args args' : List AV} {s s' : St} {K : AV → St → Prop} (hw : WkC s args s' args') (h : ACall P G f args' s' K) : ACall P G f args s K := by
  obtain ⟨s2, args2, hw2, h2⟩ := h
  refine ⟨s2, args2, ⟨hw2.1.trans hw.1, hw2.2.1.trans hw.2.1, fun c κ0 κ N a w vals hR hv => ?_⟩, ?_⟩
  · obtain ⟨κ1, h3, h4⟩ := hw.2.2 c κ0 κ N a w vals hR hv
    exact hw2.2.2 c κ0 κ1 N a w vals h3 h4
  · rcases h2 with ⟨ps, r, k1, k2, k3⟩ | ⟨Q, k1, k2⟩
    · exact .inl ⟨ps, r, k1, k2, k3⟩
    · refine .inr ⟨Q, k1, fun v sto' next' hq => ?_⟩
      have := k2 v sto' next' hq
      rw [hw.2.1] at this
      exact this
end
end Go.Ab
set_option linter.unusedVariables false
namespace Go.Ab
open Go
theorem enumB_nil (k : Nat) : enumB [] k = [] := _root_.id rfl
theorem enumB_cons (b : Blk) (r : List Blk) (k : Nat) : enumB (b :: r) k = (k, b) :: enumB r (k + 1) := _root_.id rfl
theorem lentAt_nil (sto : List (Nat × Blk)) (f : Nat → Option Nat) : LentAt sto f [] [] = True := _root_.id rfl
theorem lentAt_cons (sto : List (Nat × Blk)) (f : Nat → Option Nat) (r : Nat) (rs : List Nat) (b : Blk) (bs : List Blk) : LentAt sto f (r :: rs) (b :: bs) = (BlkZ (lookB r sto) (b.ren f) ∧ LentAt sto f rs bs) := _root_.id rfl
theorem outB_nil (f : Nat → Option Nat) (i : Nat) (g : Nat → Nat) : outB f [] i g = [] := _root_.id rfl
theorem outB_cons (f : Nat → Option Nat) (b : Blk) (r : List Blk) (i : Nat) (g : Nat → Nat) : outB f (b :: r) i g = (g i, b.ren f) :: outB f r (i + 1) g := _root_.id rfl
theorem noneB_nil : noneB [] = [] := _root_.id rfl
theorem noneB_cons (r : Nat) (q : List Nat) : noneB (r :: q) = (r, .none) :: noneB q := _root_.id rfl
theorem gSo_eq (next : Nat) (rs : List Nat) (r : Nat) : gSo next rs r = some (gIn next rs r) := _root_.id rfl
theorem gIn_nil (next i : Nat) : gIn next [] i = next + i := _root_.id rfl
theorem gIn_0 (next r : Nat) (q : List Nat) : gIn next (r :: q) 0 = r := _root_.id rfl
theorem gIn_s (next r i : Nat) (q : List Nat) : gIn next (r :: q) (i + 1) = gIn next q i := _root_.id rfl
def elemsB (s sz off len : Nat) : Blk → Option (List PV)
  | .cells _ _ l => if s = 1 ∧ sz = 1 ∧ off + len ≤ l.length ∧ ((l.drop off).take len).all AV.one = true then pvs ((l.drop off).take len) else none
  | _ => none
theorem elemsOf_row (σ : Store) (sz r s off len : Nat) : elemsOf σ sz (.row r s off len) = elemsB s sz off len (σ r) := by
  simp only [elemsOf, elemsB]
  cases σ r <;> rfl
theorem all_one_int (k : IntKind) (l : List Int) : (l.map (PV.int k)).all PV.one = true := by
  rw [List.all_eq_true]; intro x hx; obtain ⟨n, _, rfl⟩ := List.mem_map.1 hx; rfl
theorem elemsB_pv {T : Nat} {f : Bool} {l : List PV} {n : Nat} (h : n ≤ l.length) (h1 : l.all PV.one = true) : elemsB 1 1 0 n (.cells T f (l.map .pv)) = some (l.take n) := by
  have h2 : (((l.map AV.pv).drop 0).take n) = (l.take n).map .pv := by rw [List.drop_zero, List.map_take]
  have h3 : ((l.take n).map AV.pv).all AV.one = true := by
    rw [List.all_eq_true] at h1 ⊢
    intro x hx
    obtain ⟨y, hy, rfl⟩ := List.mem_map.1 hx
    exact h1 y (List.mem_of_mem_take hy)
  have h4 : ∀ k : List PV, pvs (k.map .pv) = some k := by
    intro k
    induction k with
    | nil => rfl
    | cons a r ih => simp [pvs, AV.toPV, ih]
  simp only [elemsB]
  rw [if_pos (by refine ⟨trivial, trivial, by simp; omega, by rw [h2]; exact h3⟩), h2, h4]
theorem elemsB_int {T : Nat} {f : Bool} {k : IntKind} {p : List Int} {n : Nat} (h : n = p.length) : elemsB 1 1 0 n (.cells T f ((p.map (PV.int k)).map .pv)) = some (p.map (PV.int k)) := by
  rw [elemsB_pv (by simp; omega) (all_one_int k p), List.take_of_length_le (by simp; omega)]
theorem rSliceL_rowhi {sz r off n : Nat} {k : IntKind} {h : Int} (h0 : 0 ≤ h) (h1 : h ≤ n) (hs : 0 < sz) : rSliceL sz (.row r sz off n) none (some (.pv (.int k h))) = some (.row r sz off h.toNat) := by
  simp [rSliceL, rBound, h0, h1, hs]
theorem toNat_s1 (n : Nat) : ((n : Int) + 1).toNat = n + 1 := by omega
theorem add_sub1 (n : Int) : n + 1 - 1 = n := by omega
def revK : List Nat → List Nat → List Nat
  | [], a => a
  | x :: r, a => revK r (x :: a)
theorem revK_nil (a : List Nat) : revK [] a = a := _root_.id rfl
theorem revK_cons (x : Nat) (r a : List Nat) : revK (x :: r) a = revK r (x :: a) := _root_.id rfl
theorem revK_eq : ∀ (l a : List Nat), l.reverse ++ a = revK l a
  | [], a => rfl
  | x :: r, a => by rw [revK_cons, ← revK_eq r (x :: a)]; simp
theorem keysL_rev (l : List (Nat × Blk)) : keysL l.reverse = revK (keysL l) [] := by
  rw [← revK_eq, List.append_nil]; simp [keysL]
theorem rowT_two (ks rs : List Nat) : rowT 2 ks rs = (0 :: ks.map (· + 1), rs.map (· + 1)) := by simp [rowT]
theorem lent_z (A : List (Nat × Nat × Nat × Nat)) {k : Nat} {v v' : AV} {bs' : List Blk} {sto' : List (Nat × Blk)} {next' : Nat} (h : StZ (normA A k [0] ⟨[(0, v')], sto', next'⟩) ⟨[(0, v)], enumB bs' 0, bs'.length⟩) : lentR k v bs' v' sto' next' := Wk.head h
theorem ACall.nilB (r o e sz : Nat) {P : Program} {G : Nat → List PV} {f : Nat} {args : List AV} {s : St} {K : AV → St → Prop} (he : (accB r o e sz s (lookB r s.sto)).env = s.env) (h : ACall P G f args (accB r o e sz s (lookB r s.sto)) K) : ACall P G f args s K :=
  ACall.weak (WkC.of (wx_accB r o e sz s) he args) h
end Go.Ab
namespace Go.Ab
open Go
attribute [push_cast] wrap_i64 wrap_i32 wrap_u8 wrap_u64 wrap_u32 dlt_t dlt_f dle_t dle_f deq_t deq_f look_cons
  look_nil lookB_cons lookB_nil evE_t evE_c evE_m mClo_iface mCloO_some lookT_cons evO_some evO_none evL_nil evL_cons evP_nil evP_cons tRun_mv
  tRun_pick tRun_build tRun_faddr tRun_field tRun_iaddr tRun_iaddrA tRun_index tRun_indexA tRun_len tRun_lenC tRun_imin tRun_imax
  tRun_sliceL tRun_sliceS tRun_bin tRun_beq rBeqM_t rBeqM_f tRun_neg tRun_not tRun_compl tRun_conv tRun_beqS rBeqS_agg
  eqPs_nil eqPs_bool eqPs_int eqPs_str andO_some tRun_convIS rConvIS_int tRun_convS tRun_clo tRun_ext tRun_nilck rPick_t
  rPick_f rFaddr_ptr rFaddr_eptr rFaddr_gptr rField_pv rField_av partA_t partA_f rElem_nat rElem_succ rIaddr_list rIaddr_olist
  rIaddr_row rLen_str rLen_list rLen_nils rLen_olist rLen_row rBound_some rBound_none cut2_some bnd2_some rSliceS_str rBin_add
  rBin_sub rBin_mul rBin_quo rBin_rem rBin_and rBin_or rBin_xor rBin_andNot rBin_eql rBin_neq rBin_lss rBin_leq
  rBin_gtr rBin_geq rBinS_add rBinS_eql rBinS_neq rBinS_lss rBinS_leq rBinS_gtr rBinS_geq rBeq_bool rBeq_ptr rBeq_eptr
  rBeq_nilp rBeq_cons rBeq_ocons rBeq_row rBeq_nils rNeg_int rNot_bool rConv_int rConvS_str rNil_ptr rNil_eptr rNil_gptr
  rNil_pclo rNil_clo rExt_pv rExt_av omap_some map_pv_nil map_pv_cons get0 getS pvs_nil pvs2_some pvs2_none
  pvs2_none' pvs_cons toPV_pv toPV_olist toPV_ptr toPV_row toPV_agg toPV_tup toPV_clo mkAgg_o mkAggO_some mkAggO_none
  mkTup_o mkTupO_some mkTupO_none mkClo_o mkCloO_some mkCloO_none mkCloO_none' cellsA_pv cellsA_agg cellsA_tup cellsA_ptr cellsA_row
  cellsA_olist cellsA_clo cells_agg cells_bool cells_int cells_str cells_nils cells_list cells_nilp cells_nilf cells_clo cells_eptr
  cells_gptr loadB_cells loadO_some rLoad_ptr rLoad_eptr rLoad_gptr loadE_f loadE_t withD_some withV_some mRun_alloc boxD_t
  mRun_box cboxO_some mRun_cbox known_pv known_agg known_tup known_ptr known_row known_olist known_clo mRun_load mRun_store
  rClear_row mRun_clear mRun_bslice mRun_append mRun_mk rMk_nil rStore_ptr storeB_cells storeC_t room_ok updB_nil updB_cons
  cloOf_pv cloOf_av onSomeI nextT_eq nextT_no nextM_eq nextM_no nextC_eq nextC_no callC_eq vcOps_nil vcOps_cons
  wantedV_t wantedV_f wantedV_u vcOps_guard doIf_true doIf_false doIf_false' onSomeE_some onSomeE_none nilE_nil rBeq_nil doOp_t
  doOp_m doOp_call stepT_eq stepT_no stepM_eq stepM_no rowT_0 rowT_1 rowT_2 makesN_load makesN_store makesN_toStr
  makesN_clear makesN_sliceA makesN_alloc makesN_box makesN_cbox makesN_bslice makesN_append makesN_mk vcD_nil vcD_cons vcD_guard doIfD_true
  doIfD_false doIfD_false' doOpD_t mReads_mk mReads_toStr mReads_clear mReads_load mReads_box mReads_cbox mReads_alloc mReads_store mReads_append
  mReads_bslice name_pv name_ptr name_row name_olist keysL_nil keysL_cons doOpD_m doOpD_call clipE_nil clipE_cons clean_nil
  clean_cons consB_t consB_f memN_nil memN_c normK_eq SeqK_norm SeqK_exit SeqK_ret BlockK_norm BlockK_exit BlockK_ret
  vc_skip vc_ops vc_draw doOp_fz vc_seq vc_cond vc_block vc_exit vc_ret onBool_b ifB_t ifB_f
  resE_tmp resE_cell FnK_norm FnK_ret retK_eq retV_1 retV_0 retV_2 cons2_some resVs_nil resVs_cons pureR_eq
  isR_pv isR_olist isRF_some isR_agg isR_row initE_nil initE_cons initEnv_eq RoundA_norm RoundA_exit RoundA_ret pickE_nil
  pickE_cons overE_nil overE_cons pickB_nil pickB_cons overB_nil overB_cons nz_self nz_nils nz_agg nz_tup nz_bool
  nz_int nz_str nzL_nil nzL_cons rMin_min rMax_max toNat_minN toNat_minN' take_minL take_minR map_take map_drop
  omap_none rAppend_eq app_ol appOl_ok app_nil0 app_nil1 app_row appRw_ok appRw_zero elems_nils elems_list elemsChk_t
  elems_olist bsl_f bslD_t bslC_some bslC_none bsl_t0 one_bool one_int one_str one_nils one_list oneA_pv
  oneA_ptr oneA_row oneA_olist oneA_clo rSliceL_list rSliceL_olist onCutH_some onCut_zero onCut_some onElem_ite all_mapF all_tt
  beq_nn loadI_t loadE_t0 isAgg_agg fRun_n fRun_l fzO_some frzV_agg frzV_pv frzV_ol frzV_row frzC_pv
  frzC_ol frzC_row frzL_nil frzL_cons frz2_some frzD_eq names_pv names_ptr names_row names_ol names_agg names_tup
  names_clo names_any namesL_nil namesL_cons namesL_pv namesL_flat namesB_cells namesB_tok namesB_none addN_nil addN_cons addN1_t
  addN1_f geN_nil geN_cons blkNames_nil blkNames_cons reach_0 reach_s envNames_nil envNames_cons rng_0 rng_s normE_nil
  normE_cons norm_eq normO_c normO_n renSto_nil renSto_cons newName_eq idxN_nil idxN_cons ren_pv ren_any ren_ptr
  ren_row ren_ol ren_agg ren_tup ren_clo renP_some renR_some renO_some renL_nil renL_cons renL_pv renL_flat
  renB_cells renB_tok renB_none normA_eq accs_nil accs_slot accs_cell accC_nils accC_row nilAV_l nilAV_r nilBlk_l
  nilBlk_r accC_ol accP_ptr accB_cells accD_nils accD_row accD_ol set0 setS st_eq dNlt_t dNlt_f
  dNle_t dNle_f dNeq_t dNeq_f fillC_t fillA_nil fillA_cons partT_eq RoundX_norm RoundX_exit RoundX_ret avz_self
  avz_pv avz_list avzL_nil avzL_cons envz_nil envz_cons blkz_self blkz_t blkz_f blkz_n avzP_nil avzP_cons
  avzP_self avzP_app avzL_self stoz_nil stoz_cons stz_eq enumB_nil enumB_cons lentAt_nil lentAt_cons outB_nil outB_cons
  noneB_nil noneB_cons gSo_eq gIn_nil gIn_0 gIn_s elemsOf_row all_one_int elemsB_int rSliceL_rowhi toNat_s1 add_sub1
  revK_nil revK_cons keysL_rev rowT_two Nat.zero_add Nat.add_zero List.length_cons List.length_nil List.nil_append List.cons_append List.append_nil List.append_assoc
  List.getElem?_map List.length_map List.map_nil List.map_cons List.take_succ_cons List.take_zero List.drop_succ_cons List.drop_zero List.take_nil List.drop_nil List.all_cons List.all_nil
  Bool.and_true Bool.true_and Bool.and_false Bool.false_and Bool.not_true Bool.not_false decide_true decide_false Bool.not_not Int.natCast_add Int.cast_ofNat_Int Int.toNat_natCast
  Option.some.injEq and_true true_and ge_iff_le Nat.le_refl Nat.zero_le Nat.not_lt_zero and_self
attribute [push_cast high] Int.cast_ofNat_Int
end Go.Ab
set_option linter.unusedVariables false
set_option linter.unusedSimpArgs false
namespace Go.Ab
open Go Go.RowKit
abbrev CallX := Nat → List AV → List (Nat × Blk) → Nat → Option (AV × List (Nat × Blk) × Nat)
def exOp (call : CallX) (G : Nat → List PV) (s : St) (d : Option Nat) : AOp → Option St
  | .t o => match o.run s.E with
    | some v => some (s.put d v)
    | none => none
  | .m o => match o.run G s.next s.E s.σ with
    | some p => some ((s.mem p.2).put d p.1)
    | none => none
  | .call f xs => match cloOf (f.ev s.E) with
    | some p => match call p.1 (p.2.1 ++ xs.map (·.ev s.E) ++ p.2.2) s.sto s.next with
      | some r => some ((⟨s.env, r.2.1, r.2.2⟩ : St).put d r.1)
      | none => none
    | none => none
  | .fz g x => match fRun G s.σ g (x.ev s.E) with
    | some p => some ((s.mem p.2).put d p.1)
    | none => none
def exOps (call : CallX) (G : Nat → List PV) : List AOper → St → Option St
  | [], s => some s
  | o :: r, s => match wantedA s o.guard with
    | some true => match exOp call G s o.dst o.op with
      | some s' => exOps call G r s'
      | none => none
    | some false => exOps call G r (s.put o.dst (.pv .undef))
    | none => none
def pcall (call : CallX) (f : Nat) (ps : List PV) : Option PV :=
  match call f (ps.map .pv) [] 0 with
  | some r => r.1.toPV
  | none => none
def exCallD (call : CallX) (s : St) (d : Option Nat) (f : Nat) (args : List AV) : Option (St × List Nat × List Nat) :=
  match pvs args with
  | some ps => match pcall call f ps with
    | some r => some (s.put d (.pv r), [], [])
    | none => none
  | none => match call f args s.sto s.next with
    | some r => some ((⟨s.env, r.2.1, r.2.2⟩ : St).put d r.1, rowT 2 (keysL (r.2.1.take (r.2.1.length - s.sto.length)).reverse) (s.sto.map (·.1)))
    | none => none
def exOpD (call : CallX) (G : Nat → List PV) (s : St) (d : Option Nat) : AOp → Option (St × List Nat × List Nat)
  | .t o => match o.run s.E with
    | some v => some (s.put d v, [], [])
    | none => none
  | .m o => match o.run G s.next s.E s.σ with
    | some p => some ((s.mem p.2).put d p.1, rowT (makesN o) (keysL p.2) (o.reads s.E))
    | none => none
  | .call f xs => match cloOf (f.ev s.E) with
    | some p => exCallD call s d p.1 (p.2.1 ++ xs.map (·.ev s.E) ++ p.2.2)
    | none => none
  | .fz _ _ => none
def exD (call : CallX) (G : Nat → List PV) (A : List (List Nat)) : List AOper → List (List Nat × List Nat) → St → Option St
  | [], T, s => match okB A T with
    | true => some s
    | false => none
  | o :: r, T, s => match wantedA s o.guard with
    | some true => match exOpD call G s o.dst o.op with
      | some q => exD call G A r (T ++ [q.2]) q.1
      | none => none
    | some false => exD call G A r (T ++ [([], [])]) (s.put o.dst (.pv .undef))
    | none => none
def exC (call : CallX) (G : Nat → List PV) : Nat → ACode → St → Option (AExit × St)
  | 0, _, _ => none
  | _ + 1, .skip, s => some (.norm, s)
  | _ + 1, .ops l keep, s => match exOps call G l s with
    | some s' => some (.norm, clip0 keep s')
    | none => none
  | _ + 1, .draw A l l2 keep, s => match exD call G A l [] s with
    | some s1 => match exOps call G l2 s1 with
      | some s' => some (.norm, clip0 keep s')
      | none => none
    | none => none
  | n + 1, .seq a b, s => match exC call G n a s with
    | some (.norm, s') => exC call G n b s'
    | some (.exit i, s') => some (.exit i, s')
    | some (.ret, s') => some (.ret, s')
    | none => none
  | n + 1, .cond x a b, s => match x.ev s.E with
    | .pv (.bool true) => exC call G n a s
    | .pv (.bool false) => exC call G n b s
    | _ => none
  | n + 1, .block id b, s => match exC call G n b s with
    | some (.norm, s') => some (.norm, s')
    | some (.exit i, s') => if i = id then some (.norm, s') else some (.exit i, s')
    | some (.ret, s') => some (.ret, s')
    | none => none
  | n + 1, .loop keep b, s => match exC call G n b s with
    | some (.norm, s') => exC call G n (.loop keep b) s'
    | some (.exit i, s') => some (.exit i, s')
    | some (.ret, s') => some (.ret, s')
    | none => none
  | _ + 1, .exit id, s => some (.exit id, s)
  | _ + 1, .ret, s => some (.ret, s)
structure TabRow where
  f : Nat
  muts : List Nat
  fn : AFn
def lookF (f : Nat) : List TabRow → Option AFn
  | [] => none
  | r :: q => if r.f = f then some r.fn else lookF f q
def outOf (G : Nat → List PV) (fn : AFn) (s : St) : Option (AV × List (Nat × Blk) × Nat) :=
  match resVs G s fn.res with
  | some l => some (retV l, s.sto, s.next)
  | none => none
def exF (tab : List TabRow) (O : Nat → List PV → Option PV) (G : Nat → List PV) (m : Nat) : Nat → CallX
  | 0, _, _, _, _ => none
  | n + 1, f, args, sto, next => match (pvs args).bind (O f) with
    | some r => some (.pv r, sto, next)
    | none => match lookF f tab with
      | some fn => if args.length ≤ fn.N then match exC (exF tab O G m n) G m fn.body ⟨initEnv args, sto, next⟩ with
          | some (.norm, s) => outOf G fn s
          | some (.ret, s) => outOf G fn s
          | _ => none
        else none
      | none => none
section
variable {P : Program} {G : Nat → List PV}
def Grows (sto : List (Nat × Blk)) (next : Nat) (sto' : List (Nat × Blk)) (next' : Nat) : Prop := (∃ pre, sto' = pre ++ sto) ∧ next ≤ next'
theorem Grows.refl (sto : List (Nat × Blk)) (next : Nat) : Grows sto next sto next := ⟨⟨[], rfl⟩, Nat.le_refl _⟩
theorem Grows.trans {a b c : List (Nat × Blk)} {i j k : Nat} (h : Grows a i b j) (g : Grows b j c k) : Grows a i c k := by
  obtain ⟨⟨p, rfl⟩, h2⟩ := h
  obtain ⟨⟨q, rfl⟩, g2⟩ := g
  exact ⟨⟨q ++ p, by simp⟩, Nat.le_trans h2 g2⟩
theorem updB_eq : ∀ (δ l : List (Nat × Blk)), updB l δ = δ.reverse ++ l
  | [], l => rfl
  | p :: r, l => by rw [updB, updB_eq r]; simp
theorem Grows.put {s : St} {sto' : List (Nat × Blk)} {n : Nat} {e : List (Nat × AV)} (h : Grows s.sto s.next sto' n) (d : Option Nat) (v : AV) : Grows s.sto s.next ((⟨e, sto', n⟩ : St).put d v).sto ((⟨e, sto', n⟩ : St).put d v).next := by
  cases d <;> exact h
theorem Grows.mem (s : St) (δ : List (Nat × Blk)) (d : Option Nat) (v : AV) : Grows s.sto s.next ((s.mem δ).put d v).sto ((s.mem δ).put d v).next := by
  have : Grows s.sto s.next (updB s.sto δ) (s.next + 1) := ⟨⟨δ.reverse, updB_eq δ s.sto⟩, Nat.le_succ _⟩
  cases d <;> exact this
theorem Grows.put0 (s : St) (d : Option Nat) (v : AV) : Grows s.sto s.next (s.put d v).sto (s.put d v).next := by
  cases d <;> exact Grows.refl _ _
def CallOk (P : Program) (G : Nat → List PV) (call : CallX) : Prop :=
  ∀ f args sto next v sto' next', call f args sto next = some (v, sto', next') → Grows sto next sto' next' ∧ (
    (∃ ps r, pvs args = some ps ∧ Pure P G f ps r ∧ v = .pv r ∧ sto' = sto ∧ next' = next) ∨ TCalls P G f args sto next (fun v' s' n' => v' = v ∧ s' = sto' ∧ n' = next'))
theorem TCalls.mono {f : Nat} {args : List AV} {sto : List (Nat × Blk)} {next : Nat} {Q Q' : AV → List (Nat × Blk) → Nat → Prop} (h : TCalls P G f args sto next Q) (hq : ∀ v s n, Q v s n → Q' v s n) : TCalls P G f args sto next Q' := by
  obtain ⟨h1, h2⟩ := h
  refine ⟨h1, fun κ vals a1 a2 a3 a4 => (h2 κ vals a1 a2 a3 a4).mono ?_⟩
  rintro e w' ⟨u, v, κ', sto', next', b1, b2, b3, b4, b5, b6, b7, b8⟩
  exact ⟨u, v, κ', sto', next', b1, b2, b3, b4, b5, b6, b7, hq _ _ _ b8⟩
theorem pcall_ok {call : CallX} (hc : CallOk P G call) {f : Nat} {ps : List PV} {r : PV} (h : pcall call f ps = some r) : Pure P G f ps r := by
  unfold pcall at h
  split at h
  · rename_i q hq
    obtain ⟨v, sto', next'⟩ := q
    rcases (hc f _ _ _ v sto' next' hq).2 with ⟨ps', r', h1, h2, rfl, _, _⟩ | ht
    · rw [pvs_map] at h1
      cases h1
      simp only [AV.toPV, Option.some.injEq] at h
      subst h; exact h2
    · exact Pure.of_tcalls (ht.mono (by rintro v' _ _ ⟨rfl, _, _⟩; exact isR_of h))
  · cases h
theorem exOp_ok {call : CallX} (hc : CallOk P G call) {s s' : St} {d : Option Nat} {o : AOp} {F : St → Prop} (h : exOp call G s d o = some s') (hF : F s') : doOp P G F s d o := by
  cases o with
  | t o =>
    simp only [exOp] at h
    split at h
    · rename_i v hv
      cases h
      simp only [doOp, hv, onSomeN]; exact hF
    · cases h
  | m o =>
    simp only [exOp] at h
    split at h
    · rename_i v hv
      cases h
      simp only [doOp, hv, onSome]; exact hF
    · cases h
  | fz g x =>
    simp only [exOp] at h
    split at h
    · rename_i v hv
      cases h
      simp only [doOp, hv, onSome]; exact hF
    · cases h
  | call f xs =>
    simp only [exOp] at h
    split at h
    · rename_i p hp
      split at h
      · rename_i r hr
        cases h
        obtain ⟨v, sto', next'⟩ := r
        simp only [doOp, hp, onSome, callC]
        rcases (hc _ _ _ _ v sto' next' hr).2 with ⟨ps, r, h1, h2, rfl, rfl, rfl⟩ | ht
        · exact ACall.pure h2 h1 hF
        · exact ACall.lent ht (by rintro v' s' n' ⟨rfl, rfl, rfl⟩; exact hF)
      · cases h
    · cases h
theorem exOps_ok {call : CallX} (hc : CallOk P G call) {F : St → Prop} : ∀ (l : List AOper) (s s' : St), exOps call G l s = some s' → F s' → vcOps P G l F s
  | [], s, s', h, hF => by simp only [exOps, Option.some.injEq] at h; subst h; exact hF
  | o :: r, s, s', h, hF => by
    simp only [exOps] at h
    simp only [vcOps]
    split at h
    · rename_i hw
      rw [hw]
      split at h
      · rename_i s1 h1
        exact exOp_ok hc h1 (exOps_ok hc r s1 s' h hF)
      · cases h
    · rename_i hw
      rw [hw]
      exact exOps_ok hc r _ s' h hF
    · cases h
theorem exD_ok {call : CallX} (hc : CallOk P G call) {A : List (List Nat)} {F : St → Prop} : ∀ (l : List AOper) (T : List (List Nat × List Nat)) (s s' : St), exD call G A l T s = some s' → F s' → vcD P G A F l T s
  | [], T, s, s', h, hF => by
    simp only [exD] at h
    split at h
    · rename_i ho
      cases h
      exact ⟨ho, hF⟩
    · cases h
  | o :: r, T, s, s', h, hF => by
    simp only [exD] at h
    simp only [vcD]
    split at h
    · rename_i hw
      rw [hw]
      simp only [onSome, doIfD]
      split at h
      · rename_i q h1
        obtain ⟨d, op, g⟩ := o
        simp only at h1 ⊢
        cases op with
        | t o =>
          simp only [exOpD] at h1
          split at h1
          · rename_i v hv
            cases h1
            simp only [doOpD, hv, onSome, stepT]
            exact exD_ok hc r _ _ s' h hF
          · cases h1
        | m o =>
          simp only [exOpD] at h1
          split at h1
          · rename_i v hv
            cases h1
            simp only [doOpD, hv, onSome, stepM]
            exact exD_ok hc r _ _ s' h hF
          · cases h1
        | fz g x => simp [exOpD] at h1
        | call f xs =>
          simp only [exOpD] at h1
          split at h1
          · rename_i p hp
            simp only [doOpD, hp, onSome]
            unfold exCallD at h1
            split at h1
            · rename_i ps hps
              split at h1
              · rename_i v hv
                cases h1
                exact .inl ⟨ps, v, hps, pcall_ok hc hv, exD_ok hc r _ _ s' h hF⟩
              · cases h1
            · rename_i hps
              split at h1
              · rename_i v hv
                cases h1
                obtain ⟨v, sto', next'⟩ := v
                obtain ⟨⟨⟨pre, hpre⟩, hle⟩, ⟨ps', r', k1, _⟩ | ht⟩ := hc _ _ _ _ v sto' next' hv
                · rw [hps] at k1; cases k1
                · have e1 : updB s.sto (sto'.take (sto'.length - s.sto.length)).reverse = sto' := by
                    rw [updB_eq, List.reverse_reverse, hpre]
                    simp
                  refine .inr ⟨v, (sto'.take (sto'.length - s.sto.length)).reverse, next', ?_, hle, ?_⟩
                  · rw [e1]; exact ht
                  · rw [e1]; exact exD_ok hc r _ _ s' h hF
              · cases h1
          · cases h1
      · cases h
    · rename_i hw
      rw [hw]
      exact exD_ok hc r _ _ s' h hF
    · cases h
theorem exOp_grows {call : CallX} (hc : CallOk P G call) {s s' : St} {d : Option Nat} {o : AOp} (h : exOp call G s d o = some s') : Grows s.sto s.next s'.sto s'.next := by
  cases o with
  | t o =>
    simp only [exOp] at h
    split at h
    · cases h; exact Grows.put0 _ _ _
    · cases h
  | m o =>
    simp only [exOp] at h
    split at h
    · cases h; exact Grows.mem _ _ _ _
    · cases h
  | fz g x =>
    simp only [exOp] at h
    split at h
    · cases h; exact Grows.mem _ _ _ _
    · cases h
  | call f xs =>
    simp only [exOp] at h
    split at h
    · split at h
      · rename_i r hr
        cases h
        obtain ⟨v, sto', next'⟩ := r
        exact Grows.put (hc _ _ _ _ v sto' next' hr).1 _ _
      · cases h
    · cases h
theorem exOps_grows {call : CallX} (hc : CallOk P G call) : ∀ (l : List AOper) (s s' : St), exOps call G l s = some s' → Grows s.sto s.next s'.sto s'.next
  | [], s, s', h => by simp only [exOps, Option.some.injEq] at h; subst h; exact Grows.refl _ _
  | o :: r, s, s', h => by
    simp only [exOps] at h
    split at h
    · split at h
      · rename_i s1 h1
        exact (exOp_grows hc h1).trans (exOps_grows hc r s1 s' h)
      · cases h
    · exact (Grows.put0 s _ _).trans (exOps_grows hc r _ s' h)
    · cases h
theorem exOpD_grows {call : CallX} (hc : CallOk P G call) {s : St} {d : Option Nat} {o : AOp} {q : St × List Nat × List Nat} (h : exOpD call G s d o = some q) : Grows s.sto s.next q.1.sto q.1.next := by
  cases o with
  | t o =>
    simp only [exOpD] at h
    split at h
    · cases h; exact Grows.put0 _ _ _
    · cases h
  | m o =>
    simp only [exOpD] at h
    split at h
    · cases h; exact Grows.mem _ _ _ _
    · cases h
  | fz g x => simp [exOpD] at h
  | call f xs =>
    simp only [exOpD] at h
    split at h
    · unfold exCallD at h
      split at h
      · split at h
        · cases h; exact Grows.put0 _ _ _
        · cases h
      · split at h
        · rename_i r hr
          cases h
          obtain ⟨v, sto', next'⟩ := r
          exact Grows.put (hc _ _ _ _ v sto' next' hr).1 _ _
        · cases h
    · cases h
theorem exD_grows {call : CallX} (hc : CallOk P G call) {A : List (List Nat)} : ∀ (l : List AOper) (T : List (List Nat × List Nat)) (s s' : St), exD call G A l T s = some s' → Grows s.sto s.next s'.sto s'.next
  | [], T, s, s', h => by
    simp only [exD] at h
    split at h
    · cases h; exact Grows.refl _ _
    · cases h
  | o :: r, T, s, s', h => by
    simp only [exD] at h
    split at h
    · split at h
      · rename_i q h1
        exact (exOpD_grows hc h1).trans (exD_grows hc r _ _ s' h)
      · cases h
    · exact (Grows.put0 s _ _).trans (exD_grows hc r _ _ s' h)
    · cases h
theorem exC_grows {call : CallX} (hc : CallOk P G call) : ∀ (n : Nat) (ac : ACode) (s : St) (e : AExit) (s' : St), exC call G n ac s = some (e, s') → Grows s.sto s.next s'.sto s'.next
  | 0, _, _, _, _, h => by simp [exC] at h
  | n + 1, ac, s, e, s', h => by
    have ih := exC_grows hc n
    cases ac with
    | skip => simp only [exC, Option.some.injEq, Prod.mk.injEq] at h; obtain ⟨_, rfl⟩ := h; exact Grows.refl _ _
    | exit i => simp only [exC, Option.some.injEq, Prod.mk.injEq] at h; obtain ⟨_, rfl⟩ := h; exact Grows.refl _ _
    | ret => simp only [exC, Option.some.injEq, Prod.mk.injEq] at h; obtain ⟨_, rfl⟩ := h; exact Grows.refl _ _
    | ops l k =>
      simp only [exC] at h
      split at h
      · rename_i s1 h1; cases h; exact exOps_grows hc l s s1 h1
      · cases h
    | draw A l l2 k =>
      simp only [exC] at h
      split at h
      · rename_i s1 h1
        split at h
        · rename_i s2 h2; cases h; exact (exD_grows hc l [] s s1 h1).trans (exOps_grows hc l2 s1 s2 h2)
        · cases h
      · cases h
    | seq a b =>
      simp only [exC] at h
      split at h
      · rename_i s1 h1; exact (ih _ _ _ _ h1).trans (ih _ _ _ _ h)
      · rename_i i s1 h1; cases h; exact ih _ _ _ _ h1
      · rename_i s1 h1; cases h; exact ih _ _ _ _ h1
      · cases h
    | cond x a b =>
      simp only [exC] at h
      split at h
      · exact ih _ _ _ _ h
      · exact ih _ _ _ _ h
      · cases h
    | block id b =>
      simp only [exC] at h
      split at h
      · rename_i s1 h1; cases h; exact ih _ _ _ _ h1
      · rename_i i s1 h1
        split at h
        · cases h; exact ih _ _ _ _ h1
        · cases h; exact ih _ _ _ _ h1
      · rename_i s1 h1; cases h; exact ih _ _ _ _ h1
      · cases h
    | loop k b =>
      simp only [exC] at h
      split at h
      · rename_i s1 h1; exact (ih _ _ _ _ h1).trans (ih _ _ _ _ h)
      · rename_i i s1 h1; cases h; exact ih _ _ _ _ h1
      · rename_i s1 h1; cases h; exact ih _ _ _ _ h1
      · cases h
def exitK (e : AExit) (s' : St) : AExit → St → Prop := fun e1 s1 => e1 = e ∧ s1 = s'
theorem bad_ex {call : CallX} {G : Nat → List PV} {n : Nat} {s : St} {r : AExit × St} (h : exC call G (n + 1) (.ops [⟨none, badOp, none⟩] []) s = some r) : False := by
  simp [exC, exOps, wantedA, exOp, badOp, AX.ev, cloOf] at h
theorem exC_ok {call : CallX} (hc : CallOk P G call) {c : Ctx} {κ0 : Kap} {N : Nat} {muts rl : List Nat} (hG : c.G = G) : ∀ (n : Nat) (co : Code) (ac : ACode) (ex : List (Nat × List Nat)) (out li : List Nat) (s : St) (a : Act) (w : World) (κ : Kap) (e : AExit) (s' : St),
    cCode P muts N rl co ex out = some (ac, li) → exC call G n ac s = some (e, s') → Rel c κ0 N s a w κ → co.wp P (lift c κ0 N (exitK e s')) a w := by
  intro n
  induction n using Nat.strongRecOn with
  | _ n ih =>
  intro co ac ex out li s a w κ e s' hcc he hR
  cases n with
  | zero => simp [exC] at he
  | succ n =>
  cases co with
  | skip =>
    simp only [cCode, Option.some.injEq, Prod.mk.injEq] at hcc
    obtain ⟨rfl, _⟩ := hcc
    simp only [exC, Option.some.injEq, Prod.mk.injEq] at he
    obtain ⟨rfl, rfl⟩ := he
    exact wp_skip ⟨_, κ, hR, rfl, rfl⟩
  | exit id =>
    simp only [cCode, Option.some.injEq, Prod.mk.injEq] at hcc
    obtain ⟨rfl, _⟩ := hcc
    simp only [exC, Option.some.injEq, Prod.mk.injEq] at he
    obtain ⟨rfl, rfl⟩ := he
    exact wp_exit ⟨_, κ, hR, rfl, rfl⟩
  | ret =>
    simp only [cCode, Option.some.injEq, Prod.mk.injEq] at hcc
    obtain ⟨rfl, _⟩ := hcc
    simp only [exC, Option.some.injEq, Prod.mk.injEq] at he
    obtain ⟨rfl, rfl⟩ := he
    exact wp_ret ⟨_, κ, hR, rfl, rfl⟩
  | region id ops d =>
    simp only [cCode] at hcc
    split at hcc
    · rename_i l hl
      cases d with
      | false =>
        simp only [Option.some.injEq, Prod.mk.injEq] at hcc
        obtain ⟨rfl, _⟩ := hcc
        simp only [exC] at he
        split at he
        · rename_i s1 h1
          cases he
          exact wp_region_list (vcOps_sound (F := fun s => s = s1) (fun s a w κ hR hF => by subst hF; exact ⟨_, κ, hR.clip0 _, rfl, rfl⟩) ops.toList l s a w κ hl hR (by rw [hG]; exact exOps_ok hc l s s1 h1 rfl))
        · cases he
      | true =>
        simp only at hcc
        split at hcc
        · rename_i hok
          simp only [Option.some.injEq, Prod.mk.injEq] at hcc
          obtain ⟨rfl, _⟩ := hcc
          simp only [exC] at he
          split at he
          · rename_i s1 h1
            split at he
            · rename_i s2 h2
              cases he
              exact draw_sound (F := fun s => s = s2) hl hok.1 hok.2.1 hok.2.2 hR (by rw [hG]; exact exD_ok hc _ _ s s1 h1 (exOps_ok hc _ s1 s2 h2 rfl)) (fun s a w κ hR hF => by subst hF; exact ⟨_, κ, hR.clip0 _, rfl, rfl⟩)
            · cases he
          · cases he
        · cases hcc
    · cases hcc
  | seq x y =>
    simp only [cCode] at hcc
    split at hcc
    · rename_i b' lb hb
      split at hcc
      · rename_i a' la ha
        simp only [Option.some.injEq, Prod.mk.injEq] at hcc
        obtain ⟨rfl, _⟩ := hcc
        simp only [exC] at he
        split at he
        · rename_i s1 h1
          refine wp_seq (wp_mono (ih n (Nat.lt_succ_self n) x a' _ _ _ s a w κ _ _ ha h1 hR) ?_)
          intro e1 a w hq
          cases e1 with
          | normal =>
            obtain ⟨s2, κ, hR, _, rfl⟩ := hq
            exact ih n (Nat.lt_succ_self n) y b' _ _ _ s2 a w κ _ _ hb he hR
          | exit id => obtain ⟨_, _, _, h, _⟩ := hq; cases h
          | ret => obtain ⟨_, _, _, h, _⟩ := hq; cases h
          | goto l => exact hq.elim
          | panic ch => exact hq.elim
          | outgrown => exact hq.elim
        · rename_i i s1 h1
          cases he
          refine wp_seq (wp_mono (ih n (Nat.lt_succ_self n) x a' _ _ _ s a w κ _ _ ha h1 hR) ?_)
          intro e1 a w hq
          cases e1 with
          | normal => obtain ⟨_, _, _, h, _⟩ := hq; cases h
          | exit id => exact hq
          | ret => exact hq
          | goto l => exact hq.elim
          | panic ch => exact hq.elim
          | outgrown => exact hq.elim
        · rename_i s1 h1
          cases he
          refine wp_seq (wp_mono (ih n (Nat.lt_succ_self n) x a' _ _ _ s a w κ _ _ ha h1 hR) ?_)
          intro e1 a w hq
          cases e1 with
          | normal => obtain ⟨_, _, _, h, _⟩ := hq; cases h
          | exit id => exact hq
          | ret => exact hq
          | goto l => exact hq.elim
          | panic ch => exact hq.elim
          | outgrown => exact hq.elim
        · cases he
      · cases hcc
    · cases hcc
  | cond x y z =>
    simp only [cCode] at hcc
    split at hcc
    · rename_i ax a' la b' lb hx hy hz
      simp only [Option.some.injEq, Prod.mk.injEq] at hcc
      obtain ⟨rfl, _⟩ := hcc
      have hrel := cX_rel (κ := κ) (E := s.E) (a := a) hx (fun i _ => hR.env i)
      simp only [exC] at he
      split at he
      · rename_i hv
        rw [hv] at hrel
        exact wp_cond_true (bool_inv hrel) (ih n (Nat.lt_succ_self n) y a' _ _ _ s a w κ _ _ hy he hR)
      · rename_i hv
        rw [hv] at hrel
        exact wp_cond_false (bool_inv hrel) (ih n (Nat.lt_succ_self n) z b' _ _ _ s a w κ _ _ hz he hR)
      · cases he
    · cases hcc
  | block id b =>
    simp only [cCode] at hcc
    split at hcc
    · rename_i b' lb hb
      simp only [Option.some.injEq, Prod.mk.injEq] at hcc
      obtain ⟨rfl, _⟩ := hcc
      simp only [exC] at he
      have main : ∀ e1 s1, exC call G n b' s = some (e1, s1) → ((e1 = .norm ∧ e = .norm ∧ s' = s1) ∨ (∃ i, e1 = .exit i ∧ s' = s1 ∧ e = if i = id then .norm else .exit i) ∨ (e1 = .ret ∧ e = .ret ∧ s' = s1)) → (Code.block id b).wp P (lift c κ0 N (exitK e s')) a w := by
        intro e1 s1 h1 hcase
        refine wp_block (wp_mono (ih n (Nat.lt_succ_self n) b b' _ _ _ s a w κ _ _ hb h1 hR) ?_)
        intro e2 a w hq
        cases e2 with
        | normal =>
          obtain ⟨s2, κ, hR, rfl, rfl⟩ := hq
          rcases hcase with ⟨_, rfl, rfl⟩ | ⟨i, h, _⟩ | ⟨h, _⟩
          · exact ⟨_, κ, hR, rfl, rfl⟩
          · cases h
          · cases h
        | ret =>
          obtain ⟨s2, κ, hR, rfl, rfl⟩ := hq
          rcases hcase with ⟨h, _⟩ | ⟨i, h, _⟩ | ⟨_, rfl, rfl⟩
          · cases h
          · cases h
          · exact ⟨_, κ, hR, rfl, rfl⟩
        | exit i =>
          obtain ⟨s2, κ, hR, rfl, rfl⟩ := hq
          rcases hcase with ⟨h, _⟩ | ⟨i', h, rfl, rfl⟩ | ⟨h, _⟩
          · cases h
          · cases h
            simp only [Exit.inBlock]
            split
            · rename_i hid
              exact ⟨_, κ, hR, by simp [hid], rfl⟩
            · rename_i hid
              exact ⟨_, κ, hR, by simp [hid], rfl⟩
          · cases h
        | goto l => exact hq.elim
        | panic ch => exact hq.elim
        | outgrown => exact hq.elim
      split at he
      · rename_i s1 h1
        cases he
        exact main _ _ h1 (.inl ⟨rfl, rfl, rfl⟩)
      · rename_i i s1 h1
        split at he
        · rename_i hid
          cases he
          exact main _ _ h1 (.inr (.inl ⟨i, rfl, rfl, by simp [hid]⟩))
        · rename_i hid
          cases he
          exact main _ _ h1 (.inr (.inl ⟨i, rfl, rfl, by simp [hid]⟩))
      · rename_i s1 h1
        cases he
        exact main _ _ h1 (.inr (.inr ⟨rfl, rfl, rfl⟩))
      · cases he
    · cases hcc
  | loop b =>
    simp only [cCode] at hcc
    split at hcc
    · rename_i x1 l1 hb1
      split at hcc
      · rename_i x2 l2 hb2
        split at hcc
        · rename_i b' l3 hb
          simp only [Option.some.injEq, Prod.mk.injEq] at hcc
          obtain ⟨rfl, _⟩ := hcc
          refine wp_loop_n (fun m a w => ∃ s κ, m ≤ n + 1 ∧ Rel c κ0 N s a w κ ∧ exC call G m (.loop (sortN l2) b') s = some (e, s')) ⟨n + 1, s, κ, Nat.le_refl _, hR, he⟩ fun m a w hJ => ?_
          obtain ⟨s, κ, hm, hR, he⟩ := hJ
          cases m with
          | zero => simp [exC] at he
          | succ m =>
            simp only [exC] at he
            split at he
            · rename_i s1 h1
              refine wp_mono (ih m (by omega) b b' _ _ _ s a w κ _ _ hb h1 hR) ?_
              intro e1 a w hq
              cases e1 with
              | normal =>
                obtain ⟨s2, κ, hR, _, rfl⟩ := hq
                exact ⟨m, Nat.lt_succ_self m, _, κ, by omega, hR, he⟩
              | exit id => obtain ⟨_, _, _, h, _⟩ := hq; cases h
              | ret => obtain ⟨_, _, _, h, _⟩ := hq; cases h
              | goto l => exact hq.elim
              | panic ch => exact hq.elim
              | outgrown => exact hq.elim
            · rename_i i s1 h1
              cases he
              refine wp_mono (ih m (by omega) b b' _ _ _ s a w κ _ _ hb h1 hR) ?_
              intro e1 a w hq
              cases e1 with
              | normal => obtain ⟨_, _, _, h, _⟩ := hq; cases h
              | exit id => exact hq
              | ret => exact hq
              | goto l => exact hq.elim
              | panic ch => exact hq.elim
              | outgrown => exact hq.elim
            · rename_i s1 h1
              cases he
              refine wp_mono (ih m (by omega) b b' _ _ _ s a w κ _ _ hb h1 hR) ?_
              intro e1 a w hq
              cases e1 with
              | normal => obtain ⟨_, _, _, h, _⟩ := hq; cases h
              | exit id => exact hq
              | ret => exact hq
              | goto l => exact hq.elim
              | panic ch => exact hq.elim
              | outgrown => exact hq.elim
            · cases he
        · cases hcc
      · cases hcc
    · cases hcc
  | rangeFunc f ps x y => simp only [cCode, Option.some.injEq, Prod.mk.injEq] at hcc; obtain ⟨rfl, rfl⟩ := hcc; exact (bad_ex he).elim
  | scope b => simp only [cCode, Option.some.injEq, Prod.mk.injEq] at hcc; obtain ⟨rfl, rfl⟩ := hcc; exact (bad_ex he).elim
  | label l => simp only [cCode, Option.some.injEq, Prod.mk.injEq] at hcc; obtain ⟨rfl, rfl⟩ := hcc; exact (bad_ex he).elim
  | goto l => simp only [cCode, Option.some.injEq, Prod.mk.injEq] at hcc; obtain ⟨rfl, rfl⟩ := hcc; exact (bad_ex he).elim
  | refuse y => simp only [cCode, Option.some.injEq, Prod.mk.injEq] at hcc; obtain ⟨rfl, rfl⟩ := hcc; exact (bad_ex he).elim
theorem lookF_ok {tab : List TabRow} (ht : ∀ r ∈ tab, cFn P r.muts r.f = some r.fn) {f : Nat} {fn : AFn} (h : lookF f tab = some fn) : ∃ muts, cFn P muts f = some fn := by
  induction tab with
  | nil => cases h
  | cons r q ih =>
    simp only [lookF] at h
    split at h
    · rename_i hf
      cases h
      exact ⟨r.muts, hf ▸ ht r (by simp)⟩
    · exact ih (fun r hr => ht r (by simp [hr])) h
theorem exF_ok {tab : List TabRow} {O : Nat → List PV → Option PV} {m : Nat} (ht : ∀ r ∈ tab, cFn P r.muts r.f = some r.fn) (hO : ∀ f ps r, O f ps = some r → Pure P G f ps r) : ∀ n, CallOk P G (exF tab O G m n)
  | 0 => by intro f args sto next v sto' next' h; simp [exF] at h
  | n + 1 => by
    intro f args sto next v sto' next' h
    simp only [exF] at h
    split at h
    · rename_i r hr
      cases h
      simp only [Option.bind_eq_some_iff] at hr
      obtain ⟨ps, h1, h2⟩ := hr
      refine ⟨Grows.refl _ _, ?_⟩
      exact .inl ⟨ps, r, h1, hO f ps r h2, rfl, rfl, rfl⟩
    · split at h
      · rename_i fn hfn
        obtain ⟨muts, hcf⟩ := lookF_ok ht hfn
        split at h
        · rename_i hl
          have grow : ∀ (e : AExit) (s : St), exC (exF tab O G m n) G m fn.body ⟨initEnv args, sto, next⟩ = some (e, s) → outOf G fn s = some (v, sto', next') → Grows sto next sto' next' := by
            intro e s h1 h2
            have := exC_grows (exF_ok ht hO n) m fn.body _ e s h1
            unfold outOf at h2
            split at h2
            · cases h2; exact this
            · cases h2
          have fin : ∀ (e : AExit) (s : St), (e = .norm ∨ e = .ret) → exC (exF tab O G m n) G m fn.body ⟨initEnv args, sto, next⟩ = some (e, s) → outOf G fn s = some (v, sto', next') → TCalls P G f args sto next (fun v' s' n' => v' = v ∧ s' = sto' ∧ n' = next') := by
            intro e s he h1 h2
            refine TCalls.of_code hcf hl fun c κ N a w co rl li hG hf hb hR => ?_
            refine wp_mono (exC_ok (exF_ok ht hO n) hG m co fn.body _ _ _ _ a w κ e s hb h1 hR) ?_
            have hout : ∀ s1, s1 = s → onSome (resVs G s1 fn.res) (retK (fun v' s' n' => v' = v ∧ s' = sto' ∧ n' = next') s1) := by
              rintro s1 rfl
              unfold outOf at h2
              split at h2
              · rename_i l hl2
                cases h2
                rw [hl2]
                exact ⟨rfl, rfl, rfl⟩
              · cases h2
            intro e1 a w hq
            cases e1 with
            | normal =>
              obtain ⟨s1, κ1, hR1, he1, hs1⟩ := hq
              exact ⟨s1, κ1, hR1, hout s1 hs1⟩
            | ret =>
              obtain ⟨s1, κ1, hR1, he1, hs1⟩ := hq
              exact ⟨s1, κ1, hR1, hout s1 hs1⟩
            | exit id =>
              obtain ⟨s1, κ1, hR1, he1, hs1⟩ := hq
              rcases he with rfl | rfl <;> cases he1
            | goto l => exact hq.elim
            | panic ch => exact hq.elim
            | outgrown => exact hq.elim
          split at h
          · rename_i s1 h1; exact ⟨grow _ _ h1 h, .inr (fin _ _ (.inl rfl) h1 h)⟩
          · rename_i s1 h1; exact ⟨grow _ _ h1 h, .inr (fin _ _ (.inr rfl) h1 h)⟩
          · cases h
        · cases h
      · cases h
theorem Pure.of_ex {tab : List TabRow} {O : Nat → List PV → Option PV} {m n : Nat} {f : Nat} {ps : List PV} {r : PV} (ht : ∀ r ∈ tab, cFn P r.muts r.f = some r.fn) (hO : ∀ f ps r, O f ps = some r → Pure P G f ps r)
    (h : pcall (exF tab O G m n) f ps = some r) : Pure P G f ps r :=
  pcall_ok (exF_ok ht hO n) h
end
end Go.Ab
set_option linter.unusedVariables false
set_option linter.unusedSimpArgs false
namespace Go.Ab
open Go Go.RowKit Go.Sort
theorem pure_of_calls {P : Program} {G : Nat → List PV} {f : Nat} {args : List PV} {r : PV} (hc : Callable P f = true)
    (h : ∀ (w : World) (imm : Nat → Nat → Prop) (vals : Array Value), GlobOk G w imm → vals.size = args.length → (∀ (i : Nat) (x : PV), args[i]? = some x → PRel w imm x (vals.getD i Go.undef)) →
      Calls P f vals w fun e w' => ∃ u, e = .returned u ∧ Below w.heap.size w w' ∧ PRel w' imm r u) : Pure P G f args r := by
  refine ⟨hc, fun w imm vals hG hlt hsz hargs => (h w imm vals hG hsz hargs).mono ?_⟩
  rintro e w' ⟨u, rfl, hb, hr⟩
  exact ⟨u, imm, rfl, hb, fun _ _ h => h, fun _ _ h => .inl h, fun b o h => Nat.lt_of_lt_of_le (hlt b o h) hb.size, hr⟩
theorem str_toArray {w : World} {imm : Nat → Nat → Prop} {l : List UInt8} (h : l.length ≤ maxLen) : PRel w imm (.str l) (.string ⟨l.toArray⟩) := by
  have := PRel.str (w := w) (imm := imm) ⟨l.toArray⟩ (by show l.toArray.size ≤ maxLen; simpa using h)
  simpa using this
theorem str_val {w : World} {imm : Nat → Nat → Prop} {l : List UInt8} {v : Value} (h : PRel w imm (.str l) v) : v = .string ⟨l.toArray⟩ ∧ l.length ≤ maxLen := by
  cases h with
  | str s hs => exact ⟨by simp, hs⟩
theorem vals_1 {vals : Array Value} (h : vals.size = 1) : vals = #[vals.getD 0 Go.undef] := by
  apply Array.ext
  · simp [h]
  · intro i h1 h2
    have : i = 0 := by omega
    subst this
    simp [Array.getD_eq_getD_getElem?, h]
theorem vals_2 {vals : Array Value} (h : vals.size = 2) : vals = #[vals.getD 0 Go.undef, vals.getD 1 Go.undef] := by
  apply Array.ext
  · simp [h]
  · intro i h1 h2
    have : i = 0 ∨ i = 1 := by omega
    rcases this with rfl | rfl <;> simp [Array.getD_eq_getD_getElem?, h]
def digits : Nat → Nat → List UInt8
  | 0, _ => []
  | n + 1, k => if k < 10 then [UInt8.ofNat (48 + k)] else digits n (k / 10) ++ [UInt8.ofNat (48 + k % 10)]
def itoaT (n : Int) : List UInt8 := if n < 0 then 45 :: digits 20 n.natAbs else digits 20 n.toNat
theorem digits_eq : ∀ (f k : Nat), k < 10 ^ f → 0 < f → digits f k = Lib.decDigits k
  | 0, k, _, h => absurd h (by simp)
  | f + 1, k, hk, _ => by
    rw [digits, Lib.decDigits]
    by_cases h : k < 10
    · simp [h]
    · rw [if_neg h, dif_neg h]
      have h10 : k / 10 < 10 ^ f := by
        rw [Nat.pow_succ] at hk
        exact Nat.div_lt_of_lt_mul (by rw [Nat.mul_comm]; exact hk)
      rw [digits_eq f (k / 10) h10 (by
        rcases Nat.eq_zero_or_pos f with h0 | h0
        · subst h0
          simp at hk
          omega
        · exact h0)]
theorem digits_len : ∀ (f k : Nat), (digits f k).length ≤ f
  | 0, k => by simp [digits]
  | f + 1, k => by
    rw [digits]
    split
    · simp
    · have := digits_len f (k / 10)
      simp; omega
theorem itoaT_eq {n : Int} (h0 : -9223372036854775808 ≤ n) (h1 : n ≤ 9223372036854775807) : itoaT n = Lib.itoa n := by
  have e : (10 : Nat) ^ 20 = 100000000000000000000 := by decide
  unfold itoaT Lib.itoa
  split
  · rw [digits_eq 20 n.natAbs (by rw [e]; omega) (by decide)]
  · rw [digits_eq 20 n.toNat (by rw [e]; omega) (by decide)]
theorem itoaT_len (n : Int) : (itoaT n).length ≤ 21 := by
  unfold itoaT
  split
  · have := digits_len 20 n.natAbs
    simp; omega
  · have := digits_len 20 n.toNat
    omega
theorem tabIs_of {P : Program} {G : Nat → List PV} {w : World} {imm : Nat → Nat → Prop} {name : String} {k : IntKind} {zs : List Int} {g : Nat} (hn : P.globalNamed name = some g) (hG : G g = zs.map (PV.int k)) (hz : zs ≠ []) (h : GlobOk G w imm) :
    Lib.TabIs P w name k zs := by
  obtain ⟨cs, T, fz, h1, h2⟩ := h.2 g (by rw [hG]; simpa using hz)
  have hcs : cs = (zs.map fun z => Value.int k z).toArray := by
    rw [hG] at h2
    simp only [List.length_map] at h2
    apply Array.ext
    · simp [h2]
    · intro i hi hi'
      have hiz : i < zs.length := by omega
      obtain ⟨_, v, h3, _, h4⟩ := h.1 g i (.int k zs[i]) (by rw [hG]; simp [hiz])
      have hv : v = .int k zs[i] := by cases h4; rfl
      have hc := cell_of_row w g i cs T fz h1
      rw [h3, hv] at hc
      have := (Array.getElem?_eq_some_iff.1 hc.symm).2
      simp [this]
  unfold Lib.TabIs World.var?
  rw [hn]
  simp only [Option.bind_some, h1]
  rw [hcs]
theorem itoa_pure {P : Program} {G : Nat → List PV} {f g : Nat} {name : String} (hc : Callable P f = true) (hn : P.globalNamed name = some g) (hG : G g = Lib.pow10Tab.map (PV.int .u64))
    (h : ∀ (n : Int) (h0 : -9223372036854775808 ≤ n) (h1 : n ≤ 9223372036854775807) (w : World) (htab : Lib.TabIs P w name .u64 Lib.pow10Tab),
      Calls P f #[.int .i64 n] w fun e w' => e = .returned (.string ⟨(Lib.itoa n).toArray⟩) ∧ ∃ k os, w' = Sort.grow (w.drewN k) os)
    (n : Int) (h0 : -9223372036854775808 ≤ n) (h1 : n ≤ 9223372036854775807) : Pure P G f [.int .i64 n] (.str (itoaT n)) := by
  refine pure_of_calls hc fun w imm vals hGl hsz hargs => ?_
  have hv := vals_1 hsz
  have h2 := hargs 0 (.int .i64 n) rfl
  have h3 : vals.getD 0 Go.undef = .int .i64 n := by
    generalize vals.getD 0 Go.undef = x at h2
    cases h2; rfl
  rw [hv, h3]
  refine (h n h0 h1 w (tabIs_of hn hG (by
    intro e
    have := congrArg List.length e
    rw [Lib.pow10Tab_length] at this
    simp at this) hGl)).mono ?_
  rintro e w' ⟨rfl, k, os, rfl⟩
  refine ⟨_, rfl, Lib.below_grow _ w (Nat.le_refl _) k os, ?_⟩
  rw [itoaT_eq h0 h1, ← itoaT_eq h0 h1]
  refine str_toArray ?_
  have := itoaT_len n
  unfold maxLen; omega
theorem compare_pure {P : Program} {G : Nat → List PV} {f : Nat} (hc : Callable P f = true)
    (h : ∀ (a b : ByteArray) (w : World), Calls P f #[.string a, .string b] w fun e w' => e = .returned (.int .i64 (Lib.compareBytes a.data.toList b.data.toList)) ∧ w' = w) (a b : List UInt8) :
    Pure P G f [.str a, .str b] (.int .i64 (Lib.compareBytes a b)) := by
  refine pure_of_calls hc fun w imm vals hGl hsz hargs => ?_
  have hv := vals_2 hsz
  obtain ⟨ha, _⟩ := str_val (hargs 0 (.str a) rfl)
  obtain ⟨hb, _⟩ := str_val (hargs 1 (.str b) rfl)
  rw [hv, ha, hb]
  refine (h _ _ w).mono ?_
  rintro e w' ⟨rfl, rfl⟩
  refine ⟨_, rfl, Below.refl _ _, ?_⟩
  simpa using PRel.int (w := w') (imm := imm) .i64 (Lib.compareBytes a b)
end Go.Ab
set_option linter.unusedVariables false
namespace Go.Ab
open Go
section
variable {P : Program} {G : Nat → List PV}
theorem callDL_lentK {F : List (List Nat × List Nat) → St → Prop} {T : List (List Nat × List Nat)} {e : List (Nat × AV)} {σ : List (Nat × Blk)} {next d : Nat} {a b args : List AV}
    {k f : Nat} {args0 : List AV} {bs : List Blk} {v : AV} {bs' : List Blk} (h : Lent P G k f args0 bs v bs') (rs : List Nat)
    (hok : lentOk k rs bs bs' next = true) (hargs : AVzL (a ++ args ++ b) (AV.renL (gSo next rs) args0)) (hbs : LentAt σ (gSo next rs) rs bs)
    (hk : F (T ++ [rowT 2 (keysL (outB (gSo next (rs.take k)) bs' 0 (gIn next (rs.take k)) ++ noneB (rs.drop k)).reverse) (σ.map (·.1))])
      ⟨(d, v.ren (gSo next (rs.take k))) :: e, outB (gSo next (rs.take k)) bs' 0 (gIn next (rs.take k)) ++ (noneB (rs.drop k) ++ σ), next + (bs'.length - k)⟩) : callDL P G F T ⟨e, σ, next⟩ (some d) args (f, a, b) := by
  simp only [lentOk, Bool.and_eq_true, decide_eq_true_eq, List.all_eq_true] at hok
  obtain ⟨⟨⟨⟨h1, h2⟩, h3⟩, h4⟩, h5⟩ := hok
  have hf := h.frame hargs hbs h5 h4 h1 h2 (fun b hb e => by
    have := h3 b hb
    subst e; cases this)
  have e : updB σ (outB (gSo next (rs.take k)) bs' 0 (gIn next (rs.take k)) ++ noneB (rs.drop k)).reverse = outB (gSo next (rs.take k)) bs' 0 (gIn next (rs.take k)) ++ (noneB (rs.drop k) ++ σ) := by
    rw [updB_eq, List.reverse_reverse, List.append_assoc]
  refine callDL_lent (δ := (outB (gSo next (rs.take k)) bs' 0 (gIn next (rs.take k)) ++ noneB (rs.drop k)).reverse) (top := next + (bs'.length - k)) (hf.mono fun v' s n hq => ⟨hq.1, ?_, hq.2.2⟩) (by omega) ?_
  · rw [e]; exact hq.2.1
  · rw [e]; exact hk
end
end Go.Ab
set_option linter.unusedVariables false
set_option linter.unusedSimpArgs false
namespace Go.Ab
open Go
def flatC : List AV → List AV
  | [] => []
  | x :: r => x.cells ++ flatC r
theorem flatC_nil : flatC [] = [] := _root_.id rfl
theorem flatC_cons (x : AV) (r : List AV) : flatC (x :: r) = x.cells ++ flatC r := _root_.id rfl
theorem flatC_eq : ∀ l : List AV, l.flatMap AV.cells = flatC l
  | [] => rfl
  | x :: r => by rw [List.flatMap_cons, flatC_eq r]; rfl
section
variable {P : Program} {G : Nat → List PV}
theorem chk_of {b : Bool} (h : b = true) : Chk b := h
theorem bsl_t {e sz len new : Nat} {vs : List AV} (h : Chk (decide (vs.length = len) && decide (len ≤ 9223372036854775807) && vs.all (fun v => v.known && v.cells.length == sz && v.cells.all AV.one))) : rBslice true e sz len new vs = some (.row new sz 0 len, [(new, .cells e true (flatC vs))]) := by
  have h' := h
  simp only [Chk, Bool.and_eq_true, decide_eq_true_eq] at h'
  obtain ⟨⟨h1, h2⟩, h3⟩ := h'
  simp only [rBslice]
  rw [if_pos ⟨h1, h2⟩, if_pos h3, flatC_eq]
theorem pvs_pv : ∀ l : List PV, pvs (l.map .pv) = some l
  | [] => rfl
  | x :: r => by simp [pvs, AV.toPV, pvs_pv r]
end
attribute [push_cast] bsl_t flatC_nil flatC_cons
end Go.Ab
set_option linter.unusedVariables false
set_option linter.unusedSimpArgs false
namespace Go.Ab
open Go
section
variable {P : Program} {G : Nat → List PV}
end
def capB (sz s off : Nat) : Blk → Option AV
  | .cells _ f l => if f = true ∧ s = sz ∧ 0 < sz ∧ off = 0 then some (.pv (.int .i64 ((l.length / sz : Nat) : Int))) else none
  | _ => none
theorem rCap_row (sz : Nat) (σ : Store) (r s off len : Nat) : rCap sz σ (.row r s off len) = capB sz s off (σ r) := by
  simp only [rCap, capB]; cases σ r <;> rfl
def reslB (sz r s off : Nat) (h : Int) : Blk → Option AV
  | .cells _ f l => if f = true ∧ s = sz ∧ 0 < sz ∧ off = 0 ∧ 0 ≤ h ∧ h.toNat * sz ≤ l.length then some (.row r sz 0 h.toNat) else none
  | _ => none
theorem rResl_row (sz : Nat) (σ : Store) (r s off len : Nat) (k : IntKind) (h : Int) : rResl sz σ (.row r s off len) (.pv (.int k h)) = reslB sz r s off h (σ r) := by
  simp only [rResl, reslB]; cases σ r <;> rfl
def srcB (sz s off len : Nat) : Blk → Option (Nat × List AV)
  | .cells _ _ l => if s = sz ∧ off + len * sz ≤ l.length then some (len, (l.drop off).take (len * sz)) else none
  | _ => none
theorem srcC_row (sz : Nat) (σ : Store) (r s off len : Nat) : srcC sz σ (.row r s off len) = srcB sz s off len (σ r) := by
  cases hh : σ r <;> simp [srcC, srcB, hh]
theorem srcC_ol (sz r : Nat) (σ : Store) (l : List PV) : srcC sz σ (.olist r sz l) = some (l.length, flat l) := by
  simp [srcC, elemsOf]
def copyR (sz r s off len : Nat) : Blk → Option (Nat × List AV) → Option (AV × List (Nat × Blk))
  | .cells T f l, o => if s = sz then o.bind (copyB sz r off len T f l) else none
  | _, _ => none
theorem rCopy_row (sz : Nat) (σ : Store) (r s off len : Nat) (y : AV) : rCopy sz σ (.row r s off len) y = copyR sz r s off len (σ r) (srcC sz σ y) := by
  simp only [rCopy, copyR]; cases σ r <;> rfl
def apartB (r q : Nat) (k : List PV) : Blk → Blk → Option AV
  | .tok _ _, .cells _ f l => if r ≠ q ∧ f = true ∧ 0 < l.length ∧ 0 < k.length then some (.pv (.bool false)) else none
  | _, _ => none
theorem rApart_row (σ : Store) (r s q sz off len : Nat) (k : List PV) : rApart σ (.olist r s k) (.row q sz off len) = apartB r q k (σ r) (σ q) := by
  simp only [rApart, apartB]; cases σ r <;> cases σ q <;> rfl
def appzB (e sz by_ : Nat) (zs : List PV) (new s off len : Nat) (k : Int) : Blk → Option (AV × List (Nat × Blk))
  | .cells _ f l => if f = true ∧ s = sz ∧ 0 < sz ∧ off = 0 ∧ 0 < k ∧ l.length < (len + k.toNat) * sz ∧ zs.length = sz ∧ zs.all PV.one = true ∧ room len k.toNat by_ = true then
        some (.row new sz 0 (len + k.toNat), [(new, .cells e false (l.take (len * sz) ++ (List.replicate k.toNat zs).flatten.map .pv))]) else none
  | _ => none
theorem rAppz_row (e sz by_ : Nat) (zs : List PV) (new : Nat) (σ : Store) (r s off len : Nat) (kd : IntKind) (k : Int) : rAppz e sz by_ zs new σ (.row r s off len) (.pv (.int kd k)) = appzB e sz by_ zs new s off len k (σ r) := by
  simp only [rAppz, appzB]; cases σ r <;> rfl
theorem app_nilT {e sz by_ new : Nat} {σ : Store} {y : PV} {r : List PV} (h1 : r.length + 1 ≤ 9223372036854775807) (h2 : (r.length + 1) * by_ ≤ 140737488355328) : appRow true e sz by_ new σ (.pv .nils) (some (y :: r)) = some (.row new sz 0 (r.length + 1), [(new, .cells e false (flat (y :: r)))]) := by
  simp only [appRow]; rw [if_pos (room_ok (by omega) (by simpa using h2))]
section
variable (e : List (Nat × AV)) (σ : List (Nat × Blk)) (new : Nat)
theorem mRun_x (G : Nat → List PV) (o : XOp) : mRun G e σ new (.xop o) = xRun e σ new o := _root_.id rfl
theorem xRun_cap (sz : Nat) (x : AX) : xRun e σ new (.cap sz x) = withD [] (rCap sz (fun r => lookB r σ) (evE e x)) := by
  simp only [xRun, withD]; cases rCap sz (fun r => lookB r σ) (evE e x) <;> rfl
theorem xRun_resl (sz : Nat) (x h : AX) : xRun e σ new (.resl sz x h) = withD [] (rResl sz (fun r => lookB r σ) (evE e x) (evE e h)) := by
  simp only [xRun, withD]; cases rResl sz (fun r => lookB r σ) (evE e x) (evE e h) <;> rfl
theorem xRun_copy (sz : Nat) (x y : AX) : xRun e σ new (.copy sz x y) = rCopy sz (fun r => lookB r σ) (evE e x) (evE e y) := _root_.id rfl
theorem xRun_apart (x y : AX) : xRun e σ new (.apart x y) = withD [] (rApart (fun r => lookB r σ) (evE e x) (evE e y)) := by
  simp only [xRun, withD]; cases rApart (fun r => lookB r σ) (evE e x) (evE e y) <;> rfl
theorem xRun_appz (t sz by_ : Nat) (zs : List PV) (x k : AX) : xRun e σ new (.appz t sz by_ zs x k) = rAppz t sz by_ zs new (fun r => lookB r σ) (evE e x) (evE e k) := _root_.id rfl
theorem mReads_x (o : XOp) : mReads e (.xop o) = xReads e o := _root_.id rfl
theorem xReads_copy (sz : Nat) (x y : AX) : xReads e (.copy sz x y) = (evE e x).name ++ (evE e y).name := _root_.id rfl
theorem makesN_copy (sz : Nat) (x y : AX) : makesN (.xop (.copy sz x y)) = 0 := _root_.id rfl
end
attribute [push_cast] app_nilT rCap_row rResl_row srcC_ol srcC_row rCopy_row rApart_row rAppz_row mRun_x xRun_cap xRun_resl xRun_copy xRun_apart xRun_appz mReads_x xReads_copy makesN_copy
end Go.Ab
set_option linter.unusedVariables false
set_option linter.unusedSimpArgs false
namespace Go.Ab
open Go
section
variable {e : List (Nat × AV)} {σ : List (Nat × Blk)} {new : Nat}
theorem bytesP_length (l : List UInt8) : (bytesP l).length = l.length := by simp [bytesP]
theorem flat_bytes (l : List UInt8) : flat (bytesP l) = (bytesP l).map .pv := by
  unfold flat
  congr 1
  induction l with
  | nil => rfl
  | cons b r ih => simp only [bytesP, List.map_cons, List.flatMap_cons, PV.cells] at ih ⊢; rw [ih]; rfl
theorem bytesP_append (l k : List UInt8) : bytesP (l ++ k) = bytesP l ++ bytesP k := by simp [bytesP]
theorem avz_anyR (x : AV) : AVz x .any = True := eq_true (.any x)
theorem xRun_noesc (x : AX) : xRun e σ new (.noesc x) = some (evE e x, []) := _root_.id rfl
theorem xRun_ucast (u n : Nat) (b : Bool) (x : AX) : xRun e σ new (.ucast u n b x) = withD [] (rUcast u n b (fun r => lookB r σ) (evE e x)) := by
  simp only [xRun, withD]; cases rUcast u n b (fun r => lookB r σ) (evE e x) <;> rfl
def ucastB (u n : Nat) (back : Bool) (r o : Nat) : Blk → Option AV
  | .cells T f l => match back with
    | false => if o < l.length then some (.ptr r o) else none
    | true => if T = u ∧ o = 0 ∧ f = true ∧ l.length = n then some (.ptr r o) else none
  | _ => none
theorem rUcast_ptr (u n : Nat) (b : Bool) (τ : Store) (r o : Nat) : rUcast u n b τ (.ptr r o) = ucastB u n b r o (τ r) := by
  simp only [rUcast, ucastB]; cases τ r <;> rfl
theorem ucastB_f {u n r o T : Nat} {f : Bool} {l : List AV} (h : Chk (decide (o < l.length))) : ucastB u n false r o (.cells T f l) = some (.ptr r o) := if_pos (of_decide_eq_true h)
theorem ucastB_t {u n r : Nat} {l : List AV} (h : Chk (decide (l.length = n))) : ucastB u n true r 0 (.cells u true l) = some (.ptr r 0) := if_pos ⟨rfl, rfl, rfl, of_decide_eq_true h⟩
theorem xRun_peq (ng : Bool) (x y : AX) : xRun e σ new (.peq ng x y) = withD [] (rPeq ng (evE e x) (evE e y)) := by
  simp only [xRun, withD]; cases rPeq ng (evE e x) (evE e y) <;> rfl
theorem rPeq_ptr (ng : Bool) (r o : Nat) : rPeq ng (.ptr r o) (.ptr r o) = some (.pv (.bool (!ng))) := if_pos ⟨rfl, rfl⟩
theorem xRun_fnil (ng : Bool) (x y : AX) : xRun e σ new (.fnil ng x y) = withD [] (rFnil ng (evE e x) (evE e y)) := by
  simp only [xRun, withD]; cases rFnil ng (evE e x) (evE e y) <;> rfl
theorem rFnil_clo (ng : Bool) (f : Nat) (a b : List PV) : rFnil ng (.pv (.clo f a b)) (.pv .nilf) = some (.pv (.bool ng)) := _root_.id rfl
theorem rFnil_nil (ng : Bool) : rFnil ng (.pv .nilf) (.pv .nilf) = some (.pv (.bool (!ng))) := _root_.id rfl
theorem xRun_idxb (x y : AX) : xRun e σ new (.idxb x y) = withD [] (rIdxb (evE e x) (evE e y)) := by
  simp only [xRun, withD]; cases rIdxb (evE e x) (evE e y) <;> rfl
theorem rIdxb_str (s : List UInt8) (c : Int) : rIdxb (.pv (.str s)) (.pv (.int .u8 c)) = some (.pv (.int .i64 (fstB c.toNat.toUInt8 s 0))) := _root_.id rfl
theorem xRun_apps (t by_ : Nat) (x y : AX) : xRun e σ new (.apps t by_ x y) = rApps t by_ new (fun r => lookB r σ) (evE e x) (evE e y) := _root_.id rfl
theorem rApps_nil0 (t by_ : Nat) (τ : Store) : rApps t by_ new τ (.pv .nils) (.pv (.str [])) = some (.pv .nils, []) := _root_.id rfl
theorem rApps_nil1 {t : Nat} {τ : Store} {c : UInt8} {k : List UInt8} (h : k.length + 1 ≤ 140737488355328) : rApps t 1 new τ (.pv .nils) (.pv (.str (c :: k))) = some (.row new 1 0 (k.length + 1), [(new, .cells t false ((bytesP (c :: k)).map .pv))]) := by
  have h1 : bytesP (c :: k) = .int .u8 (c.toNat : Int) :: bytesP k := _root_.id rfl
  have h2 := room_ok (n := 0) (m := (bytesP k).length + 1) (by_ := 1) (by rw [bytesP_length]; omega) (by rw [bytesP_length]; omega)
  simp only [rApps, appM, h1]
  rw [if_pos h2, ← h1, flat_bytes, bytesP_length]
def appsB (t by_ new q s off len : Nat) (k : List UInt8) : Blk → Option (AV × List (Nat × Blk))
  | .cells e' _ l => if e' = t ∧ s = 1 ∧ off = 0 ∧ len * 1 ≤ l.length ∧ room len (bytesP k).length by_ = true then some (.row new 1 0 (len + (bytesP k).length), [(q, .none), (new, .cells t false (l.take (len * 1) ++ flat (bytesP k)))]) else none
  | _ => none
theorem rApps_row (t by_ : Nat) (τ : Store) (q s off len : Nat) (k : List UInt8) : rApps t by_ new τ (.row q s off len) (.pv (.str k)) = appsB t by_ new q s off len k (τ q) := by
  simp only [rApps, appM, appsB]
  cases τ q <;> rfl
theorem appsB_ok {t q len : Nat} {f : Bool} {l k : List UInt8} (hl : len = l.length) (h : l.length + k.length ≤ 140737488355328) :
    appsB t 1 new q 1 0 len k (.cells t f ((bytesP l).map .pv)) = some (.row new 1 0 (l.length + k.length), [(q, .none), (new, .cells t false ((bytesP (l ++ k)).map .pv))]) := by
  subst hl
  have h2 := room_ok (n := l.length) (m := (bytesP k).length) (by_ := 1) (by rw [bytesP_length]; omega) (by rw [bytesP_length]; omega)
  simp only [appsB]
  rw [if_pos ⟨trivial, trivial, trivial, by simp [bytesP_length], h2⟩, bytesP_length, flat_bytes, bytesP_append, List.map_append, List.take_of_length_le (by simp [bytesP_length])]
theorem flat_byte (k : IntKind) (n : Int) : flat [PV.int k n] = [.pv (.int k n)] := _root_.id rfl
theorem appRw_byte {t new q len : Nat} {f : Bool} {l : List UInt8} {c : UInt8} (hl : len = l.length) (h : l.length + 1 ≤ 140737488355328) :
    appRw t 1 1 new q 1 0 len [.int .u8 (c.toNat : Int)] (.cells t f ((bytesP l).map .pv)) = some (.row new 1 0 (l.length + 1), [(q, .none), (new, .cells t false ((bytesP (l ++ [c])).map .pv))]) := by
  subst hl
  rw [appRw_ok (by simp [bytesP_length]) (by simp; omega) (by simpa using h), List.take_of_length_le (by simp [bytesP_length]), bytesP_append, List.map_append]
  rfl
theorem xRun_sdata (x : AX) : xRun e σ new (.sdata x) = withD [] (rSdata (evE e x)) := by
  simp only [xRun, withD]; cases rSdata (evE e x) <;> rfl
theorem rSdata_nil : rSdata (.pv .nils) = some (.pv .nilp) := _root_.id rfl
theorem rSdata_row (r s off n : Nat) : rSdata (.row r s off (n + 1)) = some (.ptr r off) := by rw [rSdata]; exact if_pos (Nat.succ_pos n)
theorem xRun_ustr (t : Nat) (x k : AX) : xRun e σ new (.ustr t x k) = rUstr t (fun r => lookB r σ) (evE e x) (evE e k) := _root_.id rfl
theorem rUstr_nil (t : Nat) (τ : Store) : rUstr t τ (.pv .nilp) (.pv (.int .i64 0)) = some (.pv (.str []), []) := _root_.id rfl
theorem rUstr_ptr (t : Nat) (τ : Store) (r o : Nat) (k : Int) : rUstr t τ (.ptr r o) (.pv (.int .i64 k)) = ustrB t r o k (τ r) := _root_.id rfl
theorem u8x_bytes : ∀ l : List UInt8, u8x (bytesP l) = some l
  | [] => rfl
  | b :: r => by
    have ih := u8x_bytes r
    have h : bytesP (b :: r) = .int .u8 (b.toNat : Int) :: bytesP r := _root_.id rfl
    have hb := b.toNat_lt
    rw [h, u8x, if_pos ⟨by omega, by omega⟩, ih]
    simp
theorem ustrB_ok {t r : Nat} {k : Int} {f : Bool} {l : List UInt8} (hk : k = (l.length : Int)) (h0 : 0 < l.length) (h1 : l.length ≤ 140737488355328) : ustrB t r 0 k (.cells t f ((bytesP l).map .pv)) = some (.pv (.str l), [(r, .none)]) := by
  subst hk
  simp only [ustrB, Int.toNat_natCast]
  rw [if_pos ⟨trivial, trivial, by omega, by simp [bytesP_length], by omega⟩, List.take_of_length_le (by simp [bytesP_length]), pvs_pv, Option.bind_some, u8x_bytes]
  rfl
theorem xReads_apps (t b : Nat) (x y : AX) : xReads e (.apps t b x y) = (evE e x).name := _root_.id rfl
theorem xReads_ustr (t : Nat) (x y : AX) : xReads e (.ustr t x y) = (evE e x).name := _root_.id rfl
theorem xReads_ucast (u n : Nat) (b : Bool) (x : AX) : xReads e (.ucast u n b x) = (evE e x).name := _root_.id rfl
theorem xReads_noesc (x : AX) : xReads e (.noesc x) = [] := _root_.id rfl
theorem xReads_peq (g : Bool) (x y : AX) : xReads e (.peq g x y) = [] := _root_.id rfl
theorem xReads_sdata (x : AX) : xReads e (.sdata x) = [] := _root_.id rfl
theorem xReads_fnil (g : Bool) (x y : AX) : xReads e (.fnil g x y) = [] := _root_.id rfl
theorem xReads_idxb (x y : AX) : xReads e (.idxb x y) = [] := _root_.id rfl
theorem makesN_apps (t b : Nat) (x y : AX) : makesN (.xop (.apps t b x y)) = 1 := _root_.id rfl
theorem makesN_ustr (t : Nat) (x y : AX) : makesN (.xop (.ustr t x y)) = 0 := _root_.id rfl
theorem makesN_sdata (x : AX) : makesN (.xop (.sdata x)) = 0 := _root_.id rfl
theorem makesN_ucast (u n : Nat) (b : Bool) (x : AX) : makesN (.xop (.ucast u n b x)) = 0 := _root_.id rfl
theorem makesN_noesc (x : AX) : makesN (.xop (.noesc x)) = 0 := _root_.id rfl
theorem makesN_peq (g : Bool) (x y : AX) : makesN (.xop (.peq g x y)) = 0 := _root_.id rfl
theorem makesN_fnil (g : Bool) (x y : AX) : makesN (.xop (.fnil g x y)) = 0 := _root_.id rfl
theorem makesN_idxb (x y : AX) : makesN (.xop (.idxb x y)) = 0 := _root_.id rfl
end
section
variable {P : Program} {G : Nat → List PV}
def RoundS {ι κ : Type} (S : ι → St) (Inv : ι → Prop) (μ : ι → Nat) (x : ι) (m0 : Nat) (keep : List Nat) (id : Nat) (keepX : List Nat) (SX : κ → St) (fin : κ → Prop) (Q : AExit → St → Prop) : AExit → St → Prop
  | .norm, s' => ∃ x', Hd [] m0 keep s' (S x') ∧ Inv x' ∧ μ x' < μ x
  | .exit i, s' => if i = id then ∃ y, Hd [] m0 keepX s' (SX y) ∧ fin y else Q (.exit i) s'
  | .ret, s' => Q .ret s'
theorem RoundS_norm {ι κ : Type} (S : ι → St) (Inv : ι → Prop) (μ : ι → Nat) (x : ι) (m0 : Nat) (keep : List Nat) (id : Nat) (keepX : List Nat) (SX : κ → St) (fin : κ → Prop) (Q : AExit → St → Prop) (s : St) : RoundS S Inv μ x m0 keep id keepX SX fin Q .norm s = ∃ x', Hd [] m0 keep s (S x') ∧ Inv x' ∧ μ x' < μ x := _root_.id rfl
theorem RoundS_exit {ι κ : Type} (S : ι → St) (Inv : ι → Prop) (μ : ι → Nat) (x : ι) (m0 : Nat) (keep : List Nat) (id : Nat) (keepX : List Nat) (SX : κ → St) (fin : κ → Prop) (Q : AExit → St → Prop) (i : Nat) (s : St) : RoundS S Inv μ x m0 keep id keepX SX fin Q (.exit i) s = if i = id then (∃ y, Hd [] m0 keepX s (SX y) ∧ fin y) else Q (.exit i) s := _root_.id rfl
theorem RoundS_ret {ι κ : Type} (S : ι → St) (Inv : ι → Prop) (μ : ι → Nat) (x : ι) (m0 : Nat) (keep : List Nat) (id : Nat) (keepX : List Nat) (SX : κ → St) (fin : κ → Prop) (Q : AExit → St → Prop) (s : St) : RoundS S Inv μ x m0 keep id keepX SX fin Q .ret s = Q .ret s := _root_.id rfl
theorem vc_meetS {ι κ : Type} (S : ι → St) (Inv : ι → Prop) (μ : ι → Nat) (x0 : ι) (keepX : List Nat) (SX : κ → St) (fin : κ → Prop) {m0 id : Nat} {keep : List Nat} {b : ACode} {F : St → Prop} {Q : AExit → St → Prop} {s : St}
    (h1 : Hd [] m0 keep s (S x0)) (h2 : Inv x0) (h3 : ∀ x, Inv x → vc P G m0 b (RoundS S Inv μ x m0 keep id keepX SX fin Q) (S x)) (h4 : ∀ y, fin y → F (SX y)) : vc P G m0 (.loop keep b) (BlockK id (SeqK F Q)) s := by
  refine ⟨fun n s' => ∃ x, s' = S x ∧ Inv x ∧ μ x = n, ⟨μ x0, _, h1, x0, rfl, h2, rfl⟩, ?_⟩
  rintro n s' ⟨x, rfl, hx, rfl⟩
  refine vc_mono b (fun e s' hs => ?_) _ (h3 x hx)
  cases e with
  | norm =>
    obtain ⟨x', k1, k2, k3⟩ := hs
    exact ⟨_, _, k3, k1, x', rfl, k2, rfl⟩
  | exit i =>
    simp only [RoundS] at hs
    split at hs
    · rename_i hi
      obtain ⟨y, k1, k2⟩ := hs
      refine ⟨_, k1, ?_⟩
      simp only [BlockK, if_pos hi, SeqK]
      exact h4 y k2
    · rename_i hi
      refine ⟨s', Wk.of (Wx.refl s') m0, ?_⟩
      simp only [BlockK, if_neg hi, SeqK]
      exact hs
  | ret => exact hs
end
attribute [push_cast] RoundS_norm RoundS_exit RoundS_ret avz_anyR flat_byte xRun_noesc xRun_ucast rUcast_ptr ucastB_f ucastB_t xRun_peq rPeq_ptr xRun_fnil rFnil_clo rFnil_nil xRun_idxb rIdxb_str
  xRun_apps rApps_nil0 rApps_nil1 rApps_row xRun_sdata rSdata_nil rSdata_row xRun_ustr rUstr_nil rUstr_ptr xReads_apps xReads_ustr xReads_ucast xReads_noesc xReads_peq xReads_sdata
  xReads_fnil xReads_idxb makesN_apps makesN_ustr makesN_sdata makesN_ucast makesN_noesc makesN_peq makesN_fnil makesN_idxb
end Go.Ab
set_option linter.unusedVariables false
set_option linter.unusedSimpArgs false
namespace Go.Ab
open Go Go.RowKit
def isAggT (P : Program) (t : TypeId) : Bool :=
  match P.underlying t with
  | some (.struct _) | some (.array _ _) => true
  | _ => false
def cellPV (g : Bool) (cs : List PV) : PV :=
  match g with
  | true => .agg cs
  | false => cs.headD .undef
def fieldPV (P : Program) (f : Field) (cs : List PV) : PV := cellPV (isAggT P f.type) ((cs.drop f.offset).take (P.cellsOf f.type))
inductive HasT (P : Program) : TypeId → PV → Prop
  | bool (t : TypeId) (b : Bool) : P.underlying t = some .bool → HasT P t (.bool b)
  | int (t : TypeId) (k : IntKind) (n : Int) : P.underlying t = some (.int k) → (Lit.int k n).wf = true → HasT P t (.int k n)
  | str (t : TypeId) (s : List UInt8) : P.underlying t = some .string → s.length ≤ 140737488351232 → HasT P t (.str s)
  | list (t e : TypeId) (l : List PV) : P.underlying t = some (.slice e) → l.length ≤ maxLen → l.length * P.bytesOf e ≤ 140737488351232 → (∀ (i : Nat) (x : PV), l[i]? = some x → HasT P e x) → HasT P t (.list l)
  | arr (t e : TypeId) (n : Nat) (cs : List PV) : P.underlying t = some (.array n e) → cs.length = P.cellsOf t → (∀ i, i < n → HasT P e (cellPV (isAggT P e) ((cs.drop (i * P.cellsOf e)).take (P.cellsOf e)))) → HasT P t (.agg cs)
  | agg (t : TypeId) (fs : Array Field) (cs : List PV) : P.underlying t = some (.struct fs) → cs.length = P.cellsOf t → (∀ (i : Nat) (f : Field), fs.toList[i]? = some f → HasT P f.type (fieldPV P f cs)) → HasT P t (.agg cs)
def RelC (w : World) (imm : Nat → Nat → Prop) (p : PV) (cs : List Value) : Prop :=
  p.cells.length = cs.length ∧ ∀ (i : Nat) (x : PV), p.cells[i]? = some x → PRel w imm x (cs.getD i Go.undef) ∧ (cs.getD i Go.undef).oneCell' = true
def layT (P : Program) : List Field → Nat → Option Nat
  | [], o => some o
  | f :: r, o => if f.offset = o then layT P r (o + P.cellsOf f.type) else none
def okStep (P : Program) (ts : List TypeId) (t : TypeId) : Bool :=
  match P.underlying t with
  | some .bool | some (.int _) | some .string => true
  | some (.slice e) => ts.contains e && decide (0 < P.cellsOf e)
  | some (.struct fs) => (match layT P fs.toList 0 with
    | some n => decide (n = P.cellsOf t)
    | none => false) && fs.toList.all fun f => ts.contains f.type
  | some (.array n e) => ts.contains e && decide (n * P.cellsOf e = P.cellsOf t)
  | _ => false
def okTs (P : Program) (ts : List TypeId) : Bool := ts.all fun t => okStep P ts t
theorem HasT.cell {P : Program} {t : TypeId} {p : PV} (h : HasT P t p) : cellPV (isAggT P t) p.cells = p := by
  cases h with
  | bool _ h => simp [isAggT, ‹P.underlying t = _›, cellPV, PV.cells]
  | int _ _ h _ => simp [isAggT, ‹P.underlying t = _›, cellPV, PV.cells]
  | str _ h _ => simp [isAggT, ‹P.underlying t = _›, cellPV, PV.cells]
  | list _ _ h _ _ _ => simp [isAggT, ‹P.underlying t = _›, cellPV, PV.cells]
  | arr _ _ _ h _ _ => simp [isAggT, ‹P.underlying t = _›, cellPV, PV.cells]
  | agg _ _ h _ _ => simp [isAggT, ‹P.underlying t = _›, cellPV, PV.cells]
theorem layT_le {P : Program} : ∀ (fs : List Field) (o n : Nat), layT P fs o = some n → o ≤ n ∧ ∀ f ∈ fs, o ≤ f.offset
  | [], o, n, h => by simp only [layT, Option.some.injEq] at h; subst h; simp
  | f :: r, o, n, h => by
    simp only [layT] at h
    split at h
    · rename_i ho
      obtain ⟨h1, h2⟩ := layT_le r _ n h
      refine ⟨by omega, fun g hg => ?_⟩
      rcases List.mem_cons.1 hg with rfl | hg
      · omega
      · have := h2 g hg; omega
    · cases h
section
variable {H : Type} {enc : TypeId × Value → H} {P : Program} {w : World} {spare : Nat → Bool} {held : Bool} {ts : List TypeId} {imm : Nat → Nat → Prop}
theorem relC_one {p : PV} {v : Value} (hc : p.cells = [p]) (h : PRel w imm p v) (h1 : v.oneCell' = true) : RelC w imm p [v] := by
  refine ⟨by rw [hc]; rfl, fun i x hx => ?_⟩
  rw [hc] at hx
  cases i with
  | zero => simp only [List.getElem?_cons_zero, Option.some.injEq] at hx; subst hx; exact ⟨h, h1⟩
  | succ i => simp at hx
theorem fields_rel {F : Field → Option (DataW H × List MemPlace)} {cs : List Value} {n : Nat} (hcs : cs.length = n)
    (hF : ∀ f x, F f = some x → (x.1.weights P f.type).all (· ≤ reachBytes) = true → f.type ∈ ts → ∃ p, HasT P f.type p ∧ RelC w imm p ((cs.drop f.offset).take (P.cellsOf f.type))) : ∀ (fs : List Field) (o : Nat) (xs : List (DataW H × List MemPlace)), layT P fs o = some n → (∀ f ∈ fs, f.type ∈ ts) → fs.mapM F = some xs → (DataW.weightsEach P (fs.map (·.type)) (xs.map (·.1))).all (· ≤ reachBytes) = true →
    ∃ ps : List PV, ps.length = n - o ∧ (∀ (i : Nat) (x : PV), ps[i]? = some x → PRel w imm x (cs.getD (o + i) Go.undef) ∧ (cs.getD (o + i) Go.undef).oneCell' = true) ∧
      ∀ f ∈ fs, HasT P f.type (cellPV (isAggT P f.type) ((ps.drop (f.offset - o)).take (P.cellsOf f.type)))
  | [], o, xs, hl, _, _, _ => by
    simp only [layT, Option.some.injEq] at hl
    subst hl
    exact ⟨[], by simp, by simp, by simp⟩
  | f :: r, o, xs, hl, ht, hm, hz => by
    simp only [layT] at hl
    split at hl
    · rename_i ho
      simp only [List.mapM_cons, Option.bind_eq_bind, Option.bind_eq_some_iff, Option.pure_def, Option.some.injEq] at hm
      obtain ⟨x, hx, xs', hxs, rfl⟩ := hm
      simp only [List.map_cons, DataW.weightsEach, List.all_append, Bool.and_eq_true] at hz
      obtain ⟨p, hp, hr1, hr2⟩ := hF f x hx hz.1 (ht f (by simp))
      obtain ⟨q1, q2⟩ := layT_le r _ n hl
      obtain ⟨ps, h1, h2, h3⟩ := fields_rel hcs hF r _ xs' hl (fun g hg => ht g (by simp [hg])) hxs hz.2
      have hpl : p.cells.length = P.cellsOf f.type := by rw [hr1]; simp; omega
      refine ⟨p.cells ++ ps, by simp only [List.length_append]; omega, fun i x hx => ?_, fun g hg => ?_⟩
      · by_cases hi : i < p.cells.length
        · rw [List.getElem?_append_left hi] at hx
          have := hr2 i x hx
          have e : ((cs.drop f.offset).take (P.cellsOf f.type)).getD i Go.undef = cs.getD (o + i) Go.undef := by
            simp only [List.getD_eq_getElem?_getD, List.getElem?_take, List.getElem?_drop]
            rw [if_pos (by omega), ho]
          rw [e] at this; exact this
        · rw [List.getElem?_append_right (by omega)] at hx
          have := h2 _ x hx
          have e : o + P.cellsOf f.type + (i - p.cells.length) = o + i := by omega
          rw [e] at this; exact this
      · rcases List.mem_cons.1 hg with rfl | hg'
        · have e : ((p.cells ++ ps).drop (g.offset - o)).take (P.cellsOf g.type) = p.cells := by
            rw [ho, Nat.sub_self, List.drop_zero, ← hpl, List.take_left]
          rw [e, hp.cell]; exact hp
        · have := q2 g hg'
          have e : (p.cells ++ ps).drop (g.offset - o) = ps.drop (g.offset - (o + P.cellsOf f.type)) := by
            rw [List.drop_append, List.drop_eq_nil_of_le (by omega), List.nil_append]
            congr 1; omega
          rw [e]; exact h3 g hg'
    · cases hl
theorem relC_val {t : TypeId} {p : PV} {v : Value} (hp : HasT P t p) (h : RelC w imm p v.cells.toList) (ha : isAggT P t = true → ∃ cs, v = .agg cs) (ha' : isAggT P t = false → v.cells = #[v]) : PRel w imm p v := by
  have hc := hp.cell
  cases hg : isAggT P t with
  | false =>
    rw [hg] at hc
    rw [ha' hg] at h
    obtain ⟨h1, h2⟩ := h
    have : p.cells = [p] := by
      have hl : p.cells.length = 1 := by rw [h1]; simp
      obtain ⟨q, hq⟩ := List.length_eq_one_iff.1 hl
      rw [hq] at hc ⊢
      simp only [cellPV, List.headD_cons] at hc
      rw [hc]
    have := (h2 0 p (by rw [this]; rfl)).1
    simpa using this
  | true =>
    rw [hg] at hc
    obtain ⟨cs, rfl⟩ := ha hg
    obtain ⟨h1, h2⟩ := h
    simp only [cellPV] at hc
    rw [← hc]
    refine .agg _ _ (by simpa [Value.cells] using h1.symm) fun i x hx => ?_
    rw [getD_toList]
    exact (h2 i x hx).1
theorem mapM_len {α β : Type} {f : α → Option β} : ∀ {l : List α} {r : List β}, l.mapM f = some r → r.length = l.length
  | [], r, h => by simp at h; subst h; rfl
  | x :: l, r, h => by
    simp only [List.mapM_cons, Option.bind_eq_bind, Option.bind_eq_some_iff, Option.pure_def, Option.some.injEq] at h
    obtain ⟨b, hb, r', hr', rfl⟩ := h
    simp [mapM_len hr']
theorem cell_add {w : World} {a : Addr} {n : Nat} {v : Value} (h : w.cell? (a.add n) = some v) : w.cell? ⟨a.block, a.off + n, none⟩ = some v := by
  obtain ⟨b, off, spot⟩ := a
  unfold Addr.add at h
  by_cases hn : n = 0
  · subst hn
    rw [if_pos rfl] at h
    have := World.cell?_spot h
    simp only at this
    subst this
    exact h
  · rw [if_neg hn] at h; exact h
theorem add_block (a : Addr) (n : Nat) : (a.add n).block = a.block := by unfold Addr.add; split <;> rfl
theorem add_off (a : Addr) (n : Nat) : (a.add n).off = a.off + n := by unfold Addr.add; split <;> simp_all
theorem cells_at {w : World} {a : Addr} {n : Nat} {cs : List Value} (h : w.cells? 0 a n = some cs) : cs.length = n ∧ ∀ (j : Nat) (v : Value), cs[j]? = some v → w.cell? (a.add j) = some v := by
  unfold World.cells? at h
  rw [if_pos (Nat.zero_le _)] at h
  have hl := mapM_len h
  simp only [List.length_range] at hl
  refine ⟨hl, fun j v hv => ?_⟩
  have hj : j < n := by rw [← hl]; exact (List.getElem?_eq_some_iff.1 hv).1
  obtain ⟨b, hb, hf⟩ := Lib.mapM_at h j j (by simp [hj])
  rw [hv] at hb; cases hb
  exact hf
theorem weights_all {e : TypeId} : ∀ {l : List (DataW H)}, (DataW.weightsAll P e l).all (· ≤ reachBytes) = true → ∀ d ∈ l, (d.weights P e).all (· ≤ reachBytes) = true
  | [], _, d, hd => by cases hd
  | x :: r, h, d, hd => by
    simp only [DataW.weightsAll, List.all_append, Bool.and_eq_true] at h
    rcases List.mem_cons.1 hd with rfl | hd
    · exact h.1
    · exact weights_all h.2 d hd
theorem slice_rel {t e : TypeId} {a : Addr} {len cap : Nat} {R : List Value → Option (DataW H × List MemPlace)} {d : DataW H} {ps : List MemPlace} (hu : P.underlying t = some (.slice e)) (hpos : 0 < P.cellsOf e)
    (hz : (d.weights P t).all (· ≤ reachBytes) = true) (ih : ∀ cs d ps, R cs = some (d, ps) → (d.weights P e).all (· ≤ reachBytes) = true → ∃ p, HasT P e p ∧ RelC w imm p cs) (himm : ∀ b o, b < w.heap.size → imm b o)
    (h : (if 0 ≤ a.block ∧ len ≤ cap ∧ cap ≤ maxLen then
      (List.mapM (fun i => (w.cells? 0 (a.add (i * P.cellsOf e)) (P.cellsOf e)).bind R) (List.range len)).bind fun elems =>
        Option.map (fun rest => (DataW.slice (List.map (fun x => x.fst) elems) (List.map (fun x => x.fst) rest), MemPlace.row a ((elems.length + rest.length) * P.cellsOf e) ++ List.flatMap (fun x => x.snd) (elems ++ rest)))
          (if spare a.block = true then List.mapM (fun j => (w.cells? 0 (a.add ((len + j) * P.cellsOf e)) (P.cellsOf e)).bind R) (List.range (cap - len)) else some [])
      else none) = some (d, ps)) : ∃ p, HasT P t p ∧ RelC w imm p [.slice (some a) len cap] := by
  split at h
  · rename_i hh
    obtain ⟨_, hlc, hcm⟩ := hh
    simp only [Option.bind_eq_some_iff] at h
    obtain ⟨elems, he, hrest⟩ := h
    simp only [Option.map_eq_some_iff, Prod.mk.injEq] at hrest
    obtain ⟨rest, _, rfl, _⟩ := hrest
    simp only [DataW.weights, hu, List.all_cons, List.all_append, Bool.and_eq_true, decide_eq_true_eq, List.length_map] at hz
    obtain ⟨hz1, hz2, _⟩ := hz
    have hel : elems.length = len := by rw [mapM_len he]; simp
    have hzl : len * P.bytesOf e ≤ 140737488351232 := by
      have h1 : elems.length * P.bytesOf e ≤ (elems.length + rest.length) * P.bytesOf e := Nat.mul_le_mul_right _ (by omega)
      have h2 : (elems.length + rest.length) * P.bytesOf e ≤ 140737488351232 := hz1
      exact Nat.le_trans (by rw [← hel]; exact h1) h2
    have hat : ∀ i, i < len → ∃ cs, w.cells? 0 (a.add (i * P.cellsOf e)) (P.cellsOf e) = some cs ∧ ∃ p, HasT P e p ∧ RelC w imm p cs := by
      intro i hi
      obtain ⟨b, hb, hf⟩ := Lib.mapM_at he i i (by simp [hi])
      simp only [Option.bind_eq_some_iff] at hf
      obtain ⟨cs, h1, h2⟩ := hf
      obtain ⟨p, h3, h4⟩ := ih cs b.1 b.2 h2 (weights_all hz2 b.1 (List.mem_map.2 ⟨b, List.mem_of_getElem? hb, rfl⟩))
      exact ⟨cs, h1, p, h3, h4⟩
    have hex : ∃ l : List PV, l.length = len ∧ ∀ (i : Nat) (x : PV), l[i]? = some x → HasT P e x ∧ ∃ cs, w.cells? 0 (a.add (i * P.cellsOf e)) (P.cellsOf e) = some cs ∧ RelC w imm x cs := by
      refine ⟨(List.range len).map fun i => if h : i < len then (hat i h).choose_spec.2.choose else .undef, by simp, fun i x hx => ?_⟩
      simp only [List.getElem?_map, Option.map_eq_some_iff] at hx
      obtain ⟨j, hj, rfl⟩ := hx
      obtain ⟨hlt, hji⟩ := List.getElem?_eq_some_iff.1 hj
      simp at hlt hji
      subst hji
      rw [dif_pos hlt]
      exact ⟨(hat i hlt).choose_spec.2.choose_spec.1, _, (hat i hlt).choose_spec.1, (hat i hlt).choose_spec.2.choose_spec.2⟩
    obtain ⟨l, hl, hle⟩ := hex
    refine ⟨.list l, .list _ _ _ hu (by omega) (by rw [hl]; exact hzl) (fun i x hx => (hle i x hx).1), relC_one rfl ?_ rfl⟩
    by_cases h0 : len = 0
    · have : l = [] := List.eq_nil_of_length_eq_zero (by omega)
      subst this
      rw [h0]
      exact .lnil _ _ hcm
    · have hcell : ∀ (i : Nat) (x : PV) (j : Nat) (y : PV), l[i]? = some x → x.cells[j]? = some y → ∃ v, w.cell? ((a.add (i * P.cellsOf e)).add j) = some v ∧ w.cell? ⟨a.block, a.off + i * P.cellsOf e + j, none⟩ = some v ∧ PRel w imm y v ∧ v.oneCell' = true := by
        intro i x j y hx hy
        obtain ⟨_, cs, h1, h2, h3⟩ := hle i x hx
        obtain ⟨k1, k2⟩ := cells_at h1
        have hj : j < cs.length := by rw [← h2]; exact (List.getElem?_eq_some_iff.1 hy).1
        have h4 := h3 j y hy
        have h5 := k2 j _ (List.getElem?_eq_getElem hj)
        refine ⟨cs[j], h5, ?_, ?_⟩
        · have := cell_add h5
          rw [add_block, add_off] at this; exact this
        · simpa [List.getD_eq_getElem?_getD, hj] using h4
      have hlen : ∀ (i : Nat) (x : PV), l[i]? = some x → x.cells.length = P.cellsOf e := by
        intro i x hx
        obtain ⟨_, cs, h1, h2, _⟩ := hle i x hx
        rw [h2, (cells_at h1).1]
      obtain ⟨b, off, spot⟩ := a
      have hspot : spot = none := by
        have hx := List.getElem?_eq_getElem (show 0 < l.length by omega)
        have hy := List.getElem?_eq_getElem (show 0 < (l[0]'(by omega)).cells.length by rw [hlen 0 _ hx]; exact hpos)
        obtain ⟨v, hv, _⟩ := hcell 0 _ 0 _ hx hy
        have := World.cell?_spot hv
        simpa [Addr.add] using this
      subst hspot
      have := PRel.list (w := w) (imm := imm) l b off cap (P.cellsOf e) (fun i j => (w.cell? ⟨b, off + i * P.cellsOf e + j, none⟩).getD Go.undef) (by omega) hcm hlen (fun i x j y hx hy => by
          obtain ⟨v, _, hv, _, h1⟩ := hcell i x j y hx hy
          have hv' : w.cell? ⟨b, off + i * P.cellsOf e + j, none⟩ = some v := hv
          have hb := World.block_lt_of_cell? w _ hv'
          exact ⟨himm _ _ hb, by rw [hv']; rfl, by rw [hv']; exact h1⟩) (fun i x j y hx hy => by
          obtain ⟨v, _, hv, h1, _⟩ := hcell i x j y hx hy
          have hv' : w.cell? ⟨b, off + i * P.cellsOf e + j, none⟩ = some v := hv
          rw [hv']; exact h1)
      rw [hl] at this
      exact this
  · cases h
theorem struct_rel {t : TypeId} {fs : Array Field} {cs : List Value} {R : TypeId → List Value → Option (DataW H × List MemPlace)} {d : DataW H} {ps : List MemPlace} (hu : P.underlying t = some (.struct fs))
    (hstep : ((match layT P fs.toList 0 with
      | some n => decide (n = P.cellsOf t)
      | none => false) && fs.toList.all fun f => ts.contains f.type) = true)
    (hz : (d.weights P t).all (· ≤ reachBytes) = true) (ih : ∀ t cs d ps, t ∈ ts → R t cs = some (d, ps) → (d.weights P t).all (· ≤ reachBytes) = true → ∃ p, HasT P t p ∧ RelC w imm p cs)
    (h : (if cs.length = P.cellsOf t then Option.map (fun xs => (DataW.agg (List.map (fun x => x.fst) xs), List.flatMap (fun x => x.snd) xs)) (List.mapM (fun f => R f.type (List.take (P.cellsOf f.type) (List.drop f.offset cs))) fs.toList) else none) = some (d, ps)) :
    ∃ p, HasT P t p ∧ RelC w imm p cs := by
  split at h
  · rename_i hcs
    simp only [Option.map_eq_some_iff, Prod.mk.injEq] at h
    obtain ⟨xs, hxs, rfl, _⟩ := h
    simp only [DataW.weights, hu] at hz
    simp only [Bool.and_eq_true] at hstep
    obtain ⟨h1, h2⟩ := hstep
    split at h1
    · rename_i n hn
      simp only [decide_eq_true_eq] at h1
      subst h1
      obtain ⟨qs, k1, k2, k3⟩ := fields_rel (w := w) (imm := imm) (P := P) (ts := ts) (H := H) hcs (F := fun f => R f.type (List.take (P.cellsOf f.type) (List.drop f.offset cs))) (fun f x hx hz hf => ih f.type _ x.1 x.2 hf hx hz) fs.toList 0 xs hn (fun f hf => by simpa using (List.all_eq_true.1 h2) f hf) hxs hz
      refine ⟨.agg qs, .agg _ fs _ hu (by omega) (fun i f hf => ?_), by simp only [PV.cells]; omega, fun i x hx => ?_⟩
      · have := k3 f (List.mem_of_getElem? hf)
        rwa [Nat.sub_zero] at this
      · have := k2 i x hx
        rwa [Nat.zero_add] at this
    · cases h1
  · cases h
def arrF (P : Program) (e : TypeId) : Nat → Nat → List Field
  | 0, _ => []
  | n + 1, k => { (default : Field) with type := e, offset := k * P.cellsOf e } :: arrF P e n (k + 1)
theorem arrF_lay (P : Program) (e : TypeId) : ∀ n k, layT P (arrF P e n k) (k * P.cellsOf e) = some ((k + n) * P.cellsOf e)
  | 0, k => by simp [arrF, layT]
  | n + 1, k => by
    rw [arrF, layT, if_pos rfl]
    have := arrF_lay P e n (k + 1)
    simp only
    rw [show k * P.cellsOf e + P.cellsOf e = (k + 1) * P.cellsOf e by rw [Nat.succ_mul], this]
    congr 2; omega
theorem arrF_mem {P : Program} {e : TypeId} : ∀ {n k : Nat} {f : Field}, f ∈ arrF P e n k → f.type = e
  | 0, _, _, h => by cases h
  | n + 1, k, f, h => by
    rcases List.mem_cons.1 h with rfl | h
    · rfl
    · exact arrF_mem h
theorem arrF_at {P : Program} {e : TypeId} : ∀ {n k i : Nat}, i < n → ∃ f, f ∈ arrF P e n k ∧ f.type = e ∧ f.offset = (k + i) * P.cellsOf e
  | 0, _, _, h => by omega
  | n + 1, k, 0, _ => ⟨_, List.mem_cons_self, rfl, by simp⟩
  | n + 1, k, i + 1, h => by
    obtain ⟨f, h1, h2, h3⟩ := arrF_at (P := P) (e := e) (n := n) (k := k + 1) (i := i) (by omega)
    exact ⟨f, List.mem_cons_of_mem _ h1, h2, by rw [h3]; congr 1; omega⟩
theorem arrF_mapM {α : Type} {P : Program} {e : TypeId} {R : TypeId → List Value → Option α} {cs : List Value} : ∀ (n k : Nat), (List.range' k n).mapM (fun i => R e ((cs.drop (i * P.cellsOf e)).take (P.cellsOf e))) = (arrF P e n k).mapM (fun f => R f.type ((cs.drop f.offset).take (P.cellsOf f.type)))
  | 0, k => by simp [arrF]
  | n + 1, k => by
    rw [List.range'_succ, arrF, List.mapM_cons, List.mapM_cons, arrF_mapM n (k + 1)]
theorem arrF_weights {P : Program} {e : TypeId} : ∀ (n k : Nat) (l : List (DataW H)), l.length = n → DataW.weightsEach P ((arrF P e n k).map (·.type)) l = DataW.weightsAll P e l
  | 0, k, l, h => by
    obtain rfl := List.eq_nil_of_length_eq_zero h
    simp [arrF, DataW.weightsEach, DataW.weightsAll]
  | n + 1, k, l, h => by
    cases l with
    | nil => simp at h
    | cons d r =>
      simp only [arrF, List.map_cons, DataW.weightsEach, DataW.weightsAll]
      rw [arrF_weights n (k + 1) r (by simpa using h)]
theorem arr_rel {t e : TypeId} {n : Nat} {cs : List Value} {R : TypeId → List Value → Option (DataW H × List MemPlace)} {d : DataW H} {ps : List MemPlace} (hu : P.underlying t = some (.array n e))
    (hstep : ts.contains e = true ∧ n * P.cellsOf e = P.cellsOf t)
    (hz : (d.weights P t).all (· ≤ reachBytes) = true) (ih : ∀ t cs d ps, t ∈ ts → R t cs = some (d, ps) → (d.weights P t).all (· ≤ reachBytes) = true → ∃ p, HasT P t p ∧ RelC w imm p cs)
    (h : (if cs.length = P.cellsOf t then Option.map (fun xs => (DataW.agg (List.map (fun x => x.fst) xs), List.flatMap (fun x => x.snd) xs)) (List.mapM (fun i => R e (List.take (P.cellsOf e) (List.drop (i * P.cellsOf e) cs))) (List.range n)) else none) = some (d, ps)) :
    ∃ p, HasT P t p ∧ RelC w imm p cs := by
  split at h
  · rename_i hcs
    simp only [Option.map_eq_some_iff, Prod.mk.injEq] at h
    obtain ⟨xs, hxs, rfl, _⟩ := h
    have hxl : xs.length = n := by rw [mapM_len hxs]; simp
    rw [List.range_eq_range', arrF_mapM n 0] at hxs
    simp only [DataW.weights, hu] at hz
    rw [← arrF_weights (P := P) n 0 _ (by simpa using hxl)] at hz
    have hlay := arrF_lay P e n 0
    rw [Nat.zero_mul, Nat.zero_add, hstep.2] at hlay
    obtain ⟨qs, k1, k2, k3⟩ := fields_rel (w := w) (imm := imm) (P := P) (ts := ts) (H := H) hcs (F := fun f => R f.type (List.take (P.cellsOf f.type) (List.drop f.offset cs))) (fun f x hx hz hf => ih f.type _ x.1 x.2 hf hx hz) (arrF P e n 0) 0 xs hlay
      (fun f hf => by rw [arrF_mem hf]; simpa using hstep.1) hxs hz
    refine ⟨.agg qs, .arr _ e n _ hu (by omega) (fun i hi => ?_), by simp only [PV.cells]; omega, fun i x hx => ?_⟩
    · obtain ⟨f, hf, h1, h2⟩ := arrF_at (P := P) (e := e) (k := 0) hi
      have := k3 f hf
      rwa [h1, h2, Nat.sub_zero, Nat.zero_add] at this
    · have := k2 i x hx
      rwa [Nat.zero_add] at this
  · cases h
theorem trod_rel (hts : okTs P ts = true) (himm : ∀ b o, b < w.heap.size → imm b o) : ∀ (fuel : Nat) (t : TypeId) (cs : List Value) (d : DataW H) (ps : List MemPlace), t ∈ ts → DataW.trod enc P w 0 spare held fuel t cs = some (d, ps) → (d.weights P t).all (· ≤ reachBytes) = true → ∃ p, HasT P t p ∧ RelC w imm p cs
  | 0, t, cs, d, ps, _, h, _ => by simp [DataW.trod] at h
  | fuel + 1, t, cs, d, ps, ht, h, hz => by
    have hstep := (List.all_eq_true.1 hts) t ht
    unfold okStep at hstep
    rw [DataW.trod.eq_def] at h
    simp only at h
    cases hu : P.underlying t with
    | none => rw [hu] at hstep; simp at hstep
    | some u =>
      rw [hu] at hstep h
      cases u with
      | bool =>
        split at h
        all_goals first
          | (rename_i b h1; exact ⟨.bool b, .bool _ _ hu, relC_one rfl (.bool _) rfl⟩)
          | (exfalso; simp_all; done)
          | skip
      | int k =>
        split at h
        all_goals first
          | (rename_i k' k2 n heq
             simp only [Option.some.injEq, TypeDesc.int.injEq] at heq
             subst heq
             split at h
             · rename_i hh
               obtain ⟨rfl, hw⟩ := hh
               exact ⟨.int _ n, .int _ _ _ hu hw, relC_one rfl (.int _ _) rfl⟩
             · cases h)
          | (exfalso; simp_all; done)
          | skip
      | string =>
        split at h
        all_goals first
          | (rename_i s _
             split at h
             · rename_i hh
               cases h
               simp only [DataW.weights, List.all_cons, List.all_nil, Bool.and_true, decide_eq_true_eq] at hz
               exact ⟨.str s.data.toList, .str _ _ hu hz, relC_one rfl (.str _ hh) rfl⟩
             · cases h)
          | (exfalso; simp_all; done)
          | skip
      | slice e =>
        split at h
        all_goals first
          | (exact ⟨.list [], .list _ _ _ hu (by simp) (by simp) (by simp), relC_one rfl (.lnil none 0 (by simp)) rfl⟩)
          | (rename_i e' a len cap heq
             simp only [Option.some.injEq, TypeDesc.slice.injEq] at heq
             subst heq
             simp only [Bool.and_eq_true, decide_eq_true_eq] at hstep
             exact slice_rel hu hstep.2 hz (fun cs d ps h hz => trod_rel hts himm fuel _ cs d ps (by simpa using hstep.1) h hz) himm h)
          | (exfalso; simp_all; done)
          | skip
      | struct fs =>
        split at h
        all_goals first
          | (rename_i fs' heq
             simp only [Option.some.injEq, TypeDesc.struct.injEq] at heq
             subst heq
             exact struct_rel hu hstep hz (fun t cs d ps ht h hz => trod_rel hts himm fuel t cs d ps ht h hz) h)
          | (exfalso; simp_all; done)
          | skip
      | array n e =>
        simp only [Bool.and_eq_true, decide_eq_true_eq] at hstep
        split at h
        all_goals first
          | (rename_i n' e' heq
             simp only [Option.some.injEq, TypeDesc.array.injEq] at heq
             obtain ⟨rfl, rfl⟩ := heq
             exact arr_rel hu hstep hz (fun t cs d ps ht h hz => trod_rel hts himm fuel t cs d ps ht h hz) h)
          | (exfalso; simp_all; done)
          | skip
      | _ => simp at hstep
end
end Go.Ab
set_option linter.unusedVariables false
set_option linter.unusedSimpArgs false
namespace Go.Ab
open Go Go.RowKit Go.ChangeShapes Go.WideShapes
section
variable {H : Type} {enc : TypeId × Value → H} {P : Program} {W : World} {ts : List TypeId} {base : Nat}
def immOf (W : World) : Nat → Nat → Prop := fun b _ => b < W.heap.size
theorem arg_rel (hts : okTs P ts = true) {t : TypeId} (ht : t ∈ ts) {v : Value} {d : DataW H} {p : List MemPlace} (hok : Value.okWide P W .any base t v) (h : DataW.Trod enc P W 0 (fun _ => true) true t v d p) (hz : (d.weights P t).all (· ≤ reachBytes) = true) :
    ∃ x, HasT P t x ∧ PRel W (immOf W) x v := by
  obtain ⟨fuel, hf⟩ := h
  obtain ⟨x, h1, h2⟩ := trod_rel (w := W) (imm := immOf W) hts (fun b o h => h) fuel t _ d p ht hf hz
  refine ⟨x, h1, ?_⟩
  cases h1 with
  | bool _ b hu => obtain ⟨b', rfl⟩ := okWide_bool hu hok; exact relC_val (.bool _ _ hu) h2 (by simp [isAggT, hu]) (fun _ => rfl)
  | int _ k n hu hw => obtain ⟨b', rfl⟩ := okWide_int hu hok; exact relC_val (.int _ _ _ hu hw) h2 (by simp [isAggT, hu]) (fun _ => rfl)
  | str _ s hu hs => obtain ⟨b', rfl⟩ := okWide_string hu hok; exact relC_val (.str _ _ hu hs) h2 (by simp [isAggT, hu]) (fun _ => rfl)
  | list _ e l hu hl hl2 hle => obtain ⟨a, len, cap, rfl⟩ := okWide_slice hu hok; exact relC_val (.list _ _ _ hu hl hl2 hle) h2 (by simp [isAggT, hu]) (fun _ => rfl)
  | arr _ e n cs hu hl hle =>
    have hok' := hok
    simp only [Value.okWide, hu] at hok'
    obtain ⟨cs', rfl, _⟩ := hok'
    exact relC_val (.arr _ _ _ _ hu hl hle) h2 (fun _ => ⟨_, rfl⟩) (by simp [isAggT, hu])
  | agg _ fs cs hu hl hle => obtain ⟨cs', rfl, _⟩ := okWide_struct hu hok; exact relC_val (.agg _ _ _ hu hl hle) h2 (fun _ => ⟨_, rfl⟩) (by simp [isAggT, hu])
theorem args_rel (hts : okTs P ts = true) : ∀ (tys : List TypeId) (vs : List Value) (ds : List (DataW H)) (p : List MemPlace), (∀ t ∈ tys, t ∈ ts) → (∀ (j : Nat) (t : TypeId) (v : Value), tys[j]? = some t → vs[j]? = some v → Value.okWide P W .any base t v) →
    DataW.TrodAll enc P W 0 (fun _ => true) true tys vs ds p → (DataW.weightsEach P tys ds).all (· ≤ reachBytes) = true → vs.length = tys.length ∧ ds.length = tys.length ∧ ∃ xs : List PV, xs.length = tys.length ∧ (∀ (i : Nat) (x : PV), xs[i]? = some x → PRel W (immOf W) x (vs.getD i Go.undef)) ∧ (∀ (i : Nat) (t : TypeId) (x : PV), tys[i]? = some t → xs[i]? = some x → HasT P t x)
  | [], vs, ds, p, _, _, h, _ => by
    cases vs <;> cases ds <;> simp [DataW.TrodAll] at h
    exact ⟨rfl, rfl, [], rfl, by simp, by simp⟩
  | t :: tys, vs, ds, p, ht, hok, h, hz => by
    obtain ⟨v, vs', d, ds', p', q', rfl, rfl, rfl, h1, h2⟩ := trodAll_cons h
    simp only [DataW.weightsEach, List.all_append, Bool.and_eq_true] at hz
    obtain ⟨x, k1, k2⟩ := arg_rel (base := base) hts (ht t (by simp)) (hok 0 t v rfl rfl) h1 hz.1
    obtain ⟨l1, l2, xs, l3, l4, l5⟩ := args_rel hts tys vs' ds' q' (fun t h => ht t (by simp [h])) (fun j t v h1 h2 => hok (j + 1) t v (by simpa using h1) (by simpa using h2)) h2 hz.2
    refine ⟨by simp [l1], by simp [l2], x :: xs, by simp [l3], fun i y hy => ?_, fun i t' y ht' hy => ?_⟩
    · cases i with
      | zero => simp only [List.getElem?_cons_zero, Option.some.injEq] at hy; subst hy; simpa using k2
      | succ i => simpa using l4 i y (by simpa using hy)
    · cases i with
      | zero =>
        simp only [List.getElem?_cons_zero, Option.some.injEq] at hy ht'
        subst hy; subst ht'; exact k1
      | succ i => exact l5 i t' y (by simpa using ht') (by simpa using hy)
theorem trodAll_lt : ∀ (tys : List TypeId) (vs : List Value) (ds : List (DataW H)) (p : List MemPlace), DataW.TrodAll enc P W 0 (fun _ => true) true tys vs ds p → ∀ x ∈ p, x.block < W.heap.size
  | [], vs, ds, p, h => by
    cases vs <;> cases ds <;> simp [DataW.TrodAll] at h
    subst h; simp
  | t :: tys, vs, ds, p, h => by
    obtain ⟨v, vs', d, ds', p', q', rfl, rfl, rfl, ⟨m, hm⟩, h2⟩ := trodAll_cons h
    intro x hx
    rcases List.mem_append.1 hx with hx | hx
    · exact DataW.trod_lt m _ _ _ hm x hx
    · exact trodAll_lt tys vs' ds' q' h2 x hx
theorem args_back (hlaid : laidOutB P = true) {W' : World} (hb : Below W.heap.size W W') : ∀ (tys : List TypeId) (vs : List Value) (ds : List (DataW H)) (p : List MemPlace), (∀ t ∈ tys, P.readableRec t = true ∧ t < P.types.size) →
    DataW.TrodAll enc P W 0 (fun _ => true) true tys vs ds p → DataW.TrodAll enc P W' 0 (fun b => decide (b < W.heap.size)) true tys vs ds p
  | [], vs, ds, p, _, h => by
    cases vs <;> cases ds <;> simp [DataW.TrodAll] at h
    subst h
    exact trodAll_mk0
  | t :: tys, vs, ds, p, ht, h => by
    have hlt := trodAll_lt _ _ _ _ h
    obtain ⟨v, vs', d, ds', p', q', rfl, rfl, rfl, h1, h2⟩ := trodAll_cons h
    exact trodAll_cons_mk (Below.trod hlaid (ht t (by simp)).1 (ht t (by simp)).2 h1 hb (fun x hx => hlt x (List.mem_append.2 (.inl hx)))) (args_back hlaid hb tys vs' ds' q' (fun t h => ht t (by simp [h])) h2)
theorem weightsEach_left : ∀ (ts us : List TypeId) (ds gs : List (DataW H)), (DataW.weightsEach P (ts ++ us) (ds ++ gs)).all (· ≤ reachBytes) = true → (DataW.weightsEach P ts ds).all (· ≤ reachBytes) = true
  | [], _, _, _, _ => by simp [DataW.weightsEach]
  | _ :: _, _, [], _, _ => by simp [DataW.weightsEach]
  | t :: ts, us, d :: ds, gs, h => by
    simp only [List.cons_append, DataW.weightsEach, List.all_append, Bool.and_eq_true] at h ⊢
    exact ⟨h.1, weightsEach_left ts us ds gs h.2⟩
theorem law_post {f : FuncId} {fn : Func} {s : ChangeSpec} {args : Array Value} {ds gs : List (DataW H)} {before : List MemPlace} {G : Nat → List PV} {tb : TypeId}
    (hs : s.vars = []) (hlaid : laidOutB P = true) (hread : ∀ t ∈ fn.params.toList, P.readableRec t = true ∧ t < P.types.size) (hts : okTs P ts = true) (htys : ∀ t ∈ fn.params.toList, t ∈ ts)
    (hres : fn.resultTypes = #[tb]) (htb : P.underlying tb = some .bool)
    (hfn : ∀ ds : List (DataW H), ds.length = fn.params.toList.length → s.fn H ds = { results := [.lit (.bool true)], args := ds })
    (hval : ∀ (j : Nat) (t : TypeId) (v : Value), fn.params[j]? = some t → args[j]? = some v → Value.okWide P W .any base t v) (hW : DataW.Whole enc P fn.params.toList s.vars false W args.toList ds gs before)
    (hsz : (DataW.weightsEach P (fn.params.toList ++ s.plain.varTypes P) (ds ++ gs)).all (· ≤ reachBytes) = true)
    (hG : GlobOk G W (immOf W))
    (hlaw : ∀ ps : List PV, ps.length = fn.params.toList.length → (∀ (i : Nat) (t : TypeId) (x : PV), fn.params.toList[i]? = some t → ps[i]? = some x → HasT P t x) → Pure P G f ps (.bool true)) :
    Calls P f args W fun e W' => ∃ v, e = .returned v ∧ s.post enc P fn false true false false W args v W' := by
  have hW' := hW
  obtain ⟨p, q, hA, hV, rfl, hfz, hnd⟩ := hW
  rw [hs] at hV
  obtain ⟨rfl, rfl⟩ := trodVars_none hV
  obtain ⟨l1, l2, xs, l3, l4, l5⟩ := args_rel (base := base) hts fn.params.toList args.toList ds p htys (fun j t v h1 h2 => hval j t v (by simpa using h1) (by simpa using h2)) hA (weightsEach_left _ _ _ _ hsz)
  obtain ⟨_, hP⟩ := hlaw xs l3 l5
  refine (hP W (immOf W) args hG (fun b o h => h) (by rw [l3, ← l1]; simp) (fun i x hx => by rw [getD_toList]; exact l4 i x hx)).mono ?_
  rintro e W' ⟨u, imm', rfl, hb, _, _, _, hu⟩
  cases hu
  refine ⟨_, rfl, ds, [], _, [], p, [], hW', ?_, ?_, ?_, hb.frame _, fun h => by cases h⟩
  · rw [hres, List.append_nil, hfn ds l2]
    exact trodAll_mk1 (shut_bool htb _)
  · rw [List.append_nil, hfn ds l2]
    exact args_back hlaid hb _ _ _ _ hread hA
  · rw [hs, List.append_nil, hfn ds l2]
    rfl
end
end Go.Ab
set_option linter.unusedVariables false
set_option linter.unusedSimpArgs false
namespace Go.Ab
open Go Go.RowKit Go.Proofs Go.Lib
section
variable {P : Program} {W : World}
theorem trod_len {H : Type} {enc : TypeId × Value → H} {w : World} {base : Nat} {sp : Nat → Bool} {held : Bool} {fuel n : Nat} {t e : TypeId} {cs : List Value} {x : DataW H × List MemPlace} (ht : P.underlying t = some (.array n e))
    (h : DataW.trod enc P w base sp held fuel t cs = some x) : cs.length = P.cellsOf t := by
  cases fuel with
  | zero => simp [DataW.trod] at h
  | succ fuel =>
    simp only [DataW.trod, ht] at h
    split at h
    · assumption
    · cases h
structure TabAt (w : World) (g : Nat) (ps : List PV) : Prop where
  obj : ∃ cs T fz, w.heap[g]? = some (.cells cs T fz) ∧ cs.size = ps.length
  cell : ∀ (o : Nat) (p : PV), ps[o]? = some p → ∃ k z, p = .int k z ∧ w.cell? ⟨g, o, none⟩ = some (.int k z)
theorem globOk_of {G : Nat → List PV} (h : ∀ g, G g ≠ [] → TabAt W g (G g)) : GlobOk G W (immOf W) := by
  refine ⟨fun g o p hp => ?_, fun g hg => (h g hg).obj⟩
  have hne : G g ≠ [] := by intro e; rw [e] at hp; simp at hp
  obtain ⟨k, z, rfl, hc⟩ := (h g hne).cell o p hp
  exact ⟨World.block_lt_of_cell? W _ hc, _, hc, rfl, .int _ _⟩
theorem tabAt_of {n : String} {g : Nat} {t e : TypeId} {m : Nat} {d : DataW Unit} {ps : List PV} (hv : VarReads P W n d) (hg : P.globalNamed n = some g) (hty : (P.globals[g]?).map (·.type) = some t) (ht : P.underlying t = some (.array m e)) (hl : P.cellsOf t = ps.length)
    (h : ∀ (o : Nat) (p : PV), ps[o]? = some p → ∃ k z, p = .int k z ∧ W.cell? ⟨g, o, none⟩ = some (.int k z)) : TabAt W g ps := by
  refine ⟨?_, h⟩
  obtain ⟨g', t', cs, fuel, p, hg', hty', hvar, hd⟩ := hv
  obtain rfl := Option.some.inj (hg.symm.trans hg')
  obtain rfl := Option.some.inj (hty.symm.trans hty')
  have hlen := trod_len ht hd
  unfold World.var? at hvar
  rw [hg] at hvar
  simp only [Option.bind_some] at hvar
  split at hvar
  · rename_i cs' T fz hh
    cases hvar
    exact ⟨cs, T, fz, hh, by rw [← hl, ← hlen]; simp⟩
  · cases hvar
theorem tabAt_ints {n : String} {g : Nat} {t e : TypeId} {m : Nat} {k : IntKind} {zs : List Int} (hv : VarReads P W n (Lib.tabData k zs)) (hg : P.globalNamed n = some g) (hty : (P.globals[g]?).map (·.type) = some t) (ht : P.underlying t = some (.array m e))
    (he : P.underlying e = some (.int k)) (hce : P.cellsOf e = 1) (hct : P.cellsOf t = m) (hm : m = zs.length) : TabAt W g (zs.map (PV.int k)) := by
  have hv' := hv
  refine tabAt_of hv hg hty ht (by rw [hct, hm]; simp) fun o p hp => ?_
  simp only [List.getElem?_map, Option.map_eq_some_iff] at hp
  obtain ⟨z, hz, rfl⟩ := hp
  refine ⟨k, z, rfl, ?_⟩
  obtain ⟨g', t', cs, fuel, q, hg', hty', hvar, hd⟩ := hv'
  obtain rfl := Option.some.inj (hg.symm.trans hg')
  obtain rfl := Option.some.inj (hty.symm.trans hty')
  have hcs := Lib.cells_of_tab ht he hce hct hd
  rw [World.var?_cell hg hvar o, ← Array.getElem?_toList, hcs]
  simp [hz]
end
end Go.Ab
set_option linter.unusedVariables false
set_option linter.unusedSimpArgs false
namespace Go.Ab
open Go
section
variable {α β : Type}
theorem drop_at {l : List α} {m : Nat} {x : α} (h : l[m]? = some x) : l.drop m = x :: l.drop (m + 1) := by
  obtain ⟨h1, h2⟩ := List.getElem?_eq_some_iff.1 h
  rw [List.drop_eq_getElem_cons h1, h2]
def onU8 : Option (List UInt8) → Option AV
  | some l => some (.pv (.str l))
  | none => none
def consU8 (n : Int) : Option (List UInt8) → Option (List UInt8)
  | some l => some (UInt8.ofNat n.toNat :: l)
  | none => none
theorem onU8_some (l : List UInt8) : onU8 (some l) = some (.pv (.str l)) := _root_.id rfl
theorem consU8_some (n : Int) (l : List UInt8) : consU8 n (some l) = some (UInt8.ofNat n.toNat :: l) := _root_.id rfl
theorem u8s_nil : u8s [] = some [] := _root_.id rfl
theorem u8s_cons (n : Int) (r : List PV) : u8s (.int .u8 n :: r) = consU8 n (u8s r) := by
  simp only [u8s]; cases u8s r <;> rfl
theorem u8s_bytes : ∀ l : List UInt8, u8s (l.map fun b => PV.int .u8 (b.toNat : Int)) = some l
  | [] => rfl
  | b :: r => by rw [List.map_cons, u8s_cons, u8s_bytes r, consU8_some]; simp
theorem toStr_ol (σ : Store) (r : Nat) (l : List PV) : rToStr σ (.olist r 1 l) = onU8 (u8s l) := by
  simp only [rToStr, elemsOf, if_true]; cases u8s l <;> rfl
theorem toStr_nils (σ : Store) : rToStr σ (.pv .nils) = some (.pv (.str [])) := _root_.id rfl
theorem toStr_pv (σ : Store) (l : List PV) : rToStr σ (.pv (.list l)) = onU8 (u8s l) := by
  simp only [rToStr, elemsOf]
  cases h : u8s l with
  | none => by_cases hh : (l.all (fun y => y.cells.length == 1)) = true <;> simp [hh, h, onU8]
  | some s =>
    obtain ⟨ns, rfl, rfl⟩ := u8s_ints h
    rw [if_pos (by simp [PV.cells])]
    simp [h, onU8]
end
theorem mRun_toStr (G : Nat → List PV) (e : List (Nat × AV)) (σ : List (Nat × Blk)) (new : Nat) (x : AX) : mRun G e σ new (.toStr x) = withD [] (rToStr (fun r => lookB r σ) (evE e x)) := by
  simp only [mRun]; cases rToStr (fun r => lookB r σ) (evE e x) <;> rfl
theorem tdiv_n {a b : Int} (h : 0 ≤ a) : a.tdiv b = a / b := Int.tdiv_eq_ediv_of_nonneg h
theorem tmod_n {a b : Int} (h : 0 ≤ a) : a.tmod b = a % b := Int.tmod_eq_emod_of_nonneg h
def byteO : Option UInt8 → Option AV
  | some b => some (.pv (.int .u8 (b.toNat : Int)))
  | none => none
theorem byteO_some (b : UInt8) : byteO (some b) = some (.pv (.int .u8 (b.toNat : Int))) := _root_.id rfl
theorem rIndex_nat (l : List UInt8) (k : IntKind) (i : Nat) : rIndex (.pv (.str l)) (.pv (.int k (i : Int))) = byteO l[i]? := by
  simp only [rIndex, Int.toNat_natCast]
  rw [if_pos (by omega)]
  cases l[i]? <;> rfl
theorem rIndex_zero (l : List UInt8) (k : IntKind) : rIndex (.pv (.str l)) (.pv (.int k 0)) = byteO l[0]? := rIndex_nat l k 0
theorem rIndex_succ (l : List UInt8) (k : IntKind) (i : Nat) : rIndex (.pv (.str l)) (.pv (.int k ((i : Int) + 1))) = byteO l[i + 1]? := rIndex_nat l k (i + 1)
attribute [push_cast] byteO_some rIndex_nat rIndex_zero rIndex_succ mRun_toStr tdiv_n tmod_n onU8_some consU8_some u8s_nil u8s_cons u8s_bytes toStr_ol toStr_nils toStr_pv
end Go.Ab
