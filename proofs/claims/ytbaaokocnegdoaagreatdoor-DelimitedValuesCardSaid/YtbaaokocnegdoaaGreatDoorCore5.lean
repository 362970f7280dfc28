/- A program logic over the model: part 5 (a proof is built on it; nothing of the statement is said here). -/
import Derived.Lib.Join
import Derived.Lib.ItoaNum
import Derived.Lib.LaidTab
import Derived.Lib.AppendIntMem
import Derived.Lib.Strings
import Derived.Lib.Bytealg
import Derived.Lib.ValidLaws
import Derived.Test.YtbaaokocnegdoaaGreatDoorCore4
set_option linter.unusedVariables false
set_option linter.unusedSimpArgs false
namespace Go.Ab
open Go Go.RowKit
def Kap.cut (κ : Kap) (k : Nat) : Kap := ⟨κ.w, fun r => if r < k then κ.nm r else none, κ.imm⟩
theorem Kap.cut_ext (κ : Kap) (k : Nat) : Ext (κ.cut k) κ := ⟨fun _ _ h => h, fun _ _ _ _ h => h, fun r d h => by
 simp only [Kap.cut] at h
 split at h
 ·exact h
 ·cases h⟩
theorem Kap.cut_none (κ : Kap) (k r : Nat) (h : k ≤ r) : (κ.cut k).nm r = none := by simp only [Kap.cut]; rw [if_neg (by omega)]
def LCalls (P : Program) (G : Nat → List PV) (k : Nat) (f : Nat) (args : List AV) (sto : List (Nat × Blk)) (next : Nat) (Q : AV → List (Nat × Blk) → Nat → Prop) : Prop :=
 Callable P f = true ∧ ∀ (κ : Kap) (vals : Array Value), SRel (ctxOf κ (fun r => lookB r sto) G) κ (fun r => lookB r sto) → (∀ r, next ≤ r → κ.nm r = none) → vals.size = args.length →
  (∀ (i : Nat) (x : AV), args[i]? = some x → ARel κ x (vals.getD i Go.undef)) →
  Calls P f vals κ.w fun e w' => ∃ u v κ' sto' next', e = .returned u ∧ κ'.w = w' ∧ Ext (κ.cut k) κ' ∧ Left (ctxOf κ (fun r => lookB r sto) G) κ.imm κ' ∧ ARel κ' v u ∧
   SRel (ctxOf κ (fun r => lookB r sto) G) κ' (fun r => lookB r sto') ∧ (∀ r, next' ≤ r → κ'.nm r = none) ∧ Q v sto' next'
section
variable {P : Program} {G : Nat → List PV}
theorem LCalls.of_code {muts : List Nat} {k f : Nat} {fn : AFn} {args : List AV} {sto : List (Nat × Blk)} {next : Nat} {R : AV → List (Nat × Blk) → Nat → Prop} (hc : cFn P muts f = some fn) (hn : args.length ≤ fn.N)
  (hv : vc P G k fn.body (FnK G fn.res R) ⟨initEnv args, sto, next⟩) : LCalls P G k f args sto next R := by
 unfold cFn at hc
 split at hc
 ·rename_i fnc hfn
  split at hc
  ·rename_i co hco
   split at hc
   ·rename_i rs hrs
    split at hc
    ·rename_i hok
     split at hc
     ·rename_i b li hb
      cases hc
      refine ⟨hok, fun κ vals hS hf hsz hargs => ?_⟩
      refine calls_of_wp hfn hco ?_
      let c := ctxOf κ (fun r => lookB r sto) G
      have hsize : (vals ++ Array.replicate (fnc.ntmps - vals.size) Go.undef).size = fnc.ntmps := by
       simp only at hn
       simp only [Array.size_append, Array.size_replicate]; omega
      have hR : Rel c (κ.cut k) fnc.ntmps ⟨initEnv args, sto, next⟩ ⟨vals ++ Array.replicate (fnc.ntmps - vals.size) Go.undef, []⟩ κ.w κ := by
       refine ⟨rfl, κ.cut_ext k, hS, ⟨rfl, rfl, rfl, Nat.le_refl _, fun _ _ _ => rfl, fun _ _ h => .inl h⟩, fun i => ?_, hsize, rfl, hf⟩
       show ARel κ (look i ((args.zipIdx 0).map fun p => (p.2, p.1))) _
       rw [look_init, if_pos (Nat.zero_le _), Nat.sub_zero]
       cases hx : args[i]? with
       | none => exact .any _
       | some x =>
         have hi : i < vals.size := by rw [hsz]; exact (List.getElem?_eq_some_iff.1 hx).1
         have := hargs i x hx
         have e : (vals ++ Array.replicate (fnc.ntmps - vals.size) Go.undef).getD i Go.undef = vals.getD i Go.undef := by
          simp only [Array.getD_eq_getD_getElem?]
          rw [Array.getElem?_append_left hi]
         rw [e]; exact this
      refine Code.wp_mono ?_ (vc_sound (P := P) (c := c) (κ0 := κ.cut k) (N := fnc.ntmps) (fun r hr => κ.cut_none k r hr) co b [] (resLive rs) li (FnK G rs R) _ _ κ.w κ hb hR hv)
      have fin : ∀ (s : St) (κ' : Kap) (a : Act) (w : World), Rel c (κ.cut k) fnc.ntmps s a w κ' → onSome (resVs G s rs) (retK R s) → a.defers = [] ∧ ∃ v, (results fnc a.tmps).run P w = .ok v w ∧
        ∃ u v' κ'' sto' next', Ending.returned v = .returned u ∧ κ''.w = w ∧ Ext (κ.cut k) κ'' ∧ Left c κ.imm κ'' ∧ ARel κ'' v' u ∧ SRel c κ'' (fun r => lookB r sto') ∧ (∀ r, next' ≤ r → κ''.nm r = none) ∧ R v' sto' next' := by
       intro s κ' a w hR hF
       refine ⟨hR.defers, ?_⟩
       simp only [onSome] at hF
       split at hF
       ·rename_i vs hvs
        obtain ⟨us, h1, h2, h3⟩ := res_sound (P := P) hR fnc.results.toList rs vs hrs hvs
        have hrun : (results fnc a.tmps).run P w = .ok (if h : us.toArray.size = 1 then us.toArray[0] else .tuple us.toArray) w := by
         rw [results_eq, Sem.run_bind, Array.mapM_eq_mapM_toList]
         simp only [Sem.run_bind, Sem.run_map]
         rw [h1]
         simp
        refine ⟨_, hrun, _, retV vs, κ', s.sto, s.next, rfl, hR.w_eq, hR.ext0, hR.left, ?_, hR.rel, hR.fresh, hF⟩
        by_cases hl : vs.length = 1
        ·obtain ⟨v, rfl⟩ := List.length_eq_one_iff.1 hl
         obtain ⟨u, rfl⟩ := List.length_eq_one_iff.1 (h2.trans hl)
         have := h3 0 v rfl
         exact this
        ·have hul : ¬ us.toArray.size = 1 := by simpa [h2] using hl
         rw [dif_neg hul]
         have hrv : retV vs = mkTup vs := by
          unfold retV
          split
          ·simp at hl
          ·rfl
         rw [hrv]
         exact mkTup_rel (.tup _ _ (by simpa using h2) (fun i x hx => by rw [getD_toList]; simpa using h3 i x hx))
       ·exact hF.elim
      intro e a w hq
      cases e with
      | normal =>
        obtain ⟨s, κ', hR, hF⟩ := hq
        exact fin s κ' a w hR hF
      | ret =>
        obtain ⟨s, κ', hR, hF⟩ := hq
        exact fin s κ' a w hR hF
      | exit id =>
        obtain ⟨s, κ', hR, hF⟩ := hq
        exact hF.elim
      | goto l => exact hq.elim
      | panic ch => exact hq.elim
      | outgrown => exact hq.elim
     ·cases hc
    ·cases hc
   ·cases hc
  ·cases hc
 ·cases hc
def enumB : List Blk → Nat → List (Nat × Blk)
 | [], _ => []
 | b :: r, k => (k, b) :: enumB r (k + 1)
theorem lookB_enum : ∀ (bs : List Blk) (k i : Nat), lookB i (enumB bs k) = if k ≤ i then bs.getD (i - k) .none else .none
 | [], k, i => by simp [enumB, lookB]
 | b :: r, k, i => by
   simp only [enumB, lookB]
   by_cases h : k = i
   ·subst h; simp
   ·rw [if_neg h, lookB_enum r (k + 1) i]
    by_cases hk : k ≤ i
    ·rw [if_pos (by omega), if_pos hk, show i - k = (i - (k + 1)) + 1 by omega]; simp
    ·rw [if_neg (by omega), if_neg hk]
theorem lookB_enum0 (bs : List Blk) : (fun r => lookB r (enumB bs 0)) = fun r => bs.getD r .none := by
 funext r; rw [lookB_enum]; simp
def Lent (P : Program) (G : Nat → List PV) (k f : Nat) (args : List AV) (bs : List Blk) (v : AV) (bs' : List Blk) : Prop :=
 LCalls P G k f args (enumB bs 0) bs.length fun v' sto' next' => v' = v ∧ sto' = enumB bs' 0 ∧ next' = bs'.length
def lentR (k : Nat) (v : AV) (bs' : List Blk) (v' : AV) (sto' : List (Nat × Blk)) (next' : Nat) : Prop :=
 Wk k ⟨[(0, v')], sto', next'⟩ ⟨[(0, v)], enumB bs' 0, bs'.length⟩
theorem Lent.of_lcalls {k f : Nat} {args : List AV} {bs : List Blk} {v : AV} {bs' : List Blk} (h : LCalls P G k f args (enumB bs 0) bs.length (lentR k v bs')) : Lent P G k f args bs v bs' := by
 obtain ⟨hcal, h⟩ := h
 refine ⟨hcal, fun κ vals hS hf hsz hargs => (h κ vals hS hf hsz hargs).mono ?_⟩
 rintro e w' ⟨u, v', κ', sto', next', rfl, rfl, he, hL, hv, hS', hf', hw⟩
 obtain ⟨κ'', hR⟩ := hw _ (κ.cut k) κ' 1 ⟨#[u], []⟩ κ'.w (fun r hr => κ.cut_none k r hr) ⟨rfl, he, hS', hL, fun i => by
  show ARel κ' (look i [(0, v')]) _
  by_cases hi : 0 = i
  ·subst hi; simpa [look] using hv
  ·simp only [look, if_neg hi]; exact .any _, rfl, rfl, hf'⟩
 refine ⟨u, v, κ'', _, _, rfl, hR.w_eq, hR.ext0, hR.left, ?_, hR.rel, hR.fresh, rfl, rfl, rfl⟩
 have := hR.env 0
 simpa [St.E, look] using this
theorem Lent.intro {muts : List Nat} {k f : Nat} {fn : AFn} {args : List AV} {bs : List Blk} {v : AV} {bs' : List Blk} (hc : cFn P muts f = some fn) (hn : args.length ≤ fn.N)
  (hv : vc P G k fn.body (FnK G fn.res (lentR k v bs')) ⟨initEnv args, enumB bs 0, bs.length⟩) : Lent P G k f args bs v bs' :=
 Lent.of_lcalls (LCalls.of_code hc hn hv)
def gIn (next : Nat) : List Nat → Nat → Nat
 | [], i => next + i
 | r :: _, 0 => r
 | _ :: q, i + 1 => gIn next q i
def gSo (next : Nat) (rs : List Nat) (r : Nat) : Option Nat := some (gIn next rs r)
theorem gIn_lt (next : Nat) : ∀ (rs : List Nat) (i : Nat) (r : Nat), rs[i]? = some r → gIn next rs i = r
 | [], i, r, h => by simp at h
 | x :: q, 0, r, h => by simpa [gIn] using h
 | x :: q, i + 1, r, h => by simpa [gIn] using gIn_lt next q i r (by simpa using h)
theorem gIn_ge (next : Nat) : ∀ (rs : List Nat) (i : Nat), rs.length ≤ i → gIn next rs i = next + (i - rs.length)
 | [], i, h => by simp [gIn]
 | x :: q, 0, h => by simp at h
 | x :: q, i + 1, h => by
   simp only [List.length_cons] at h
   rw [gIn, gIn_ge next q i (by omega)]
   simp
mutual
theorem unren {κ κ' : Kap} (hw : κ'.w = κ.w) (hi : κ'.imm = κ.imm) {g : Nat → Nat} (hf : ∀ r, κ'.nm r = κ.nm (g r)) : ∀ (x : AV) (v : Value), ARel κ (x.ren fun r => some (g r)) v → ARel κ' x v
 | .pv p, v, h => by
   simp only [AV.ren] at h
   cases h with
   | pv _ _ hp => exact .pv _ _ (by rw [hw, hi]; exact hp)
 | .any, v, h => .any v
 | .ptr r o, v, h => by
   simp only [AV.ren] at h
   cases h with
   | ptr _ _ b n hn => exact .ptr _ _ b n (by rw [hf r]; exact hn)
 | .row r a b c, v, h => by
   simp only [AV.ren] at h
   cases h with
   | row _ _ _ _ bb n cap hn h1 h2 h3 h4 => exact .row _ _ _ _ bb n cap (by rw [hf r]; exact hn) h1 h2 h3 h4
   | row0 _ _ hn => exact .row0 _ _ (by rw [hf r]; exact hn)
 | .olist r a l, v, h => by
   simp only [AV.ren] at h
   cases h with
   | olist _ _ _ _ hn hp hs => exact .olist _ _ _ _ (by rw [hf r]; exact hn) (by rw [hw, hi]; exact hp) hs
 | .agg cs, v, h => by
   simp only [AV.ren] at h
   cases h with
   | agg _ vs hl hr =>
     obtain ⟨h1, h2⟩ := unrenL hw hi hf cs vs hr
     exact .agg _ _ (by rw [← h1]; exact hl) h2
 | .tup cs, v, h => by
   simp only [AV.ren] at h
   cases h with
   | tup _ vs hl hr =>
     obtain ⟨h1, h2⟩ := unrenL hw hi hf cs vs hr
     exact .tup _ _ (by rw [← h1]; exact hl) h2
 | .clo g fs cs, v, h => by
   simp only [AV.ren] at h
   cases h with
   | clo _ _ _ vs us hl hr hl' hr' =>
     obtain ⟨h1, h2⟩ := unrenL hw hi hf fs vs hr
     obtain ⟨h3, h4⟩ := unrenL hw hi hf cs us hr'
     exact .clo _ _ _ _ _ (by rw [← h1]; exact hl) h2 (by rw [← h3]; exact hl') h4
theorem unrenL {κ κ' : Kap} (hw : κ'.w = κ.w) (hi : κ'.imm = κ.imm) {g : Nat → Nat} (hf : ∀ r, κ'.nm r = κ.nm (g r)) : ∀ (xs : List AV) (vs : Array Value),
  (∀ (i : Nat) (x : AV), (AV.renL (fun r => some (g r)) xs)[i]? = some x → ARel κ x (vs.getD i Go.undef)) → (AV.renL (fun r => some (g r)) xs).length = xs.length ∧ ∀ (i : Nat) (x : AV), xs[i]? = some x → ARel κ' x (vs.getD i Go.undef)
 | [], vs, h => by simp [AV.renL]
 | x :: r, vs, h => by
   have e : ∀ i, (vs.extract 1 vs.size).getD i Go.undef = vs.getD (i + 1) Go.undef := by
    intro i
    simp only [Array.getD_eq_getD_getElem?, Array.getElem?_extract]
    by_cases hh : i < min vs.size vs.size - 1
    ·rw [if_pos hh]; congr 2; omega
    ·rw [if_neg hh, Array.getElem?_eq_none (by omega)]
   obtain ⟨h1, h2⟩ := unrenL hw hi hf r (vs.extract 1 vs.size) (fun i y hy => by
    have := h (i + 1) y (by simpa [AV.renL] using hy)
    rw [e]; exact this)
   refine ⟨by simp [AV.renL, h1], fun i y hy => ?_⟩
   cases i with
   | zero =>
     simp only [List.getElem?_cons_zero, Option.some.injEq] at hy
     subst hy
     exact unren hw hi hf x _ (h 0 _ (by simp [AV.renL]))
   | succ i =>
     simp only [List.getElem?_cons_succ] at hy
     have := h2 i y hy
     rw [e] at this; exact this
end
theorem BRel.unren {κ κ' : Kap} (hw : κ'.w = κ.w) (hi : κ'.imm = κ.imm) {g : Nat → Nat} (hf : ∀ r, κ'.nm r = κ.nm (g r)) {r : Nat} {B : Blk} (h : BRel κ (g r) (B.ren fun r => some (g r))) : BRel κ' r B := by
 cases B with
 | none => trivial
 | cells T f l =>
   simp only [Blk.ren] at h
   rcases h with ⟨h1, h2, h3⟩ | ⟨b, n, cs, h1, h2, h3, h4, h5, h6, h7⟩
   ·refine .inl ⟨h1, ?_, by rw [hf]; exact h3⟩
    cases l with
    | nil => rfl
    | cons x r => simp [AV.renL] at h2
   ·obtain ⟨q1, q2⟩ := unrenL hw hi hf l cs h6
    exact .inr ⟨b, n, cs, by rw [hf]; exact h1, by rw [hw]; exact h2, h3, by rw [← q1]; exact h4, fun hb => by rw [← q1]; exact h5 hb, q2, by rw [hi]; exact h7⟩
 | tok e sz =>
   simp only [Blk.ren] at h
   rcases h with h | ⟨g', n, cap, cur, h1, h2, h3⟩
   ·exact .inl (by rw [hf]; exact h)
   ·exact .inr ⟨g', n, cap, cur, by rw [hf]; exact h1, by rw [hw]; exact h2, by rw [hi]; exact h3⟩
theorem BRel.ren {κ κ' : Kap} (hw : κ'.w = κ.w) (hi : κ'.imm = κ.imm) {g : Nat → Nat} (hf : ∀ r, κ'.nm (g r) = κ.nm r) {r : Nat} {B : Blk} (h : BRel κ r B) : BRel κ' (g r) (B.ren fun r => some (g r)) := by
 have hf' : ∀ r r', (fun r => some (g r)) r = some r' → κ'.nm r' = κ.nm r := fun r r' h => by cases h; exact hf r
 cases B with
 | none => trivial
 | cells T f l =>
   simp only [Blk.ren]
   rcases h with ⟨h1, h2, h3⟩ | ⟨b, n, cs, h1, h2, h3, h4, h5, h6, h7⟩
   ·exact .inl ⟨h1, by rw [h2]; simp only [AV.renL], by rw [hf]; exact h3⟩
   ·obtain ⟨q1, q2⟩ := renL_rel hw hi hf' l cs h6
    exact .inr ⟨b, n, cs, by rw [hf]; exact h1, by rw [hw]; exact h2, h3, by rw [q1]; exact h4, fun hb => by rw [q1]; exact h5 hb, q2, by rw [hi]; exact h7⟩
 | tok e sz =>
   simp only [Blk.ren]
   rcases h with h | ⟨g', n, cap, cur, h1, h2, h3⟩
   ·exact .inl (by rw [hf]; exact h)
   ·exact .inr ⟨g', n, cap, cur, by rw [hf]; exact h1, by rw [hw]; exact h2, by rw [hi]; exact h3⟩
def outB (f : Nat → Option Nat) : List Blk → Nat → (Nat → Nat) → List (Nat × Blk)
 | [], _, _ => []
 | b :: r, i, g => (g i, b.ren f) :: outB f r (i + 1) g
def noneB : List Nat → List (Nat × Blk)
 | [] => []
 | r :: q => (r, .none) :: noneB q
def LentAt (sto : List (Nat × Blk)) (f : Nat → Option Nat) : List Nat → List Blk → Prop
 | [], [] => True
 | r :: rs, b :: bs => BlkZ (lookB r sto) (b.ren f) ∧ LentAt sto f rs bs
 | _, _ => False
theorem LentAt.get {sto : List (Nat × Blk)} {f : Nat → Option Nat} : ∀ {rs : List Nat} {bs : List Blk}, LentAt sto f rs bs → rs.length = bs.length ∧ ∀ (i r : Nat) (b : Blk), rs[i]? = some r → bs[i]? = some b → BlkZ (lookB r sto) (b.ren f)
 | [], [], h => ⟨rfl, by simp⟩
 | r :: rs, b :: bs, h => by
   obtain ⟨h1, h2⟩ := h
   obtain ⟨h3, h4⟩ := LentAt.get h2
   refine ⟨by simp [h3], fun i q d hq hd => ?_⟩
   cases i with
   | zero => simp at hq hd; subst hq; subst hd; exact h1
   | succ i => exact h4 i q d (by simpa using hq) (by simpa using hd)
 | [], _ :: _, h => h.elim
 | _ :: _, [], h => h.elim
end
end Go.Ab
set_option linter.unusedVariables false
set_option linter.unusedSimpArgs false
namespace Go.Ab
open Go Go.RowKit
section
variable {P : Program} {G : Nat → List PV}
theorem BRel.named {κ : Kap} {r : Nat} {B : Blk} (h : BRel κ r B) (hB : B ≠ .none) : ∃ d, κ.nm r = some d := by
 cases B with
 | none => exact absurd rfl hB
 | cells T f l =>
   rcases h with ⟨_, _, h⟩ | ⟨b, n, cs, h, _⟩
   ·exact ⟨_, h⟩
   ·exact ⟨_, h⟩
 | tok e sz =>
   rcases h with h | ⟨g, n, cap, cur, h, _⟩
   ·exact ⟨_, h⟩
   ·exact ⟨_, h⟩
theorem Blk.ren_ne {f : Nat → Option Nat} {b : Blk} : b.ren f ≠ .none ↔ b ≠ .none := by
 cases b <;> simp [Blk.ren]
theorem gIn_inj {next : Nat} {rs : List Nat} (hnd : rs.Nodup) (hlt : ∀ r ∈ rs, r < next) {i j : Nat} (h : gIn next rs i = gIn next rs j) : i = j := by
 by_cases hi : i < rs.length
 ·have ei := gIn_lt next rs i _ (List.getElem?_eq_getElem hi)
  have hi' := hlt _ (List.getElem_mem hi)
  by_cases hj : j < rs.length
  ·have ej := gIn_lt next rs j _ (List.getElem?_eq_getElem hj)
   rw [ei, ej] at h
   exact (List.getElem_inj hnd).1 h
  ·have ej := gIn_ge next rs j (by omega)
   omega
 ·have ei := gIn_ge next rs i (by omega)
  by_cases hj : j < rs.length
  ·have ej := gIn_lt next rs j _ (List.getElem?_eq_getElem hj)
   have hj' := hlt _ (List.getElem_mem hj)
   omega
  ·have ej := gIn_ge next rs j (by omega)
   omega
theorem lookB_out {f : Nat → Option Nat} {g : Nat → Nat} (hg : ∀ i j, g i = g j → i = j) (rest : List (Nat × Blk)) (r : Nat) : ∀ (bs : List Blk) (k : Nat),
  (∀ i b, bs[i]? = some b → g (k + i) = r → lookB r (outB f bs k g ++ rest) = b.ren f) ∧ ((∀ i, i < bs.length → g (k + i) ≠ r) → lookB r (outB f bs k g ++ rest) = lookB r rest)
 | [], k => ⟨by simp, fun _ => rfl⟩
 | b :: q, k => by
   obtain ⟨h1, h2⟩ := lookB_out hg rest r q (k + 1)
   refine ⟨fun i b' hi hr => ?_, fun h => ?_⟩
   ·simp only [outB, List.cons_append, lookB]
    cases i with
    | zero =>
      simp only [List.getElem?_cons_zero, Option.some.injEq] at hi
      subst hi
      rw [if_pos (by simpa using hr)]
    | succ i =>
      rw [if_neg (fun e => by have := hg _ _ (e.trans hr.symm); omega)]
      exact h1 i b' (by simpa using hi) (by rw [← hr]; congr 1; omega)
   ·simp only [outB, List.cons_append, lookB]
    rw [if_neg (by have := h 0 (by simp); simpa using this)]
    exact h2 fun i hi => by
     have := h (i + 1) (by simp; omega)
     rwa [show k + (i + 1) = k + 1 + i by omega] at this
theorem lookB_none (rest : List (Nat × Blk)) (r : Nat) : ∀ (l : List Nat), lookB r (noneB l ++ rest) = if r ∈ l then .none else lookB r rest
 | [] => by simp [noneB]
 | x :: q => by
   simp only [noneB, List.cons_append, lookB, lookB_none rest r q, List.mem_cons]
   by_cases h : x = r
   ·subst h; simp
   ·rw [if_neg h]
    by_cases hq : r ∈ q
    ·simp [hq]
    ·have : ¬ (r = x ∨ r ∈ q) := by rintro (e | e); exact h e.symm; exact hq e
     rw [if_neg hq, if_neg this]
theorem Lent.frame {k f : Nat} {args0 : List AV} {bs : List Blk} {v : AV} {bs' : List Blk} (h : Lent P G k f args0 bs v bs') {rs : List Nat} {args : List AV} {sto : List (Nat × Blk)} {next : Nat}
  (hargs : AVzL args (AV.renL (gSo next rs) args0)) (hbs : LentAt sto (gSo next rs) rs bs) (hnd : rs.Nodup) (hlt : ∀ r ∈ rs, r < next) (hk : k ≤ bs.length) (hk' : k ≤ bs'.length) (hne : ∀ b ∈ bs.take k, b ≠ .none) :
  TCalls P G f args sto next fun v' sto' next' => v' = v.ren (gSo next (rs.take k)) ∧ sto' = outB (gSo next (rs.take k)) bs' 0 (gIn next (rs.take k)) ++ (noneB (rs.drop k) ++ sto) ∧ next' = next + (bs'.length - k) := by
 obtain ⟨hcal, h⟩ := h
 refine ⟨hcal, fun κ vals hS hf hsz hvals => ?_⟩
 obtain ⟨hrl, hat⟩ := hbs.get
 let κ1 : Kap := ⟨κ.w, fun i => κ.nm (gIn next rs i), κ.imm⟩
 have hσ1 : (fun r => lookB r (enumB bs 0)) = fun r => bs.getD r .none := lookB_enum0 bs
 have hlook : ∀ i b, bs[i]? = some b → ∃ r, rs[i]? = some r ∧ gIn next rs i = r ∧ BRel κ r (b.ren (gSo next rs)) ∧ (b ≠ .none → lookB r sto ≠ .none) := by
  intro i b hb
  have hi : i < rs.length := by rw [hrl]; exact (List.getElem?_eq_some_iff.1 hb).1
  have hr := List.getElem?_eq_getElem hi
  obtain ⟨q1, q2⟩ := (hat i _ b hr hb).rel (hS.blk rs[i])
  exact ⟨rs[i], hr, gIn_lt next rs i _ hr, q1, fun hb' => q2 (Blk.ren_ne.2 hb')⟩
 have hlive : ∀ i, bs.getD i .none ≠ .none → ∃ b, bs[i]? = some b ∧ b ≠ .none := by
  intro i hi
  rw [List.getD_eq_getElem?_getD] at hi
  cases hb : bs[i]? with
  | none => rw [hb] at hi; exact absurd rfl hi
  | some b => rw [hb] at hi; exact ⟨b, rfl, hi⟩
 have hB1 : ∀ i b, bs[i]? = some b → BRel κ1 i b := by
  intro i b hb
  obtain ⟨r, hr, hgr, hB, _⟩ := hlook i b hb
  exact BRel.unren (κ := κ) (κ' := κ1) rfl rfl (g := gIn next rs) (fun _ => rfl) (by rw [hgr]; exact hB)
 have hl1 : ∀ b, (ctxOf κ1 (fun r => lookB r (enumB bs 0)) G).lent b → (ctxOf κ (fun r => lookB r sto) G).lent b := by
  rintro b ⟨i, d, h1, h2, h3⟩
  simp only [congrFun hσ1 i] at h1
  obtain ⟨b', hb, hbn⟩ := hlive i h1
  obtain ⟨r, hr, hgr, _, hn⟩ := hlook i b' hb
  exact ⟨r, d, hn hbn, by rw [← hgr]; exact h2, h3⟩
 have hm1 : ∀ b, (ctxOf κ1 (fun r => lookB r (enumB bs 0)) G).mine b → (ctxOf κ (fun r => lookB r sto) G).mine b := fun b hb => hb.elim .inl (fun h => .inr (hl1 b h))
 have hS1 : SRel (ctxOf κ1 (fun r => lookB r (enumB bs 0)) G) κ1 (fun r => lookB r (enumB bs 0)) := by
  refine ⟨fun i => ?_, fun i j d d' b h1 h2 hij hd hd' hb => ?_, fun i d b h1 hd hb => .inr ⟨i, d, h1, hd, hb⟩, hS.immLt, ?_⟩
  ·rw [congrFun hσ1 i]
   show BRel κ1 i (bs.getD i .none)
   rw [List.getD_eq_getElem?_getD]
   cases hb : bs[i]? with
   | none => trivial
   | some b => exact hB1 i b hb
  ·simp only [congrFun hσ1 i] at h1
   simp only [congrFun hσ1 j] at h2
   obtain ⟨b1, hb1, hn1⟩ := hlive i h1
   obtain ⟨b2, hb2, hn2⟩ := hlive j h2
   obtain ⟨r, hr, hgr, _, hn⟩ := hlook i b1 hb1
   obtain ⟨r', hr', hgr', _, hn'⟩ := hlook j b2 hb2
   refine hS.apart r r' d d' b (hn hn1) (hn' hn2) (fun e => hij ?_) (by rw [← hgr]; exact hd) (by rw [← hgr']; exact hd') hb
   obtain ⟨hi, ei⟩ := List.getElem?_eq_some_iff.1 hr
   obtain ⟨hj, ej⟩ := List.getElem?_eq_some_iff.1 hr'
   exact (List.getElem_inj hnd).1 (ei.trans (e.trans ej.symm))
  ·refine ⟨fun g o p hp => ?_, fun g hg => ?_⟩
   ·exact hS.glob.1 g o p hp
   ·obtain ⟨h1, h2, h3⟩ := hS.glob.2 g hg
    exact ⟨h1, fun hl => h2 (hl1 g hl), h3⟩
 have hf1 : ∀ r, bs.length ≤ r → κ1.nm r = none := fun r hr => by
  show κ.nm (gIn next rs r) = none
  rw [gIn_ge next rs r (by omega)]
  exact hf _ (by omega)
 have hlen0 : args0.length = args.length := by
  rw [hargs.length]
  have : ∀ (f : Nat → Option Nat) (l : List AV), (AV.renL f l).length = l.length := by
   intro f l
   induction l with
   | nil => simp [AV.renL]
   | cons x r ih => simp [AV.renL, ih]
  rw [this]
 have hv1 : ∀ (i : Nat) (x : AV), args0[i]? = some x → ARel κ1 x (vals.getD i Go.undef) :=
  (unrenL (κ := κ) (κ' := κ1) rfl rfl (g := gIn next rs) (fun _ => rfl) args0 vals (fun i x hx => by
   obtain ⟨y, hy, hyx⟩ := hargs.get i x hx
   exact hyx.rel (hvals i y hy))).2
 refine (h κ1 vals hS1 hf1 (by omega) hv1).mono ?_
 rintro e w' ⟨u, v', κ1', sto', next', rfl, rfl, he, hL, hv, hS', hf', rfl, rfl, rfl⟩
 obtain ⟨g, hgdef⟩ : ∃ g, g = gIn next (rs.take k) := ⟨_, rfl⟩
 have htl : (rs.take k).length = k := by rw [List.length_take]; omega
 have hg1 : ∀ i, i < k → ∃ r, rs[i]? = some r ∧ g i = r ∧ r < next := by
  intro i hi
  have hi' : i < rs.length := by omega
  have hr := List.getElem?_eq_getElem hi'
  refine ⟨rs[i], hr, ?_, hlt _ (List.getElem_mem hi')⟩
  rw [hgdef]
  exact gIn_lt next _ i _ (by rw [List.getElem?_take, if_pos hi]; exact hr)
 have hg2 : ∀ i, k ≤ i → g i = next + (i - k) := fun i hi => by rw [hgdef, gIn_ge next _ i (by omega), htl]
 have hginj : ∀ i j, g i = g j → i = j := fun i j hij => by
  rw [hgdef] at hij
  exact gIn_inj (hnd.sublist (List.take_sublist _ _)) (fun r hr => hlt r (List.mem_of_mem_take hr)) hij
 have hso : gSo next (rs.take k) = fun r => some (g r) := by rw [hgdef]; rfl
 rw [hso, ← hgdef]
 let κ' : Kap := ⟨κ1'.w, fun r => if r < next then κ.nm r else κ1'.nm (k + (r - next)), κ1'.imm⟩
 have hnmk : ∀ i, i < k → κ1'.nm i = κ1.nm i := by
  intro i hi
  have hib : i < bs.length := by omega
  have hb := List.getElem?_eq_getElem hib
  obtain ⟨d, hd⟩ := (hB1 i _ hb).named (hne _ (List.mem_take_iff_getElem.2 ⟨i, by omega, rfl⟩))
  rw [hd]
  exact he.nm i d (by simp only [Kap.cut]; rw [if_pos hi]; exact hd)
 have hnm' : ∀ i, κ'.nm (g i) = κ1'.nm i := by
  intro i
  by_cases hi : i < k
  ·obtain ⟨r, hr, hgr, hrn⟩ := hg1 i hi
   show (if g i < next then κ.nm (g i) else κ1'.nm (k + (g i - next))) = _
   rw [hgr, if_pos hrn, hnmk i hi]
   show κ.nm r = κ.nm (gIn next rs i)
   rw [gIn_lt next rs i r hr]
  ·show (if g i < next then κ.nm (g i) else κ1'.nm (k + (g i - next))) = _
   rw [hg2 i (by omega), if_neg (by omega)]
   congr 1; omega
 have hext : Ext κ κ' := ⟨fun b o hi => he.imm b o hi, fun b o v hi hc => he.cell b o v hi hc, fun r d hd => by
  have hr : r < next := by
   rcases Nat.lt_or_ge r next with h | h
   ·exact h
   ·rw [hf r h] at hd; cases hd
  show (if r < next then κ.nm r else _) = _
  rw [if_pos hr]; exact hd⟩
 have hout : ∀ r d b, lookB r sto ≠ .none → r ∉ rs → κ.nm r = some d → d.block = some b → b < κ.w.heap.size ∧ ¬ (ctxOf κ1 (fun r => lookB r (enumB bs 0)) G).lent b := by
  intro r d b h1 h2 h3 h4
  refine ⟨(hS.blk r).lt h1 h3 h4, ?_⟩
  rintro ⟨i, d', q1, q2, q3⟩
  simp only [congrFun hσ1 i] at q1
  obtain ⟨b', hb, hbn⟩ := hlive i q1
  obtain ⟨r', hr', hgr, _, hn⟩ := hlook i b' hb
  refine hS.apart r r' d d' b h1 (hn hbn) (fun e => h2 (e ▸ List.mem_of_getElem? hr')) h3 (by rw [← hgr]; exact q2) h4 q3
 have hmem : ∀ r, r ∈ rs → (∃ i, i < bs'.length ∧ g i = r) ∨ r ∈ rs.drop k := by
  intro r hr
  obtain ⟨i, hi⟩ := List.getElem?_of_mem hr
  by_cases hik : i < k
  ·obtain ⟨r', hr', hgr, _⟩ := hg1 i hik
   rw [hi] at hr'; cases hr'
   exact .inl ⟨i, by omega, hgr⟩
  ·refine .inr (List.mem_of_getElem? (i := i - k) ?_)
   rw [List.getElem?_drop, show k + (i - k) = i by omega]; exact hi
 have hσ' : ∀ r, (∃ i b, bs'[i]? = some b ∧ g i = r ∧ lookB r (outB (fun r => some (g r)) bs' 0 g ++ (noneB (rs.drop k) ++ sto)) = b.ren (fun r => some (g r))) ∨
   lookB r (outB (fun r => some (g r)) bs' 0 g ++ (noneB (rs.drop k) ++ sto)) = .none ∨ (r ∉ rs ∧ (∀ i, i < bs'.length → g i ≠ r) ∧ lookB r (outB (fun r => some (g r)) bs' 0 g ++ (noneB (rs.drop k) ++ sto)) = lookB r sto) := by
  intro r
  obtain ⟨q1, q2⟩ := lookB_out (f := fun r => some (g r)) hginj (noneB (rs.drop k) ++ sto) r bs' 0
  by_cases hi : ∃ i, i < bs'.length ∧ g i = r
  ·obtain ⟨i, hi, hgi⟩ := hi
   exact .inl ⟨i, bs'[i], List.getElem?_eq_getElem hi, hgi, q1 i _ (List.getElem?_eq_getElem hi) (by rw [Nat.zero_add]; exact hgi)⟩
  ·have hni : ∀ i, i < bs'.length → g i ≠ r := fun i h1 h2 => hi ⟨i, h1, h2⟩
   have e := q2 (fun i h1 => by rw [Nat.zero_add]; exact hni i h1)
   rw [lookB_none] at e
   by_cases hr : r ∈ rs.drop k
   ·rw [if_pos hr] at e; exact .inr (.inl e)
   ·rw [if_neg hr] at e
    exact .inr (.inr ⟨fun h => (hmem r h).elim hi hr, hni, e⟩)
 have hlive' : ∀ i b, bs'[i]? = some b → b.ren (fun r => some (g r)) ≠ .none → lookB i (enumB bs' 0) ≠ .none := by
  intro i b hb hbn
  have e2 : lookB i (enumB bs' 0) = bs'.getD i .none := congrFun (lookB_enum0 bs') i
  rw [e2, List.getD_eq_getElem?_getD, hb]
  exact Blk.ren_ne.1 hbn
 refine ⟨u, _, κ', _, _, rfl, rfl, hext, ⟨hL.os, hL.tape, hL.output, hL.size, fun b hb hl => hL.block b hb fun h => hl (hl1 b h), fun b o hi => (hL.imm b o hi).imp id (hm1 b)⟩,
  ren_rel (κ := κ1') (κ' := κ') rfl rfl (fun r r' hr => by cases hr; exact hnm' r) v' u hv, ?_, fun r hr => ?_, rfl, rfl, rfl⟩
 ·refine ⟨fun r => ?_, fun r r' d d' b h1 h2 hrr hd hd' hb => ?_, fun r d b h1 hd hb => ?_, hS'.immLt, ?_⟩
  ·show BRel κ' r (lookB r _)
   rcases hσ' r with ⟨i, b, hb, hgi, e⟩ | e | ⟨hr, hni, e⟩
   ·rw [e, ← hgi]
    refine BRel.ren (κ := κ1') (κ' := κ') rfl rfl hnm' ?_
    have := hS'.blk i
    have e2 : lookB i (enumB bs' 0) = bs'.getD i .none := congrFun (lookB_enum0 bs') i
    simp only [e2, List.getD_eq_getElem?_getD, hb] at this
    exact this
   ·rw [e]; trivial
   ·rw [e]
    refine (hS.blk r).keep hext fun hbn d b hd hb => ?_
    obtain ⟨q1, q2⟩ := hout r d b hbn hr hd hb
    refine ⟨hL.block b q1 q2, fun o ho => ?_⟩
    rcases hL.imm b o ho with h | h | h
    ·exact h
    ·exact absurd q1 (Nat.not_lt.2 h)
    ·exact absurd h q2
  ·have cal : ∀ r i b0 d, bs'[i]? = some b0 → g i = r → b0.ren (fun r => some (g r)) ≠ .none → κ'.nm r = some d → lookB i (enumB bs' 0) ≠ .none ∧ κ1'.nm i = some d := by
    intro r i b0 d hb0 hgi hbn hd
    exact ⟨hlive' i b0 hb0 hbn, by rw [← hnm' i, hgi]; exact hd⟩
   have own : ∀ r d, r ∉ rs → lookB r sto ≠ .none → κ'.nm r = some d → κ.nm r = some d := by
    intro r d hr hbn hd
    obtain ⟨d', hd'⟩ := (hS.blk r).named hbn
    have := hext.nm r d' hd'
    rw [this] at hd; cases hd; exact hd'
   have mix : ∀ r i b0 d d' b, bs'[i]? = some b0 → b0.ren (fun r => some (g r)) ≠ .none → κ1'.nm i = some d → d.block = some b → lookB i (enumB bs' 0) ≠ .none → r ∉ rs → lookB r sto ≠ .none → κ.nm r = some d' → d'.block ≠ some b := by
    intro r i b0 d d' b hb0 hbn hd hdb hl hr hrl hd' hdb'
    obtain ⟨q1, q2⟩ := hout r d' b hrl hr hd' hdb'
    rcases hS'.mine i d b hl hd hdb with h | h
    ·exact absurd q1 (Nat.not_lt.2 h)
    ·exact q2 h
   rcases hσ' r with ⟨i, b1, hb1, hgi, e⟩ | e | ⟨hr, hni, e⟩
   ·have h1' : b1.ren (fun r => some (g r)) ≠ .none := by
     intro h0; exact h1 (e.trans h0)
    obtain ⟨p1, p2⟩ := cal r i b1 d hb1 hgi h1' hd
    rcases hσ' r' with ⟨j, b2, hb2, hgj, e'⟩ | e' | ⟨hr', hni', e'⟩
    ·have h2' : b2.ren (fun r => some (g r)) ≠ .none := by
      intro h0; exact h2 (e'.trans h0)
     obtain ⟨p3, p4⟩ := cal r' j b2 d' hb2 hgj h2' hd'
     exact hS'.apart i j d d' b p1 p3 (fun hij => hrr (by rw [← hgi, ← hgj, hij])) p2 p4 hb
    ·exact absurd e' h2
    ·have h2' : lookB r' sto ≠ .none := by intro h0; exact h2 (e'.trans h0)
     exact mix r' i b1 d d' b hb1 h1' p2 hb p1 hr' h2' (own r' d' hr' h2' hd')
   ·exact absurd e h1
   ·have h1' : lookB r sto ≠ .none := by intro h0; exact h1 (e.trans h0)
    have hd0 := own r d hr h1' hd
    rcases hσ' r' with ⟨j, b2, hb2, hgj, e'⟩ | e' | ⟨hr', hni', e'⟩
    ·have h2' : b2.ren (fun r => some (g r)) ≠ .none := by
      intro h0; exact h2 (e'.trans h0)
     obtain ⟨p3, p4⟩ := cal r' j b2 d' hb2 hgj h2' hd'
     intro hb'
     exact mix r j b2 d' d b hb2 h2' p4 hb' p3 hr h1' hd0 hb
    ·exact absurd e' h2
    ·have h2' : lookB r' sto ≠ .none := by intro h0; exact h2 (e'.trans h0)
     exact hS.apart r r' d d' b h1' h2' hrr hd0 (own r' d' hr' h2' hd') hb
  ·rcases hσ' r with ⟨i, b1, hb1, hgi, e⟩ | e | ⟨hr, hni, e⟩
   ·have h1' : b1.ren (fun r => some (g r)) ≠ .none := by
     intro h0; exact h1 (e.trans h0)
    refine hm1 b (hS'.mine i d b (hlive' i b1 hb1 h1') (by rw [← hnm' i, hgi]; exact hd) hb)
   ·exact absurd e h1
   ·have h1' : lookB r sto ≠ .none := by intro h0; exact h1 (e.trans h0)
    obtain ⟨d', hd'⟩ := (hS.blk r).named h1'
    have := hext.nm r d' hd'
    rw [this] at hd; cases hd
    exact .inr ⟨r, d, h1', hd', hb⟩
  ·refine ⟨hS'.glob.1, fun g' hg' => ?_⟩
   obtain ⟨h1, h2, cs, T, fz, h3, h4⟩ := hS.glob.2 g' hg'
   exact ⟨h1, h2, cs, T, fz, (hL.block g' h1 fun h => h2 (hl1 g' h)).trans h3, h4⟩
 ·show (if r < next then κ.nm r else κ1'.nm (k + (r - next))) = none
  rw [if_neg (by omega)]
  exact hf' _ (by omega)
def lentOk (k : Nat) (rs : List Nat) (bs bs' : List Blk) (next : Nat) : Bool :=
 decide (k ≤ bs.length) && decide (k ≤ bs'.length) && (bs.take k).all (fun b => match b with | .none => false | _ => true) && rs.all (fun r => decide (r < next)) && decide rs.Nodup
theorem ACall.lentK {k f : Nat} {args0 : List AV} {bs : List Blk} {v : AV} {bs' : List Blk} (h : Lent P G k f args0 bs v bs') (rs : List Nat) {args : List AV} {env : List (Nat × AV)} {sto : List (Nat × Blk)} {next : Nat} {K : AV → St → Prop}
  (hok : lentOk k rs bs bs' next = true) (hargs : AVzL args (AV.renL (gSo next rs) args0)) (hbs : LentAt sto (gSo next rs) rs bs)
  (hK : K (v.ren (gSo next (rs.take k))) ⟨env, outB (gSo next (rs.take k)) bs' 0 (gIn next (rs.take k)) ++ (noneB (rs.drop k) ++ sto), next + (bs'.length - k)⟩) : ACall P G f args ⟨env, sto, next⟩ K := by
 simp only [lentOk, Bool.and_eq_true, decide_eq_true_eq, List.all_eq_true] at hok
 obtain ⟨⟨⟨⟨h1, h2⟩, h3⟩, h4⟩, h5⟩ := hok
 refine ACall.lent (h.frame hargs hbs h5 h4 h1 h2 (fun b hb e => ?_)) ?_
 ·have := h3 b hb
  subst e; cases this
 ·rintro v' sto' next' ⟨rfl, rfl, rfl⟩
  exact hK
theorem ACall.weak {f : Nat} {args args' : List AV} {s s' : St} {K : AV → St → Prop} (hw : WkC s args s' args') (h : ACall P G f args' s' K) : ACall P G f args s K := by
 obtain ⟨s2, args2, hw2, h2⟩ := h
 refine ⟨s2, args2, ⟨hw2.1.trans hw.1, hw2.2.1.trans hw.2.1, fun c κ0 κ N a w vals hR hv => ?_⟩, ?_⟩
 ·obtain ⟨κ1, h3, h4⟩ := hw.2.2 c κ0 κ N a w vals hR hv
  exact hw2.2.2 c κ0 κ1 N a w vals h3 h4
 ·rcases h2 with ⟨ps, r, k1, k2, k3⟩ | ⟨Q, k1, k2⟩
  ·exact .inl ⟨ps, r, k1, k2, k3⟩
  ·refine .inr ⟨Q, k1, fun v sto' next' hq => ?_⟩
   have := k2 v sto' next' hq
   rw [hw.2.1] at this
   exact this
end
end Go.Ab
set_option linter.unusedVariables false
namespace Go.Ab
open Go
section
variable {P : Program} {G : Nat → List PV}
end
end Go.Ab
set_option linter.unusedVariables false
set_option linter.unusedSimpArgs false
namespace Go.Ab
open Go Go.RowKit
theorem rMin_min (k k' : IntKind) (x y : Int) : rMin (.pv (.int k x)) (.pv (.int k' y)) = some (.pv (.int k (min x y))) := by
 simp only [rMin, Option.some.injEq, AV.pv.injEq, PV.int.injEq, true_and]
 split <;> omega
theorem rMax_max (k k' : IntKind) (x y : Int) : rMax (.pv (.int k x)) (.pv (.int k' y)) = some (.pv (.int k (max x y))) := by
 simp only [rMax, Option.some.injEq, AV.pv.injEq, PV.int.injEq, true_and]
 split <;> omega
theorem toNat_minN (a : Nat) (b : Int) : (min (a : Int) b).toNat = min a b.toNat := by omega
theorem toNat_minN' (a : Nat) (b : Int) : (min b (a : Int)).toNat = min b.toNat a := by omega
theorem take_minL {α : Type} (l : List α) (n : Nat) : l.take (min l.length n) = l.take n := by
 rcases Nat.le_total l.length n with h | h
 ·rw [Nat.min_eq_left h, List.take_length, List.take_of_length_le h]
 ·rw [Nat.min_eq_right h]
theorem take_minR {α : Type} (l : List α) (n : Nat) : l.take (min n l.length) = l.take n := by rw [Nat.min_comm, take_minL]
theorem map_take {α β : Type} (f : α → β) (l : List α) (n : Nat) : (l.map f).take n = (l.take n).map f := List.map_take.symm
theorem map_drop {α β : Type} (f : α → β) (l : List α) (n : Nat) : (l.map f).drop n = (l.drop n).map f := List.map_drop.symm
theorem omap_none {α β : Type} (f : α → β) : (none : Option α).map f = none := _root_.id rfl
def appRow (mu : Bool) (e sz by_ new : Nat) (σ : Store) (x : AV) : Option (List PV) → Option (AV × List (Nat × Blk))
 | some ys => match mu, x with
   | false, .pv .nils => match ys with
     | [] => some (.pv .nils, [])
     | y :: r => if room 0 (r.length + 1) by_ = true then some (.olist new sz (y :: r), [(new, .tok e sz)]) else none
   | false, .olist q s l => match σ q with
     | .tok e' sz' => if e' = e ∧ sz' = sz ∧ s = sz ∧ room l.length ys.length by_ = true then some (.olist new sz (l ++ ys), [(q, .none), (new, .tok e sz)]) else none
     | _ => none
   | true, .pv .nils => match ys with
     | [] => some (.pv .nils, [])
     | y :: r => if room 0 (r.length + 1) by_ = true then some (.row new sz 0 (r.length + 1), [(new, .cells e false (flat (y :: r)))]) else none
   | true, .row q s off len => match σ q with
     | .cells e' _ l => if e' = e ∧ s = sz ∧ off = 0 ∧ len * sz ≤ l.length ∧ room len ys.length by_ = true then some (.row new sz 0 (len + ys.length), [(q, .none), (new, .cells e false (l.take (len * sz) ++ flat ys))]) else none
     | _ => none
   | _, _ => none
 | none => none
def appOl (e sz by_ new q s : Nat) (l ys : List PV) : Blk → Option (AV × List (Nat × Blk))
 | .tok e' sz' => if e' = e ∧ sz' = sz ∧ s = sz ∧ room l.length ys.length by_ = true then some (.olist new sz (l ++ ys), [(q, .none), (new, .tok e sz)]) else none
 | _ => none
def appRw (e sz by_ new q s off len : Nat) (ys : List PV) : Blk → Option (AV × List (Nat × Blk))
 | .cells e' _ l => if e' = e ∧ s = sz ∧ off = 0 ∧ len * sz ≤ l.length ∧ room len ys.length by_ = true then some (.row new sz 0 (len + ys.length), [(q, .none), (new, .cells e false (l.take (len * sz) ++ flat ys))]) else none
 | _ => none
theorem rAppend_eq (mu : Bool) (e sz by_ new : Nat) (σ : Store) (x y : AV) : rAppend mu e sz by_ new σ x y = appRow mu e sz by_ new σ x (elemsOf σ sz y) := by
 unfold rAppend appRow
 cases elemsOf σ sz y <;> rfl
theorem app_ol (e sz by_ new : Nat) (σ : Store) (q s : Nat) (l ys : List PV) : appRow false e sz by_ new σ (.olist q s l) (some ys) = appOl e sz by_ new q s l ys (σ q) := by
 simp only [appRow, appOl]
theorem appOl_ok {e sz by_ new q : Nat} {l ys : List PV} (h1 : l.length + ys.length ≤ 9223372036854775807) (h2 : (l.length + ys.length) * by_ ≤ 140737488355328) : appOl e sz by_ new q sz l ys (.tok e sz) = some (.olist new sz (l ++ ys), [(q, .none), (new, .tok e sz)]) := by
 simp [appOl, room_ok h1 h2]
theorem app_nil0 (e sz by_ new : Nat) (σ : Store) : appRow false e sz by_ new σ (.pv .nils) (some []) = some (.pv .nils, []) := _root_.id rfl
theorem app_nil1 {e sz by_ new : Nat} {σ : Store} {y : PV} {r : List PV} (h1 : r.length + 1 ≤ 9223372036854775807) (h2 : (r.length + 1) * by_ ≤ 140737488355328) : appRow false e sz by_ new σ (.pv .nils) (some (y :: r)) = some (.olist new sz (y :: r), [(new, .tok e sz)]) := by
 simp only [appRow]; rw [if_pos (room_ok (by omega) (by simpa using h2))]
theorem app_row (e sz by_ new : Nat) (σ : Store) (q s off len : Nat) (ys : List PV) : appRow true e sz by_ new σ (.row q s off len) (some ys) = appRw e sz by_ new q s off len ys (σ q) := by
 simp only [appRow, appRw]
theorem appRw_ok {e sz by_ new q len : Nat} {f : Bool} {l : List AV} {ys : List PV} (h0 : len * sz ≤ l.length) (h1 : len + ys.length ≤ 9223372036854775807) (h2 : (len + ys.length) * by_ ≤ 140737488355328) :
  appRw e sz by_ new q sz 0 len ys (.cells e f l) = some (.row new sz 0 (len + ys.length), [(q, .none), (new, .cells e false (l.take (len * sz) ++ flat ys))]) := by
 simp [appRw, h0, room_ok h1 h2]
theorem appRw_zero {e sz by_ new q : Nat} {f : Bool} {l : List AV} {ys : List PV} (h1 : ys.length ≤ 9223372036854775807) (h2 : ys.length * by_ ≤ 140737488355328) :
  appRw e sz by_ new q sz 0 0 ys (.cells e f l) = some (.row new sz 0 ys.length, [(q, .none), (new, .cells e false (flat ys))]) := by
 have := room_ok (n := 0) (m := ys.length) (by_ := by_) (by omega) (by simpa using h2)
 simp [appRw, this]
def elemsChk (l : List PV) : Bool → Option (List PV)
 | true => some l
 | false => none
theorem elems_nils (σ : Store) (sz : Nat) : elemsOf σ sz (.pv .nils) = some [] := _root_.id rfl
theorem elems_list (σ : Store) (sz : Nat) (l : List PV) : elemsOf σ sz (.pv (.list l)) = elemsChk l (l.all fun y => y.cells.length == sz) := by
 simp only [elemsOf]
 cases l.all (fun y => y.cells.length == sz) <;> rfl
theorem elemsChk_t (l : List PV) : elemsChk l true = some l := _root_.id rfl
theorem elems_olist (σ : Store) (sz r : Nat) (l : List PV) : elemsOf σ sz (.olist r sz l) = some l := by simp [elemsOf]
def bslC (e sz new : Nat) : Option (List PV) → Option (AV × List (Nat × Blk))
 | some ps => if ps.all (fun p => p.cells.length == sz && p.cells.all PV.one) = true then some (.olist new sz ps, [(new, .tok e sz)]) else none
 | none => none
theorem bsl_f {e sz len new : Nat} {vs : List AV} (h : vs.length = len) (h2 : len ≤ 9223372036854775807) : rBslice false e sz len new vs = bslC e sz new (pvs vs) := by
 simp only [rBslice, h, h2, true_and, if_true, bslC]
 cases pvs vs <;> rfl
def bslD (e sz new : Nat) (ps : List PV) : Bool → Option (AV × List (Nat × Blk))
 | true => some (.olist new sz ps, [(new, .tok e sz)])
 | false => none
theorem bslD_t (e sz new : Nat) (ps : List PV) : bslD e sz new ps true = some (.olist new sz ps, [(new, .tok e sz)]) := _root_.id rfl
theorem bslC_some (e sz new : Nat) (ps : List PV) : bslC e sz new (some ps) = bslD e sz new ps (ps.all fun p => p.cells.length == sz && p.cells.all PV.one) := by
 simp only [bslC]
 cases ps.all (fun p => p.cells.length == sz && p.cells.all PV.one) <;> rfl
theorem bslC_none (e sz new : Nat) : bslC e sz new none = none := _root_.id rfl
theorem bsl_t0 {e sz new : Nat} : rBslice true e sz 0 new [] = some (.row new sz 0 0, [(new, .cells e true [])]) := by
 simp [rBslice]
theorem one_bool (b : Bool) : PV.one (.bool b) = true := _root_.id rfl
theorem one_int (k : IntKind) (n : Int) : PV.one (.int k n) = true := _root_.id rfl
theorem one_str (s : List UInt8) : PV.one (.str s) = true := _root_.id rfl
theorem one_nils : PV.one .nils = true := _root_.id rfl
theorem one_list (l : List PV) : PV.one (.list l) = true := _root_.id rfl
theorem oneA_pv (p : PV) : AV.one (.pv p) = p.one := _root_.id rfl
theorem oneA_ptr (r o : Nat) : AV.one (.ptr r o) = true := _root_.id rfl
theorem oneA_row (r s o n : Nat) : AV.one (.row r s o n) = true := _root_.id rfl
theorem oneA_olist (r s : Nat) (l : List PV) : AV.one (.olist r s l) = true := _root_.id rfl
theorem oneA_clo (f : Nat) (a b : List AV) : AV.one (.clo f a b) = true := _root_.id rfl
def onCut (sz : Nat) (l : List PV) (h : Nat) : Option Nat → Option AV
 | some a => if szOk sz l a = true then some (.pv (.list ((l.take h).drop a))) else none
 | none => none
def onCutH (sz : Nat) (l : List PV) (lo : Option AV) : Option Nat → Option AV
 | some h => onCut sz l h (rBound 0 h lo)
 | none => none
theorem rSliceL_list (sz : Nat) (l : List PV) (lo hi : Option AV) : rSliceL sz (.pv (.list l)) lo hi = onCutH sz l lo (rBound l.length l.length hi) := by
 show rCut sz l lo hi = _
 unfold rCut onCutH onCut
 cases rBound l.length l.length hi with
 | none => rfl
 | some h => simp only; cases rBound 0 h lo <;> rfl
theorem rSliceL_olist (sz r s : Nat) (l : List PV) (lo hi : Option AV) : rSliceL sz (.olist r s l) lo hi = onCutH sz l lo (rBound l.length l.length hi) := by
 show rCut sz l lo hi = _
 unfold rCut onCutH onCut
 cases rBound l.length l.length hi with
 | none => rfl
 | some h => simp only; cases rBound 0 h lo <;> rfl
theorem onCutH_some (sz : Nat) (l : List PV) (lo : Option AV) (h : Nat) : onCutH sz l lo (some h) = onCut sz l h (rBound 0 h lo) := _root_.id rfl
theorem onCut_zero (sz : Nat) (l : List PV) (h : Nat) : onCut sz l h (some 0) = some (.pv (.list (l.take h))) := by
 simp [onCut, szOk]
theorem onCut_some {sz : Nat} {l : List PV} {h a : Nat} (hs : szOk sz l a = true) : onCut sz l h (some a) = some (.pv (.list ((l.take h).drop a))) := if_pos hs
theorem onElem_ite (sz : Nat) (l : List PV) (i : Nat) (y : PV) : onElem sz l i (some y) = if y.cells.length = sz then some (.pv (.eptr l i 0)) else none := _root_.id rfl
theorem all_mapF {α β : Type} (f : α → β) (p : β → Bool) (l : List α) : (l.map f).all p = l.all fun x => p (f x) := by
 rw [List.all_map]; rfl
theorem all_tt {α : Type} (l : List α) : (l.all fun _ => true) = true := by simp
theorem beq_nn (n : Nat) : (n == n) = true := by simp
def loadI (sz : Nat) (e : PV) : Bool → Option AV
 | true => some (.pv e)
 | false => partA true sz 0 (e.cells.map .pv)
theorem loadI_t (sz : Nat) (e : PV) : loadI sz e true = some (.pv e) := _root_.id rfl
theorem loadE_t0 (sz : Nat) (e : PV) : loadE true sz 0 e = loadI sz e (e.isAgg && decide (e.cells.length = sz)) := by
 simp only [loadE, true_and]
 by_cases h : e.isAgg = true ∧ e.cells.length = sz
 ·rw [if_pos h, h.1, decide_eq_true h.2]; rfl
 ·rw [if_neg h]
  have : (e.isAgg && decide (e.cells.length = sz)) = false := by
   rw [Bool.eq_false_iff]
   intro hh
   simp only [Bool.and_eq_true, decide_eq_true_eq] at hh
   exact h hh
  rw [this]; rfl
theorem isAgg_agg (cs : List PV) : (PV.agg cs).isAgg = true := _root_.id rfl
def fzO (σ : Store) : Option AV → Option (AV × List (Nat × Blk))
 | some v => (frzV σ v).map frzD
 | none => none
theorem fRun_n (G : Nat → List PV) (σ : Store) (v : AV) : fRun G σ none v = (frzV σ v).map frzD := _root_.id rfl
theorem fRun_l (G : Nat → List PV) (σ : Store) (g : Bool) (sz : Nat) (v : AV) : fRun G σ (some (g, sz)) v = fzO σ (rLoad G g sz σ v) := by
 simp only [fRun, fzO]; cases rLoad G g sz σ v <;> rfl
theorem fzO_some (σ : Store) (v : AV) : fzO σ (some v) = (frzV σ v).map frzD := _root_.id rfl
theorem frzV_agg (σ : Store) (cs : List AV) : frzV σ (.agg cs) = (frzL σ cs).map fun p => (.agg p.1, p.2) := _root_.id rfl
theorem frzV_pv (σ : Store) (p : PV) : frzV σ (.pv p) = some (p, []) := _root_.id rfl
theorem frzV_ol (σ : Store) (r s : Nat) (l : List PV) : frzV σ (.olist r s l) = some (.list l, []) := _root_.id rfl
theorem frzV_row (σ : Store) (r s n : Nat) : frzV σ (.row r s 0 n) = frzB s n r (σ r) := _root_.id rfl
theorem frzC_pv (σ : Store) (p : PV) : frzC σ (.pv p) = some (p, []) := _root_.id rfl
theorem frzC_ol (σ : Store) (r s : Nat) (l : List PV) : frzC σ (.olist r s l) = some (.list l, []) := _root_.id rfl
theorem frzC_row (σ : Store) (r s n : Nat) : frzC σ (.row r s 0 n) = frzB s n r (σ r) := _root_.id rfl
theorem frzL_nil (σ : Store) : frzL σ [] = some ([], []) := _root_.id rfl
theorem frzL_cons (σ : Store) (x : AV) (r : List AV) : frzL σ (x :: r) = frz2 (frzC σ x) (frzL σ r) := _root_.id rfl
theorem frz2_some (p : PV) (a : List Nat) (q : List PV) (b : List Nat) : frz2 (some (p, a)) (some (q, b)) = some (p :: q, a ++ b) := _root_.id rfl
theorem frzD_eq (p : PV) (l : List Nat) : frzD (p, l) = (.pv p, l.map fun r => (r, .none)) := _root_.id rfl
theorem names_pv (p : PV) : (AV.pv p).names = [] := _root_.id rfl
theorem names_ptr (r o : Nat) : (AV.ptr r o).names = [r] := _root_.id rfl
theorem names_row (r a b c : Nat) : (AV.row r a b c).names = [r] := _root_.id rfl
theorem names_ol (r a : Nat) (l : List PV) : (AV.olist r a l).names = [r] := _root_.id rfl
theorem names_agg (cs : List AV) : (AV.agg cs).names = AV.namesL cs := by simp only [AV.names]
theorem names_tup (cs : List AV) : (AV.tup cs).names = AV.namesL cs := by simp only [AV.names]
theorem names_clo (f : Nat) (fs cs : List AV) : (AV.clo f fs cs).names = AV.namesL fs ++ AV.namesL cs := by simp only [AV.names]
theorem names_any : AV.any.names = [] := _root_.id rfl
theorem namesL_nil : AV.namesL [] = [] := _root_.id rfl
theorem namesL_cons (x : AV) (r : List AV) : AV.namesL (x :: r) = x.names ++ AV.namesL r := by simp only [AV.namesL]
theorem namesL_pv : ∀ l : List PV, AV.namesL (l.map .pv) = []
 | [] => rfl
 | x :: r => by rw [List.map_cons, namesL_cons, namesL_pv r]; rfl
theorem namesL_flat (l : List PV) : AV.namesL (flat l) = [] := namesL_pv _
theorem namesB_cells (T : Nat) (f : Bool) (l : List AV) : (Blk.cells T f l).names = AV.namesL l := _root_.id rfl
theorem namesB_tok (e s : Nat) : (Blk.tok e s).names = [] := _root_.id rfl
theorem namesB_none : Blk.none.names = [] := _root_.id rfl
theorem addN_nil (acc : List Nat) : addNames acc [] = acc := _root_.id rfl
def addN1 (acc : List Nat) (n : Nat) : Bool → List Nat
 | true => acc
 | false => acc ++ [n]
theorem contains_mem (x : Nat) : ∀ l : List Nat, l.contains x = memN x l
 | [] => rfl
 | y :: r => by
   rw [List.contains_cons, contains_mem x r, memN_cons]
   by_cases h : y = x
   ·simp [h]
   ·have h' : ¬ x = y := fun e => h e.symm
    simp [h, h']
theorem addN_cons (acc : List Nat) (n : Nat) (r : List Nat) : addNames acc (n :: r) = addNames (addN1 acc n (memN n acc)) r := by
 simp only [addNames, contains_mem]
 cases memN n acc <;> rfl
theorem addN1_t (acc : List Nat) (n : Nat) : addN1 acc n true = acc := _root_.id rfl
theorem addN1_f (acc : List Nat) (n : Nat) : addN1 acc n false = acc ++ [n] := _root_.id rfl
def geN (m0 : Nat) : List Nat → List Nat
 | [] => []
 | x :: r => if m0 ≤ x then x :: geN m0 r else geN m0 r
theorem geN_nil (m0 : Nat) : geN m0 [] = [] := _root_.id rfl
theorem geN_cons (m0 x : Nat) (r : List Nat) : geN m0 (x :: r) = if m0 ≤ x then x :: geN m0 r else geN m0 r := _root_.id rfl
theorem geN_eq (m0 : Nat) : ∀ l : List Nat, l.filter (fun r => decide (m0 ≤ r)) = geN m0 l
 | [] => rfl
 | x :: r => by rw [List.filter_cons, geN_eq m0 r, geN_cons]; simp
def blkNames (sto : List (Nat × Blk)) : List Nat → List Nat
 | [] => []
 | r :: q => (lookB r sto).names ++ blkNames sto q
theorem blkNames_nil (sto : List (Nat × Blk)) : blkNames sto [] = [] := _root_.id rfl
theorem blkNames_cons (sto : List (Nat × Blk)) (r : Nat) (q : List Nat) : blkNames sto (r :: q) = (lookB r sto).names ++ blkNames sto q := _root_.id rfl
theorem blkNames_eq (sto : List (Nat × Blk)) : ∀ l : List Nat, (l.flatMap fun r => (lookB r sto).names) = blkNames sto l
 | [] => rfl
 | r :: q => by rw [List.flatMap_cons, blkNames_eq sto q, blkNames_cons]
theorem reach_0 (m0 : Nat) (sto : List (Nat × Blk)) (acc : List Nat) : reachN m0 sto 0 acc = acc := _root_.id rfl
theorem reach_s (m0 : Nat) (sto : List (Nat × Blk)) (k : Nat) (acc : List Nat) : reachN m0 sto (k + 1) acc = reachN m0 sto k (addNames acc (geN m0 (blkNames sto acc))) := by
 rw [← geN_eq, ← blkNames_eq]; rfl
def envNames (e : List (Nat × AV)) : List Nat → List Nat
 | [] => []
 | k :: r => (look k e).names ++ envNames e r
theorem envNames_nil (e : List (Nat × AV)) : envNames e [] = [] := _root_.id rfl
theorem envNames_cons (e : List (Nat × AV)) (k : Nat) (r : List Nat) : envNames e (k :: r) = (look k e).names ++ envNames e r := _root_.id rfl
theorem envNames_eq (e : List (Nat × AV)) (σ : List (Nat × Blk)) (n : Nat) : ∀ l : List Nat, (l.flatMap fun i => ((⟨e, σ, n⟩ : St).E i).names) = envNames e l
 | [] => rfl
 | k :: r => by rw [List.flatMap_cons, envNames_eq e σ n r]; rfl
def rngN : Nat → Nat → List Nat
 | 0, _ => []
 | n + 1, k => k :: rngN n (k + 1)
theorem rng_0 (k : Nat) : rngN 0 k = [] := _root_.id rfl
theorem rng_s (n k : Nat) : rngN (n + 1) k = k :: rngN n (k + 1) := _root_.id rfl
theorem rng_eq' : ∀ n k : Nat, rngN n k = List.range' k n
 | 0, k => rfl
 | n + 1, k => by rw [rng_s, rng_eq' n, List.range'_succ]
theorem rng_eq (n : Nat) : List.range n = rngN n 0 := by rw [rng_eq', List.range_eq_range']
theorem olds_eq (m0 : Nat) (keep : List Nat) (e : List (Nat × AV)) (σ : List (Nat × Blk)) (n : Nat) : olds m0 keep ⟨e, σ, n⟩ = reachN m0 σ σ.length (addNames [] (geN m0 (envNames e keep ++ blkNames σ (rngN m0 0)))) := by
 rw [← geN_eq, ← envNames_eq e σ n, ← blkNames_eq, ← rng_eq]; rfl
def normE (f : Nat → Option Nat) (e : List (Nat × AV)) : List Nat → List (Nat × AV)
 | [] => []
 | k :: r => (k, (look k e).ren f) :: normE f e r
theorem normE_nil (f : Nat → Option Nat) (e : List (Nat × AV)) : normE f e [] = [] := _root_.id rfl
theorem normE_cons (f : Nat → Option Nat) (e : List (Nat × AV)) (k : Nat) (r : List Nat) : normE f e (k :: r) = (k, (look k e).ren f) :: normE f e r := _root_.id rfl
def normO (m0 : Nat) (keep : List Nat) (e : List (Nat × AV)) (σ : List (Nat × Blk)) (os : List Nat) : St := ⟨normE (newName m0 os) e keep, renSto m0 (newName m0 os) σ (rngN m0 0 ++ os) 0, m0 + os.length⟩
theorem norm_eq (m0 : Nat) (keep : List Nat) (e : List (Nat × AV)) (σ : List (Nat × Blk)) (n : Nat) : norm m0 keep ⟨e, σ, n⟩ = normO m0 keep e σ (reachN m0 σ σ.length (addNames [] (geN m0 (envNames e keep ++ blkNames σ (rngN m0 0))))) := by
 rw [← olds_eq m0 keep e σ n]
 have hE : ∀ (f : Nat → Option Nat) (l : List Nat), (l.map fun i => (i, ((⟨e, σ, n⟩ : St).E i).ren f)) = normE f e l := by
  intro f l
  induction l with
  | nil => rfl
  | cons k r ih => rw [List.map_cons, ih]; rfl
 simp only [norm, normO, hE, rng_eq]
theorem normO_c (m0 : Nat) (keep : List Nat) (e : List (Nat × AV)) (σ : List (Nat × Blk)) (x : Nat) (r : List Nat) : normO m0 keep e σ (x :: r) = ⟨normE (newName m0 (x :: r)) e keep, renSto m0 (newName m0 (x :: r)) σ (rngN m0 0 ++ (x :: r)) 0, m0 + (x :: r).length⟩ := _root_.id rfl
theorem normO_n (m0 : Nat) (keep : List Nat) (e : List (Nat × AV)) (σ : List (Nat × Blk)) : normO m0 keep e σ [] = ⟨normE (newName m0 []) e keep, renSto m0 (newName m0 []) σ (rngN m0 0) 0, m0⟩ := by
 simp only [normO, List.append_nil]; rfl
theorem renSto_nil (m0 : Nat) (f : Nat → Option Nat) (σ : List (Nat × Blk)) (k : Nat) : renSto m0 f σ [] k = [] := _root_.id rfl
theorem renSto_cons (m0 : Nat) (f : Nat → Option Nat) (σ : List (Nat × Blk)) (r : Nat) (q : List Nat) (k : Nat) : renSto m0 f σ (r :: q) k = (k, (lookB r σ).ren f) :: renSto m0 f σ q (k + 1) := _root_.id rfl
theorem newName_eq (m0 : Nat) (os : List Nat) (r : Nat) : newName m0 os r = if r < m0 then some r else idxN r os m0 := _root_.id rfl
theorem idxN_nil (x k : Nat) : idxN x [] k = none := _root_.id rfl
theorem idxN_cons (x y : Nat) (r : List Nat) (k : Nat) : idxN x (y :: r) k = if y = x then some k else idxN x r (k + 1) := _root_.id rfl
def renP (o : Nat) : Option Nat → AV
 | some q => .ptr q o
 | none => .any
def renR (a b c : Nat) : Option Nat → AV
 | some q => .row q a b c
 | none => .any
def renO (a : Nat) (l : List PV) : Option Nat → AV
 | some q => .olist q a l
 | none => .pv (.list l)
theorem ren_pv (f : Nat → Option Nat) (p : PV) : (AV.pv p).ren f = .pv p := by simp only [AV.ren]
theorem ren_any (f : Nat → Option Nat) : AV.any.ren f = .any := by simp only [AV.ren]
theorem ren_ptr (f : Nat → Option Nat) (r o : Nat) : (AV.ptr r o).ren f = renP o (f r) := by simp only [AV.ren, renP] <;> (cases f r <;> rfl)
theorem ren_row (f : Nat → Option Nat) (r a b c : Nat) : (AV.row r a b c).ren f = renR a b c (f r) := by simp only [AV.ren, renR] <;> (cases f r <;> rfl)
theorem ren_ol (f : Nat → Option Nat) (r a : Nat) (l : List PV) : (AV.olist r a l).ren f = renO a l (f r) := by simp only [AV.ren, renO] <;> (cases f r <;> rfl)
theorem ren_agg (f : Nat → Option Nat) (cs : List AV) : (AV.agg cs).ren f = .agg (AV.renL f cs) := by simp only [AV.ren]
theorem ren_tup (f : Nat → Option Nat) (cs : List AV) : (AV.tup cs).ren f = .tup (AV.renL f cs) := by simp only [AV.ren]
theorem ren_clo (f : Nat → Option Nat) (g : Nat) (fs cs : List AV) : (AV.clo g fs cs).ren f = .clo g (AV.renL f fs) (AV.renL f cs) := by simp only [AV.ren]
theorem renP_some (o q : Nat) : renP o (some q) = .ptr q o := _root_.id rfl
theorem renR_some (a b c q : Nat) : renR a b c (some q) = .row q a b c := _root_.id rfl
theorem renO_some (a : Nat) (l : List PV) (q : Nat) : renO a l (some q) = .olist q a l := _root_.id rfl
theorem renL_nil (f : Nat → Option Nat) : AV.renL f [] = [] := _root_.id rfl
theorem renL_cons (f : Nat → Option Nat) (x : AV) (r : List AV) : AV.renL f (x :: r) = x.ren f :: AV.renL f r := by simp only [AV.renL]
theorem renL_pv (f : Nat → Option Nat) : ∀ l : List PV, AV.renL f (l.map .pv) = l.map .pv
 | [] => rfl
 | x :: r => by rw [List.map_cons, renL_cons, renL_pv f r, ren_pv]
theorem renL_flat (f : Nat → Option Nat) (l : List PV) : AV.renL f (flat l) = flat l := renL_pv f _
theorem renB_cells (f : Nat → Option Nat) (T : Nat) (b : Bool) (l : List AV) : (Blk.cells T b l).ren f = .cells T b (AV.renL f l) := _root_.id rfl
theorem renB_tok (f : Nat → Option Nat) (e s : Nat) : (Blk.tok e s).ren f = .tok e s := _root_.id rfl
theorem renB_none (f : Nat → Option Nat) : Blk.none.ren f = .none := _root_.id rfl
theorem normA_eq (A : List (Nat × Nat × Nat × Nat)) (m0 : Nat) (keep : List Nat) (s : St) : normA A m0 keep s = norm m0 keep (accs A s) := _root_.id rfl
theorem accs_nil (s : St) : accs [] s = s := _root_.id rfl
theorem accs_slot (k e sz : Nat) (r : List (Nat × Nat × Nat × Nat)) (env : List (Nat × AV)) (σ : List (Nat × Blk)) (n : Nat) : accs ((k, 0, e, sz) :: r) ⟨env, σ, n⟩ = accs r (accC k e sz ⟨env, σ, n⟩ (look k env)) := _root_.id rfl
theorem accs_cell (k j e sz : Nat) (r : List (Nat × Nat × Nat × Nat)) (env : List (Nat × AV)) (σ : List (Nat × Blk)) (n : Nat) : accs ((k, j + 1, e, sz) :: r) ⟨env, σ, n⟩ = accs r (accP j e sz ⟨env, σ, n⟩ (look k env)) := _root_.id rfl
theorem accC_nils (k e sz : Nat) (env : List (Nat × AV)) (σ : List (Nat × Blk)) (n : Nat) : accC k e sz ⟨env, σ, n⟩ (.pv .nils) = ⟨(k, nilAV n e sz) :: env, (n, nilBlk e sz) :: σ, n + 1⟩ := _root_.id rfl
theorem accC_row (k e sz r a b c : Nat) (s : St) : accC k e sz s (.row r a b c) = s := _root_.id rfl
theorem nilAV_l {n e sz : Nat} (h : e < 1000000) : nilAV n e sz = .olist n sz [] := if_pos h
theorem nilAV_r {n e sz : Nat} (h : 1000000 ≤ e) : nilAV n e sz = .row n sz 0 0 := if_neg (Nat.not_lt.2 h)
theorem nilBlk_l {e sz : Nat} (h : e < 1000000) : nilBlk e sz = .tok e sz := if_pos h
theorem nilBlk_r {e sz : Nat} (h : 1000000 ≤ e) : nilBlk e sz = .cells (e - 1000000) false [] := if_neg (Nat.not_lt.2 h)
theorem accC_ol (k e sz r a : Nat) (l : List PV) (s : St) : accC k e sz s (.olist r a l) = s := _root_.id rfl
theorem accP_ptr (o e sz r b : Nat) (env : List (Nat × AV)) (σ : List (Nat × Blk)) (n : Nat) : accP o e sz ⟨env, σ, n⟩ (.ptr r b) = accB r (b + o) e sz ⟨env, σ, n⟩ (lookB r σ) := _root_.id rfl
theorem accB_cells (r o e sz T : Nat) (f : Bool) (l : List AV) (s : St) : accB r o e sz s (.cells T f l) = accD r T f l o e sz s l[o]? := _root_.id rfl
theorem accD_nils (r T : Nat) (f : Bool) (l : List AV) (o e sz : Nat) (env : List (Nat × AV)) (σ : List (Nat × Blk)) (n : Nat) : accD r T f l o e sz ⟨env, σ, n⟩ (some (.pv .nils)) = ⟨env, (r, .cells T f (l.set o (nilAV n e sz))) :: (n, nilBlk e sz) :: σ, n + 1⟩ := _root_.id rfl
theorem accD_row (r T : Nat) (f : Bool) (l : List AV) (o e sz : Nat) (s : St) (q a b c : Nat) : accD r T f l o e sz s (some (.row q a b c)) = s := _root_.id rfl
theorem accD_ol (r T : Nat) (f : Bool) (l : List AV) (o e sz : Nat) (s : St) (q a : Nat) (k : List PV) : accD r T f l o e sz s (some (.olist q a k)) = s := _root_.id rfl
theorem set0 {α : Type} (x y : α) (r : List α) : (x :: r).set 0 y = y :: r := _root_.id rfl
theorem setS {α : Type} (x y : α) (r : List α) (n : Nat) : (x :: r).set (n + 1) y = x :: r.set n y := _root_.id rfl
theorem st_eq (e e' : List (Nat × AV)) (σ σ' : List (Nat × Blk)) (n n' : Nat) : (St.mk e σ n = St.mk e' σ' n') = (e = e' ∧ σ = σ' ∧ n = n') := by rw [St.mk.injEq]
theorem dNlt_t {a b : Nat} (h : a < b) : decide (a < b) = true := decide_eq_true h
theorem dNlt_f {a b : Nat} (h : ¬ a < b) : decide (a < b) = false := decide_eq_false h
theorem dNle_t {a b : Nat} (h : a ≤ b) : decide (a ≤ b) = true := decide_eq_true h
theorem dNle_f {a b : Nat} (h : ¬ a ≤ b) : decide (a ≤ b) = false := decide_eq_false h
theorem dNeq_t {a b : Nat} (h : a = b) : decide (a = b) = true := decide_eq_true h
theorem dNeq_f {a b : Nat} (h : ¬ a = b) : decide (a = b) = false := decide_eq_false h
theorem take_snoc {α : Type} {l : List α} {m : Nat} {x : α} (h : l[m]? = some x) : l.take (m + 1) = l.take m ++ [x] := by
 obtain ⟨h1, h2⟩ := List.getElem?_eq_some_iff.1 h
 rw [List.take_succ_eq_append_getElem h1, h2]
def fillC (cells : List AV) (off sz : Nat) (r : List (Nat × Nat × AV)) (xc : List AV) : Bool → Option (List AV)
 | true => fillA (cells.take off ++ xc ++ cells.drop (off + sz)) r
 | false => none
theorem fillC_t (cells : List AV) (off sz : Nat) (r : List (Nat × Nat × AV)) (xc : List AV) : fillC cells off sz r xc true = fillA (cells.take off ++ xc ++ cells.drop (off + sz)) r := _root_.id rfl
theorem fillA_nil (cells : List AV) : fillA cells [] = some cells := _root_.id rfl
theorem fillA_cons (cells : List AV) (off sz : Nat) (x : AV) (r : List (Nat × Nat × AV)) : fillA cells ((off, sz, x) :: r) = fillC cells off sz r x.cells (x.known && decide (x.cells.length = sz) && decide (off + sz ≤ cells.length)) := by
 simp only [fillA]
 by_cases h : x.known = true ∧ x.cells.length = sz ∧ off + sz ≤ cells.length
 ·rw [if_pos h, h.1, decide_eq_true h.2.1, decide_eq_true h.2.2]; rfl
 ·rw [if_neg h]
  have : (x.known && decide (x.cells.length = sz) && decide (off + sz ≤ cells.length)) = false := by
   rw [Bool.eq_false_iff]
   intro hh
   simp only [Bool.and_eq_true, decide_eq_true_eq] at hh
   exact h ⟨hh.1.1, hh.1.2, hh.2⟩
  rw [this]; rfl
theorem partT_eq (sz off : Nat) (cs : List AV) : partT sz off cs = if off + sz ≤ cs.length then some (mkAgg ((cs.drop off).take sz)) else none := _root_.id rfl
section
variable {P : Program} {G : Nat → List PV}
def RoundX {ι : Type} (A : List (Nat × Nat × Nat × Nat)) (S : ι → St) (Inv : ι → Prop) (μ : ι → Nat) (x : ι) (m0 : Nat) (keep : List Nat) (id : Nat) (keepX : List Nat) (fin : ι → Prop) (Q : AExit → St → Prop) : AExit → St → Prop
 | .norm, s' => ∃ x', Hd A m0 keep s' (S x') ∧ Inv x' ∧ μ x' < μ x
 | .exit i, s' => if i = id then ∃ x', fin x' ∧ norm m0 keepX s' = norm m0 keepX (S x') else Q (.exit i) s'
 | .ret, s' => Q .ret s'
theorem RoundX_norm {ι : Type} (A : List (Nat × Nat × Nat × Nat)) (S : ι → St) (Inv : ι → Prop) (μ : ι → Nat) (x : ι) (m0 : Nat) (keep : List Nat) (id : Nat) (keepX : List Nat) (fin : ι → Prop) (Q : AExit → St → Prop) (s : St) : RoundX A S Inv μ x m0 keep id keepX fin Q .norm s = ∃ x', Hd A m0 keep s (S x') ∧ Inv x' ∧ μ x' < μ x := _root_.id rfl
theorem RoundX_exit {ι : Type} (A : List (Nat × Nat × Nat × Nat)) (S : ι → St) (Inv : ι → Prop) (μ : ι → Nat) (x : ι) (m0 : Nat) (keep : List Nat) (id : Nat) (keepX : List Nat) (fin : ι → Prop) (Q : AExit → St → Prop) (i : Nat) (s : St) : RoundX A S Inv μ x m0 keep id keepX fin Q (.exit i) s = if i = id then (∃ x', fin x' ∧ norm m0 keepX s = norm m0 keepX (S x')) else Q (.exit i) s := _root_.id rfl
theorem RoundX_ret {ι : Type} (A : List (Nat × Nat × Nat × Nat)) (S : ι → St) (Inv : ι → Prop) (μ : ι → Nat) (x : ι) (m0 : Nat) (keep : List Nat) (id : Nat) (keepX : List Nat) (fin : ι → Prop) (Q : AExit → St → Prop) (s : St) : RoundX A S Inv μ x m0 keep id keepX fin Q .ret s = Q .ret s := _root_.id rfl
theorem vc_meet {ι : Type} (A : List (Nat × Nat × Nat × Nat)) (ch : ι → List (Nat × AV)) (chB : ι → List (Nat × Blk)) (Inv : ι → Prop) (μ : ι → Nat) (x0 : ι) (keepX : List Nat) (fin : ι → Prop) {m0 id : Nat} {keep : List Nat} {b : ACode} {F : St → Prop} {Q : AExit → St → Prop} {s : St}
  (h : ∀ e0 σ0 n0, normA A m0 keep s = ⟨e0, σ0, n0⟩ → StZ ⟨e0, σ0, n0⟩ ⟨overE e0 (ch x0), overB σ0 (chB x0), n0⟩ ∧ Inv x0 ∧
   (∀ x, Inv x → vc P G m0 b (RoundX A (fun x => ⟨overE e0 (ch x), overB σ0 (chB x), n0⟩) Inv μ x m0 keep id keepX fin Q) ⟨overE e0 (ch x), overB σ0 (chB x), n0⟩) ∧
   ∀ x, fin x → ∀ s1, norm m0 keepX ⟨overE e0 (ch x), overB σ0 (chB x), n0⟩ = s1 → F s1) : vc P G m0 (.loop keep b) (BlockK id (SeqK F Q)) s := by
 obtain ⟨h1, h2, h3, h4⟩ := h (normA A m0 keep s).env (normA A m0 keep s).sto (normA A m0 keep s).next rfl
 refine ⟨fun n s' => ∃ x, s' = ⟨overE (normA A m0 keep s).env (ch x), overB (normA A m0 keep s).sto (chB x), (normA A m0 keep s).next⟩ ∧ Inv x ∧ μ x = n, ⟨μ x0, _, Wk.head (A := A) (keep := keep) h1, x0, rfl, h2, rfl⟩, ?_⟩
 rintro n s' ⟨x, rfl, hx, rfl⟩
 refine vc_mono b (fun e s' hs => ?_) _ (h3 x hx)
 cases e with
 | norm =>
   obtain ⟨x', k1, k2, k3⟩ := hs
   exact ⟨_, _, k3, k1, x', rfl, k2, rfl⟩
 | exit i =>
   simp only [RoundX] at hs
   split at hs
   ·rename_i hi
    obtain ⟨x', k1, k2⟩ := hs
    refine ⟨norm m0 keepX s', Wk.norm m0 keepX s', ?_⟩
    simp only [BlockK, if_pos hi, SeqK]
    exact h4 x' k1 _ k2.symm
   ·rename_i hi
    refine ⟨s', Wk.of (Wx.refl s') m0, ?_⟩
    simp only [BlockK, if_neg hi, SeqK]
    exact hs
 | ret => exact hs
end
end Go.Ab
set_option linter.unusedVariables false
namespace Go.Ab
open Go
theorem enumB_nil (k : Nat) : enumB [] k = [] := _root_.id rfl
theorem enumB_cons (b : Blk) (r : List Blk) (k : Nat) : enumB (b :: r) k = (k, b) :: enumB r (k + 1) := _root_.id rfl
theorem lentAt_nil (sto : List (Nat × Blk)) (f : Nat → Option Nat) : LentAt sto f [] [] = True := _root_.id rfl
theorem lentAt_cons (sto : List (Nat × Blk)) (f : Nat → Option Nat) (r : Nat) (rs : List Nat) (b : Blk) (bs : List Blk) : LentAt sto f (r :: rs) (b :: bs) = (BlkZ (lookB r sto) (b.ren f) ∧ LentAt sto f rs bs) := _root_.id rfl
theorem outB_nil (f : Nat → Option Nat) (i : Nat) (g : Nat → Nat) : outB f [] i g = [] := _root_.id rfl
theorem outB_cons (f : Nat → Option Nat) (b : Blk) (r : List Blk) (i : Nat) (g : Nat → Nat) : outB f (b :: r) i g = (g i, b.ren f) :: outB f r (i + 1) g := _root_.id rfl
theorem noneB_nil : noneB [] = [] := _root_.id rfl
theorem noneB_cons (r : Nat) (q : List Nat) : noneB (r :: q) = (r, .none) :: noneB q := _root_.id rfl
theorem gSo_eq (next : Nat) (rs : List Nat) (r : Nat) : gSo next rs r = some (gIn next rs r) := _root_.id rfl
theorem gIn_nil (next i : Nat) : gIn next [] i = next + i := _root_.id rfl
theorem gIn_0 (next r : Nat) (q : List Nat) : gIn next (r :: q) 0 = r := _root_.id rfl
theorem gIn_s (next r i : Nat) (q : List Nat) : gIn next (r :: q) (i + 1) = gIn next q i := _root_.id rfl
def elemsB (s sz off len : Nat) : Blk → Option (List PV)
 | .cells _ _ l => if s = 1 ∧ sz = 1 ∧ off + len ≤ l.length ∧ ((l.drop off).take len).all AV.one = true then pvs ((l.drop off).take len) else none
 | _ => none
theorem elemsOf_row (σ : Store) (sz r s off len : Nat) : elemsOf σ sz (.row r s off len) = elemsB s sz off len (σ r) := by
 simp only [elemsOf, elemsB]
 cases σ r <;> rfl
theorem all_one_int (k : IntKind) (l : List Int) : (l.map (PV.int k)).all PV.one = true := by
 rw [List.all_eq_true]; intro x hx; obtain ⟨n, _, rfl⟩ := List.mem_map.1 hx; rfl
theorem elemsB_pv {T : Nat} {f : Bool} {l : List PV} {n : Nat} (h : n ≤ l.length) (h1 : l.all PV.one = true) : elemsB 1 1 0 n (.cells T f (l.map .pv)) = some (l.take n) := by
 have h2 : (((l.map AV.pv).drop 0).take n) = (l.take n).map .pv := by rw [List.drop_zero, List.map_take]
 have h3 : ((l.take n).map AV.pv).all AV.one = true := by
  rw [List.all_eq_true] at h1 ⊢
  intro x hx
  obtain ⟨y, hy, rfl⟩ := List.mem_map.1 hx
  exact h1 y (List.mem_of_mem_take hy)
 have h4 : ∀ k : List PV, pvs (k.map .pv) = some k := by
  intro k
  induction k with
  | nil => rfl
  | cons a r ih => simp [pvs, AV.toPV, ih]
 simp only [elemsB]
 rw [if_pos (by refine ⟨trivial, trivial, by simp; omega, by rw [h2]; exact h3⟩), h2, h4]
theorem elemsB_int {T : Nat} {f : Bool} {k : IntKind} {p : List Int} {n : Nat} (h : n = p.length) : elemsB 1 1 0 n (.cells T f ((p.map (PV.int k)).map .pv)) = some (p.map (PV.int k)) := by
 rw [elemsB_pv (by simp; omega) (all_one_int k p), List.take_of_length_le (by simp; omega)]
theorem rSliceL_rowhi {sz r off n : Nat} {k : IntKind} {h : Int} (h0 : 0 ≤ h) (h1 : h ≤ n) (hs : 0 < sz) : rSliceL sz (.row r sz off n) none (some (.pv (.int k h))) = some (.row r sz off h.toNat) := by
 simp [rSliceL, rBound, h0, h1, hs]
theorem toNat_s1 (n : Nat) : ((n : Int) + 1).toNat = n + 1 := by omega
theorem add_sub1 (n : Int) : n + 1 - 1 = n := by omega
def revK : List Nat → List Nat → List Nat
 | [], a => a
 | x :: r, a => revK r (x :: a)
theorem revK_nil (a : List Nat) : revK [] a = a := _root_.id rfl
theorem revK_cons (x : Nat) (r a : List Nat) : revK (x :: r) a = revK r (x :: a) := _root_.id rfl
theorem revK_eq : ∀ (l a : List Nat), l.reverse ++ a = revK l a
 | [], a => rfl
 | x :: r, a => by rw [revK_cons, ← revK_eq r (x :: a)]; simp
theorem keysL_rev (l : List (Nat × Blk)) : keysL l.reverse = revK (keysL l) [] := by
 rw [← revK_eq, List.append_nil]; simp [keysL]
theorem rowT_two (ks rs : List Nat) : rowT 2 ks rs = (0 :: ks.map (· + 1), rs.map (· + 1)) := by simp [rowT]
theorem lent_z (A : List (Nat × Nat × Nat × Nat)) {k : Nat} {v v' : AV} {bs' : List Blk} {sto' : List (Nat × Blk)} {next' : Nat} (h : StZ (normA A k [0] ⟨[(0, v')], sto', next'⟩) ⟨[(0, v)], enumB bs' 0, bs'.length⟩) : lentR k v bs' v' sto' next' := Wk.head h
theorem ACall.nilB (r o e sz : Nat) {P : Program} {G : Nat → List PV} {f : Nat} {args : List AV} {s : St} {K : AV → St → Prop} (he : (accB r o e sz s (lookB r s.sto)).env = s.env) (h : ACall P G f args (accB r o e sz s (lookB r s.sto)) K) : ACall P G f args s K :=
 ACall.weak (WkC.of (wx_accB r o e sz s) he args) h
end Go.Ab
namespace Go.Ab
open Go
attribute [push_cast] wrap_i64 wrap_i32 wrap_u8 wrap_u64 wrap_u32 dlt_t dlt_f dle_t dle_f deq_t deq_f look_cons
 look_nil lookB_cons lookB_nil evE_t evE_c evE_m mClo_iface mCloO_some lookT_cons evO_some evO_none evL_nil evL_cons evP_nil evP_cons tRun_mv
 tRun_pick tRun_build tRun_faddr tRun_field tRun_iaddr tRun_iaddrA tRun_index tRun_indexA tRun_len tRun_lenC tRun_imin tRun_imax
 tRun_sliceL tRun_sliceS tRun_bin tRun_beq rBeqM_t rBeqM_f tRun_neg tRun_not tRun_compl tRun_conv tRun_beqS rBeqS_agg
 eqPs_nil eqPs_bool eqPs_int eqPs_str andO_some tRun_convIS rConvIS_int tRun_convS tRun_clo tRun_ext tRun_nilck rPick_t
 rPick_f rFaddr_ptr rFaddr_eptr rFaddr_gptr rField_pv rField_av partA_t partA_f rElem_nat rElem_succ rIaddr_list rIaddr_olist
 rIaddr_row rLen_str rLen_list rLen_nils rLen_olist rLen_row rBound_some rBound_none cut2_some bnd2_some rSliceS_str rBin_add
 rBin_sub rBin_mul rBin_quo rBin_rem rBin_and rBin_or rBin_xor rBin_andNot rBin_eql rBin_neq rBin_lss rBin_leq
 rBin_gtr rBin_geq rBinS_add rBinS_eql rBinS_neq rBinS_lss rBinS_leq rBinS_gtr rBinS_geq rBeq_bool rBeq_ptr rBeq_eptr
 rBeq_nilp rBeq_cons rBeq_ocons rBeq_row rBeq_nils rNeg_int rNot_bool rConv_int rConvS_str rNil_ptr rNil_eptr rNil_gptr
 rNil_pclo rNil_clo rExt_pv rExt_av omap_some map_pv_nil map_pv_cons get0 getS pvs_nil pvs2_some pvs2_none
 pvs2_none' pvs_cons toPV_pv toPV_olist toPV_ptr toPV_row toPV_agg toPV_tup toPV_clo mkAgg_o mkAggO_some mkAggO_none
 mkTup_o mkTupO_some mkTupO_none mkClo_o mkCloO_some mkCloO_none mkCloO_none' cellsA_pv cellsA_agg cellsA_tup cellsA_ptr cellsA_row
 cellsA_olist cellsA_clo cells_agg cells_bool cells_int cells_str cells_nils cells_list cells_nilp cells_nilf cells_clo cells_eptr
 cells_gptr loadB_cells loadO_some rLoad_ptr rLoad_eptr rLoad_gptr loadE_f loadE_t withD_some withV_some mRun_alloc boxD_t
 mRun_box cboxO_some mRun_cbox known_pv known_agg known_tup known_ptr known_row known_olist known_clo mRun_load mRun_store
 rClear_row mRun_clear mRun_bslice mRun_append mRun_mk rMk_nil rStore_ptr storeB_cells storeC_t room_ok updB_nil updB_cons
 cloOf_pv cloOf_av onSomeI nextT_eq nextT_no nextM_eq nextM_no nextC_eq nextC_no callC_eq vcOps_nil vcOps_cons
 wantedV_t wantedV_f wantedV_u vcOps_guard doIf_true doIf_false doIf_false' onSomeE_some onSomeE_none nilE_nil rBeq_nil doOp_t
 doOp_m doOp_call stepT_eq stepT_no stepM_eq stepM_no rowT_0 rowT_1 rowT_2 makesN_load makesN_store makesN_toStr
 makesN_clear makesN_sliceA makesN_alloc makesN_box makesN_cbox makesN_bslice makesN_append makesN_mk vcD_nil vcD_cons vcD_guard doIfD_true
 doIfD_false doIfD_false' doOpD_t mReads_mk mReads_toStr mReads_clear mReads_load mReads_box mReads_cbox mReads_alloc mReads_store mReads_append
 mReads_bslice name_pv name_ptr name_row name_olist keysL_nil keysL_cons doOpD_m doOpD_call clipE_nil clipE_cons clean_nil
 clean_cons consB_t consB_f memN_nil memN_c normK_eq SeqK_norm SeqK_exit SeqK_ret BlockK_norm BlockK_exit BlockK_ret
 vc_skip vc_ops vc_draw doOp_fz vc_seq vc_cond vc_block vc_exit vc_ret onBool_b ifB_t ifB_f
 resE_tmp resE_cell FnK_norm FnK_ret retK_eq retV_1 retV_0 retV_2 cons2_some resVs_nil resVs_cons pureR_eq
 isR_pv isR_olist isRF_some isR_agg isR_row initE_nil initE_cons initEnv_eq RoundA_norm RoundA_exit RoundA_ret pickE_nil
 pickE_cons overE_nil overE_cons pickB_nil pickB_cons overB_nil overB_cons nz_self nz_nils nz_agg nz_tup nz_bool
 nz_int nz_str nzL_nil nzL_cons rMin_min rMax_max toNat_minN toNat_minN' take_minL take_minR map_take map_drop
 omap_none rAppend_eq app_ol appOl_ok app_nil0 app_nil1 app_row appRw_ok appRw_zero elems_nils elems_list elemsChk_t
 elems_olist bsl_f bslD_t bslC_some bslC_none bsl_t0 one_bool one_int one_str one_nils one_list oneA_pv
 oneA_ptr oneA_row oneA_olist oneA_clo rSliceL_list rSliceL_olist onCutH_some onCut_zero onCut_some onElem_ite all_mapF all_tt
 beq_nn loadI_t loadE_t0 isAgg_agg fRun_n fRun_l fzO_some frzV_agg frzV_pv frzV_ol frzV_row frzC_pv
 frzC_ol frzC_row frzL_nil frzL_cons frz2_some frzD_eq names_pv names_ptr names_row names_ol names_agg names_tup
 names_clo names_any namesL_nil namesL_cons namesL_pv namesL_flat namesB_cells namesB_tok namesB_none addN_nil addN_cons addN1_t
 addN1_f geN_nil geN_cons blkNames_nil blkNames_cons reach_0 reach_s envNames_nil envNames_cons rng_0 rng_s normE_nil
 normE_cons norm_eq normO_c normO_n renSto_nil renSto_cons newName_eq idxN_nil idxN_cons ren_pv ren_any ren_ptr
 ren_row ren_ol ren_agg ren_tup ren_clo renP_some renR_some renO_some renL_nil renL_cons renL_pv renL_flat
 renB_cells renB_tok renB_none normA_eq accs_nil accs_slot accs_cell accC_nils accC_row nilAV_l nilAV_r nilBlk_l
 nilBlk_r accC_ol accP_ptr accB_cells accD_nils accD_row accD_ol set0 setS st_eq dNlt_t dNlt_f
 dNle_t dNle_f dNeq_t dNeq_f fillC_t fillA_nil fillA_cons partT_eq RoundX_norm RoundX_exit RoundX_ret avz_self
 avz_pv avz_list avzL_nil avzL_cons envz_nil envz_cons blkz_self blkz_t blkz_f blkz_n avzP_nil avzP_cons
 avzP_self avzP_app avzL_self stoz_nil stoz_cons stz_eq enumB_nil enumB_cons lentAt_nil lentAt_cons outB_nil outB_cons
 noneB_nil noneB_cons gSo_eq gIn_nil gIn_0 gIn_s elemsOf_row all_one_int elemsB_int rSliceL_rowhi toNat_s1 add_sub1
 revK_nil revK_cons keysL_rev rowT_two Nat.zero_add Nat.add_zero List.length_cons List.length_nil List.nil_append List.cons_append List.append_nil List.append_assoc
 List.getElem?_map List.length_map List.map_nil List.map_cons List.take_succ_cons List.take_zero List.drop_succ_cons List.drop_zero List.take_nil List.drop_nil List.all_cons List.all_nil
 Bool.and_true Bool.true_and Bool.and_false Bool.false_and Bool.not_true Bool.not_false decide_true decide_false Bool.not_not Int.natCast_add Int.cast_ofNat_Int Int.toNat_natCast
 Option.some.injEq and_true true_and ge_iff_le Nat.le_refl Nat.zero_le Nat.not_lt_zero and_self
attribute [push_cast high] Int.cast_ofNat_Int
end Go.Ab
set_option linter.unusedVariables false
set_option linter.unusedSimpArgs false
namespace Go.Ab
open Go
def flatC : List AV → List AV
 | [] => []
 | x :: r => x.cells ++ flatC r
theorem flatC_nil : flatC [] = [] := _root_.id rfl
theorem flatC_cons (x : AV) (r : List AV) : flatC (x :: r) = x.cells ++ flatC r := _root_.id rfl
theorem flatC_eq : ∀ l : List AV, l.flatMap AV.cells = flatC l
 | [] => rfl
 | x :: r => by rw [List.flatMap_cons, flatC_eq r]; rfl
section
variable {P : Program} {G : Nat → List PV}
theorem chk_of {b : Bool} (h : b = true) : Chk b := h
theorem bsl_t {e sz len new : Nat} {vs : List AV} (h : Chk (decide (vs.length = len) && decide (len ≤ 9223372036854775807) && vs.all (fun v => v.known && v.cells.length == sz && v.cells.all AV.one))) : rBslice true e sz len new vs = some (.row new sz 0 len, [(new, .cells e true (flatC vs))]) := by
 have h' := h
 simp only [Chk, Bool.and_eq_true, decide_eq_true_eq] at h'
 obtain ⟨⟨h1, h2⟩, h3⟩ := h'
 simp only [rBslice]
 rw [if_pos ⟨h1, h2⟩, if_pos h3, flatC_eq]
theorem pvs_pv : ∀ l : List PV, pvs (l.map .pv) = some l
 | [] => rfl
 | x :: r => by simp [pvs, AV.toPV, pvs_pv r]
end
attribute [push_cast] bsl_t flatC_nil flatC_cons
end Go.Ab
set_option linter.unusedVariables false
set_option linter.unusedSimpArgs false
namespace Go.Ab
open Go
section
variable {α β : Type}
def allU (p : Nat → Bool) : Nat → Bool
 | 0 => true
 | n + 1 => allU p n && p n
theorem allU_iff {p : Nat → Bool} : ∀ {n : Nat}, allU p n = true ↔ ∀ k, k < n → p k = true
 | 0 => by simp [allU]
 | n + 1 => by
   rw [allU, Bool.and_eq_true, allU_iff]
   constructor
   ·rintro ⟨h1, h2⟩ k hk
    rcases Nat.lt_succ_iff_lt_or_eq.1 hk with h | h
    ·exact h1 k h
    ·rw [h]; exact h2
   ·exact fun h => ⟨fun k hk => h k (by omega), h n (by omega)⟩
theorem allU_false {p : Nat → Bool} {k n : Nat} (h : p k = false) (hk : k < n) : allU p n = false := by
 cases ha : allU p n with
 | false => rfl
 | true => rw [allU_iff.1 ha k hk] at h; cases h
theorem drop_at {l : List α} {m : Nat} {x : α} (h : l[m]? = some x) : l.drop m = x :: l.drop (m + 1) := by
 obtain ⟨h1, h2⟩ := List.getElem?_eq_some_iff.1 h
 rw [List.drop_eq_getElem_cons h1, h2]
theorem drop_end {l : List α} {m : Nat} (h : ¬ m < l.length) : l.drop m = [] := List.drop_eq_nil_of_le (by omega)
theorem take_end {l : List α} {m : Nat} (h : ¬ m < l.length) : l.take m = l := List.take_of_length_le (by omega)
theorem find_hit {l : List α} {m : Nat} {x : α} {p : α → Bool} (h : l[m]? = some x) (hp : p x = true) : (l.drop m).find? p = some x := by
 rw [drop_at h, List.find?_cons, hp]
theorem find_miss {l : List α} {m : Nat} {x : α} {p : α → Bool} (h : l[m]? = some x) (hp : p x = false) : (l.drop m).find? p = (l.drop (m + 1)).find? p := by
 rw [drop_at h, List.find?_cons, hp]
theorem find_end {l : List α} {m : Nat} {p : α → Bool} (h : ¬ m < l.length) : (l.drop m).find? p = none := by rw [drop_end h]; rfl
theorem any_hit {l : List α} {m : Nat} {x : α} {p : α → Bool} (h : l[m]? = some x) (hp : p x = true) : (l.drop m).any p = true := by
 rw [drop_at h, List.any_cons, hp]; rfl
theorem any_miss {l : List α} {m : Nat} {x : α} {p : α → Bool} (h : l[m]? = some x) (hp : p x = false) : (l.drop m).any p = (l.drop (m + 1)).any p := by
 rw [drop_at h, List.any_cons, hp]; rfl
theorem any_end {l : List α} {m : Nat} {p : α → Bool} (h : ¬ m < l.length) : (l.drop m).any p = false := by rw [drop_end h]; rfl
def fstI (p : α → Bool) : List α → Nat → Int
 | [], _ => -1
 | x :: r, m => if p x = true then (m : Int) else fstI p r (m + 1)
theorem fst_hit {l : List α} {m : Nat} {x : α} {p : α → Bool} (h : l[m]? = some x) (hp : p x = true) : fstI p (l.drop m) m = m := by
 rw [drop_at h, fstI, if_pos hp]
theorem fst_miss {l : List α} {m : Nat} {x : α} {p : α → Bool} (h : l[m]? = some x) (hp : p x = false) : fstI p (l.drop m) m = fstI p (l.drop (m + 1)) (m + 1) := by
 rw [drop_at h, fstI, if_neg (by rw [hp]; simp)]
theorem fst_end {l : List α} {m : Nat} {p : α → Bool} (h : ¬ m < l.length) : fstI p (l.drop m) m = -1 := by rw [drop_end h]; rfl
theorem fst_find {p : α → Bool} : ∀ (l : List α) (m : Nat), (l.find? p = none ∧ fstI p l m = -1) ∨ ∃ (k : Nat) (x : α), l[k]? = some x ∧ l.find? p = some x ∧ fstI p l m = ((m + k : Nat) : Int)
 | [], m => .inl ⟨rfl, rfl⟩
 | x :: r, m => by
   cases hx : p x with
   | true => exact .inr ⟨0, x, rfl, by rw [List.find?_cons, hx], by rw [fstI, if_pos hx]; rfl⟩
   | false =>
     rw [List.find?_cons, hx, fstI, if_neg (by rw [hx]; simp)]
     rcases fst_find r (m + 1) with ⟨h1, h2⟩ | ⟨k, y, h1, h2, h3⟩
     ·exact .inl ⟨h1, h2⟩
     ·exact .inr ⟨k + 1, y, by simpa using h1, h2, by rw [h3]; congr 1; omega⟩
theorem find_any {p : α → Bool} (l : List α) : (l.find? p).isSome = l.any p := by
 induction l with
 | nil => rfl
 | cons x r ih => rw [List.find?_cons, List.any_cons]; cases p x <;> simp [ih]
def onU8 : Option (List UInt8) → Option AV
 | some l => some (.pv (.str l))
 | none => none
def consU8 (n : Int) : Option (List UInt8) → Option (List UInt8)
 | some l => some (UInt8.ofNat n.toNat :: l)
 | none => none
theorem onU8_some (l : List UInt8) : onU8 (some l) = some (.pv (.str l)) := _root_.id rfl
theorem consU8_some (n : Int) (l : List UInt8) : consU8 n (some l) = some (UInt8.ofNat n.toNat :: l) := _root_.id rfl
theorem u8s_nil : u8s [] = some [] := _root_.id rfl
theorem u8s_cons (n : Int) (r : List PV) : u8s (.int .u8 n :: r) = consU8 n (u8s r) := by
 simp only [u8s]; cases u8s r <;> rfl
theorem u8s_bytes : ∀ l : List UInt8, u8s (l.map fun b => PV.int .u8 (b.toNat : Int)) = some l
 | [] => rfl
 | b :: r => by rw [List.map_cons, u8s_cons, u8s_bytes r, consU8_some]; simp
theorem toStr_ol (σ : Store) (r : Nat) (l : List PV) : rToStr σ (.olist r 1 l) = onU8 (u8s l) := by
 simp only [rToStr, elemsOf, if_true]; cases u8s l <;> rfl
theorem toStr_nils (σ : Store) : rToStr σ (.pv .nils) = some (.pv (.str [])) := _root_.id rfl
theorem toStr_pv (σ : Store) (l : List PV) : rToStr σ (.pv (.list l)) = onU8 (u8s l) := by
 simp only [rToStr, elemsOf]
 cases h : u8s l with
 | none => by_cases hh : (l.all (fun y => y.cells.length == 1)) = true <;> simp [hh, h, onU8]
 | some s =>
   obtain ⟨ns, rfl, rfl⟩ := u8s_ints h
   rw [if_pos (by simp [PV.cells])]
   simp [h, onU8]
end
theorem mRun_toStr (G : Nat → List PV) (e : List (Nat × AV)) (σ : List (Nat × Blk)) (new : Nat) (x : AX) : mRun G e σ new (.toStr x) = withD [] (rToStr (fun r => lookB r σ) (evE e x)) := by
 simp only [mRun]; cases rToStr (fun r => lookB r σ) (evE e x) <;> rfl
theorem tdiv_n {a b : Int} (h : 0 ≤ a) : a.tdiv b = a / b := Int.tdiv_eq_ediv_of_nonneg h
theorem tmod_n {a b : Int} (h : 0 ≤ a) : a.tmod b = a % b := Int.tmod_eq_emod_of_nonneg h
def byteO : Option UInt8 → Option AV
 | some b => some (.pv (.int .u8 (b.toNat : Int)))
 | none => none
theorem byteO_some (b : UInt8) : byteO (some b) = some (.pv (.int .u8 (b.toNat : Int))) := _root_.id rfl
theorem rIndex_nat (l : List UInt8) (k : IntKind) (i : Nat) : rIndex (.pv (.str l)) (.pv (.int k (i : Int))) = byteO l[i]? := by
 simp only [rIndex, Int.toNat_natCast]
 rw [if_pos (by omega)]
 cases l[i]? <;> rfl
theorem rIndex_zero (l : List UInt8) (k : IntKind) : rIndex (.pv (.str l)) (.pv (.int k 0)) = byteO l[0]? := rIndex_nat l k 0
theorem rIndex_succ (l : List UInt8) (k : IntKind) (i : Nat) : rIndex (.pv (.str l)) (.pv (.int k ((i : Int) + 1))) = byteO l[i + 1]? := rIndex_nat l k (i + 1)
attribute [push_cast] byteO_some rIndex_nat rIndex_zero rIndex_succ mRun_toStr tdiv_n tmod_n onU8_some consU8_some u8s_nil u8s_cons u8s_bytes toStr_ol toStr_nils toStr_pv
end Go.Ab
set_option linter.unusedVariables false
set_option linter.unusedSimpArgs false
namespace Go.Ab
open Go Go.RowKit Go.Sort
theorem pure_of_calls {P : Program} {G : Nat → List PV} {f : Nat} {args : List PV} {r : PV} (hc : Callable P f = true)
  (h : ∀ (w : World) (imm : Nat → Nat → Prop) (vals : Array Value), GlobOk G w imm → vals.size = args.length → (∀ (i : Nat) (x : PV), args[i]? = some x → PRel w imm x (vals.getD i Go.undef)) →
   Calls P f vals w fun e w' => ∃ u, e = .returned u ∧ Below w.heap.size w w' ∧ PRel w' imm r u) : Pure P G f args r := by
 refine ⟨hc, fun w imm vals hG hlt hsz hargs => (h w imm vals hG hsz hargs).mono ?_⟩
 rintro e w' ⟨u, rfl, hb, hr⟩
 exact ⟨u, imm, rfl, hb, fun _ _ h => h, fun _ _ h => .inl h, fun b o h => Nat.lt_of_lt_of_le (hlt b o h) hb.size, hr⟩
theorem str_toArray {w : World} {imm : Nat → Nat → Prop} {l : List UInt8} (h : l.length ≤ maxLen) : PRel w imm (.str l) (.string ⟨l.toArray⟩) := by
 have := PRel.str (w := w) (imm := imm) ⟨l.toArray⟩ (by show l.toArray.size ≤ maxLen; simpa using h)
 simpa using this
theorem str_val {w : World} {imm : Nat → Nat → Prop} {l : List UInt8} {v : Value} (h : PRel w imm (.str l) v) : v = .string ⟨l.toArray⟩ ∧ l.length ≤ maxLen := by
 cases h with
 | str s hs => exact ⟨by simp, hs⟩
theorem vals_1 {vals : Array Value} (h : vals.size = 1) : vals = #[vals.getD 0 Go.undef] := by
 apply Array.ext
 ·simp [h]
 ·intro i h1 h2
  have : i = 0 := by omega
  subst this
  simp [Array.getD_eq_getD_getElem?, h]
theorem vals_2 {vals : Array Value} (h : vals.size = 2) : vals = #[vals.getD 0 Go.undef, vals.getD 1 Go.undef] := by
 apply Array.ext
 ·simp [h]
 ·intro i h1 h2
  have : i = 0 ∨ i = 1 := by omega
  rcases this with rfl | rfl <;> simp [Array.getD_eq_getD_getElem?, h]
def digits : Nat → Nat → List UInt8
 | 0, _ => []
 | n + 1, k => if k < 10 then [UInt8.ofNat (48 + k)] else digits n (k / 10) ++ [UInt8.ofNat (48 + k % 10)]
def itoaT (n : Int) : List UInt8 := if n < 0 then 45 :: digits 20 n.natAbs else digits 20 n.toNat
theorem digits_eq : ∀ (f k : Nat), k < 10 ^ f → 0 < f → digits f k = Lib.decDigits k
 | 0, k, _, h => absurd h (by simp)
 | f + 1, k, hk, _ => by
   rw [digits, Lib.decDigits]
   by_cases h : k < 10
   ·simp [h]
   ·rw [if_neg h, dif_neg h]
    have h10 : k / 10 < 10 ^ f := by
     rw [Nat.pow_succ] at hk
     exact Nat.div_lt_of_lt_mul (by rw [Nat.mul_comm]; exact hk)
    rw [digits_eq f (k / 10) h10 (by
     rcases Nat.eq_zero_or_pos f with h0 | h0
     ·subst h0
      simp at hk
      omega
     ·exact h0)]
theorem digits_len : ∀ (f k : Nat), (digits f k).length ≤ f
 | 0, k => by simp [digits]
 | f + 1, k => by
   rw [digits]
   split
   ·simp
   ·have := digits_len f (k / 10)
    simp; omega
theorem itoaT_eq {n : Int} (h0 : -9223372036854775808 ≤ n) (h1 : n ≤ 9223372036854775807) : itoaT n = Lib.itoa n := by
 have e : (10 : Nat) ^ 20 = 100000000000000000000 := by decide
 unfold itoaT Lib.itoa
 split
 ·rw [digits_eq 20 n.natAbs (by rw [e]; omega) (by decide)]
 ·rw [digits_eq 20 n.toNat (by rw [e]; omega) (by decide)]
theorem itoaT_len (n : Int) : (itoaT n).length ≤ 21 := by
 unfold itoaT
 split
 ·have := digits_len 20 n.natAbs
  simp; omega
 ·have := digits_len 20 n.toNat
  omega
theorem tabIs_of {P : Program} {G : Nat → List PV} {w : World} {imm : Nat → Nat → Prop} {name : String} {k : IntKind} {zs : List Int} {g : Nat} (hn : P.globalNamed name = some g) (hG : G g = zs.map (PV.int k)) (hz : zs ≠ []) (h : GlobOk G w imm) :
  Lib.TabIs P w name k zs := by
 obtain ⟨cs, T, fz, h1, h2⟩ := h.2 g (by rw [hG]; simpa using hz)
 have hcs : cs = (zs.map fun z => Value.int k z).toArray := by
  rw [hG] at h2
  simp only [List.length_map] at h2
  apply Array.ext
  ·simp [h2]
  ·intro i hi hi'
   have hiz : i < zs.length := by omega
   obtain ⟨_, v, h3, _, h4⟩ := h.1 g i (.int k zs[i]) (by rw [hG]; simp [hiz])
   have hv : v = .int k zs[i] := by cases h4; rfl
   have hc := cell_of_row w g i cs T fz h1
   rw [h3, hv] at hc
   have := (Array.getElem?_eq_some_iff.1 hc.symm).2
   simp [this]
 unfold Lib.TabIs World.var?
 rw [hn]
 simp only [Option.bind_some, h1]
 rw [hcs]
theorem itoa_pure {P : Program} {G : Nat → List PV} {f g : Nat} {name : String} (hc : Callable P f = true) (hn : P.globalNamed name = some g) (hG : G g = Lib.pow10Tab.map (PV.int .u64))
  (h : ∀ (n : Int) (h0 : -9223372036854775808 ≤ n) (h1 : n ≤ 9223372036854775807) (w : World) (htab : Lib.TabIs P w name .u64 Lib.pow10Tab),
   Calls P f #[.int .i64 n] w fun e w' => e = .returned (.string ⟨(Lib.itoa n).toArray⟩) ∧ ∃ k os, w' = Sort.grow (w.drewN k) os)
  (n : Int) (h0 : -9223372036854775808 ≤ n) (h1 : n ≤ 9223372036854775807) : Pure P G f [.int .i64 n] (.str (itoaT n)) := by
 refine pure_of_calls hc fun w imm vals hGl hsz hargs => ?_
 have hv := vals_1 hsz
 have h2 := hargs 0 (.int .i64 n) rfl
 have h3 : vals.getD 0 Go.undef = .int .i64 n := by
  generalize vals.getD 0 Go.undef = x at h2
  cases h2; rfl
 rw [hv, h3]
 refine (h n h0 h1 w (tabIs_of hn hG (by
  intro e
  have := congrArg List.length e
  rw [Lib.pow10Tab_length] at this
  simp at this) hGl)).mono ?_
 rintro e w' ⟨rfl, k, os, rfl⟩
 refine ⟨_, rfl, Lib.below_grow _ w (Nat.le_refl _) k os, ?_⟩
 rw [itoaT_eq h0 h1, ← itoaT_eq h0 h1]
 refine str_toArray ?_
 have := itoaT_len n
 unfold maxLen; omega
theorem compare_pure {P : Program} {G : Nat → List PV} {f : Nat} (hc : Callable P f = true)
  (h : ∀ (a b : ByteArray) (w : World), Calls P f #[.string a, .string b] w fun e w' => e = .returned (.int .i64 (Lib.compareBytes a.data.toList b.data.toList)) ∧ w' = w) (a b : List UInt8) :
  Pure P G f [.str a, .str b] (.int .i64 (Lib.compareBytes a b)) := by
 refine pure_of_calls hc fun w imm vals hGl hsz hargs => ?_
 have hv := vals_2 hsz
 obtain ⟨ha, _⟩ := str_val (hargs 0 (.str a) rfl)
 obtain ⟨hb, _⟩ := str_val (hargs 1 (.str b) rfl)
 rw [hv, ha, hb]
 refine (h _ _ w).mono ?_
 rintro e w' ⟨rfl, rfl⟩
 refine ⟨_, rfl, Below.refl _ _, ?_⟩
 simpa using PRel.int (w := w') (imm := imm) .i64 (Lib.compareBytes a b)
end Go.Ab
set_option linter.unusedVariables false
set_option linter.unusedSimpArgs false
namespace Go.Ab
open Go
def encP (p : Nat) : List UInt8 :=
 if p < 128 then [UInt8.ofNat p]
 else if p < 2048 then [UInt8.ofNat (192 + p / 64), UInt8.ofNat (128 + p % 64)]
 else if p < 65536 then [UInt8.ofNat (224 + p / 4096), UInt8.ofNat (128 + p / 64 % 64), UInt8.ofNat (128 + p % 64)]
 else [UInt8.ofNat (240 + p / 262144), UInt8.ofNat (128 + p / 4096 % 64), UInt8.ofNat (128 + p / 64 % 64), UInt8.ofNat (128 + p % 64)]
def ptOk (p : Nat) : Bool := decide (p ≤ 1114111) && (decide (p < 55296) || decide (57343 < p))
def decP (l : List UInt8) : Nat × Nat :=
 if l = [] then (0, 0) else if Lib.decodeL l = (65533, 1) then (0, 0) else Lib.decodeL l
def byN (l : List UInt8) (i : Nat) : Nat := (l.getD i 0).toNat
theorem byN_at {l : List UInt8} {i : Nat} {b : UInt8} (h : l[i]? = some b) : byN l i = b.toNat := by
 rw [byN, List.getD_eq_getElem?_getD, h]; rfl
theorem byN_lt (l : List UInt8) (i : Nat) : byN l i < 256 := UInt8.toNat_lt _
theorem u8_eq {n : Nat} {b : UInt8} (h : n < 256) : UInt8.ofNat n = b ↔ n = b.toNat := by
 constructor
 ·rintro rfl; simp [UInt8.toNat_ofNat', Nat.mod_eq_of_lt h]
 ·rintro rfl; exact UInt8.ofNat_toNat
def fixD (p : Nat × Nat) : Nat × Nat := if p = (65533, 1) then (0, 0) else p
theorem fix_bad : fixD (65533, 1) = (0, 0) := rfl
theorem fix_w {p n : Nat} (h : n ≠ 1) : fixD (p, n) = (p, n) := if_neg (by simp [h])
theorem decP_N {l : List UInt8} (h : l ≠ []) : decP l = fixD (Lib.decodeN l.length (byN l 0) (byN l 1) (byN l 2) (byN l 3)) := by
 rw [decP, if_neg h, Lib.decodeL_N]; rfl
theorem dec_1 {l : List UInt8} (h : l ≠ []) (h0 : byN l 0 < 128) : decP l = (byN l 0, 1) := by
 rw [decP_N h, Lib.decodeN, if_pos h0]
 exact if_neg (by simp; omega)
theorem dec_bad {l : List UInt8} (h : l ≠ []) (h0 : (128 ≤ byN l 0 ∧ byN l 0 < 192) ∨ 248 ≤ byN l 0) : decP l = (0, 0) := by
 have hlt := byN_lt l 0
 rw [decP_N h, Lib.decodeN, if_neg (by omega), if_neg (by omega), if_neg (by omega), if_neg (by omega), fix_bad]
theorem dec_2 {l : List UInt8} (h : l ≠ []) (h0 : 192 ≤ byN l 0 ∧ byN l 0 < 224) :
  decP l = if 1 < l.length ∧ (128 ≤ byN l 1 ∧ byN l 1 < 192) ∧ 128 ≤ 64 * (byN l 0 - 192) + (byN l 1 - 128) then (64 * (byN l 0 - 192) + (byN l 1 - 128), 2) else (0, 0) := by
 have hlt := byN_lt l 1
 rw [decP_N h]
 generalize byN l 0 = b0 at *
 generalize byN l 1 = b1 at *
 generalize byN l 2 = b2 at *
 generalize byN l 3 = b3 at *
 unfold Lib.decodeN
 rw [if_neg (by omega)]
 by_cases hc : 1 < l.length ∧ b1 / 64 = 2
 ·rw [if_pos ⟨by omega, hc⟩]
  by_cases hp : b0 % 32 * 64 + b1 % 64 ≥ 128
  ·rw [if_pos hp, fix_w (by omega), if_pos ⟨hc.1, by omega, by omega⟩]
   exact Prod.ext (by simp only; omega) rfl
  ·rw [if_neg hp, fix_bad, if_neg (by omega)]
 ·rw [if_neg (by omega), if_neg (by omega), if_neg (by omega), fix_bad, if_neg (by omega)]
theorem dec_3 {l : List UInt8} (h : l ≠ []) (h0 : 224 ≤ byN l 0 ∧ byN l 0 < 240) :
  decP l = if 2 < l.length ∧ (128 ≤ byN l 1 ∧ byN l 1 < 192) ∧ (128 ≤ byN l 2 ∧ byN l 2 < 192) ∧ (2048 ≤ 4096 * (byN l 0 - 224) + 64 * (byN l 1 - 128) + (byN l 2 - 128) ∧ (4096 * (byN l 0 - 224) + 64 * (byN l 1 - 128) + (byN l 2 - 128) < 55296 ∨ 57343 < 4096 * (byN l 0 - 224) + 64 * (byN l 1 - 128) + (byN l 2 - 128)))
   then (4096 * (byN l 0 - 224) + 64 * (byN l 1 - 128) + (byN l 2 - 128), 3) else (0, 0) := by
 have hlt := byN_lt l 1
 have hlt2 := byN_lt l 2
 rw [decP_N h]
 generalize byN l 0 = b0 at *
 generalize byN l 1 = b1 at *
 generalize byN l 2 = b2 at *
 generalize byN l 3 = b3 at *
 unfold Lib.decodeN
 rw [if_neg (by omega), if_neg (by omega)]
 by_cases hc : (1 < l.length ∧ b1 / 64 = 2) ∧ (2 < l.length ∧ b2 / 64 = 2)
 ·rw [if_pos ⟨by omega, hc⟩]
  have e : b0 % 16 * 4096 + b1 % 64 * 64 + b2 % 64 = 4096 * (b0 - 224) + 64 * (b1 - 128) + (b2 - 128) := by omega
  rw [e]
  have hp0 : 4096 * (b0 - 224) + 64 * (b1 - 128) + (b2 - 128) ≤ 65535 := by omega
  generalize 4096 * (b0 - 224) + 64 * (b1 - 128) + (b2 - 128) = p at *
  by_cases hp : p ≥ 2048 ∧ (p < 55296 ∨ (57344 ≤ p ∧ p ≤ 1114111))
  ·rw [if_pos hp, fix_w (by omega), if_pos ⟨hc.2.1, by omega, by omega, by omega⟩]
  ·rw [if_neg hp, fix_bad, if_neg]
   rintro ⟨_, _, _, h4, h5⟩
   omega
 ·rw [if_neg (by omega), if_neg (by omega), fix_bad, if_neg (by omega)]
theorem dec_4 {l : List UInt8} (h : l ≠ []) (h0 : 240 ≤ byN l 0 ∧ byN l 0 < 248) :
  decP l = if 3 < l.length ∧ (128 ≤ byN l 1 ∧ byN l 1 < 192) ∧ (128 ≤ byN l 2 ∧ byN l 2 < 192) ∧ (128 ≤ byN l 3 ∧ byN l 3 < 192) ∧
    (65536 ≤ 262144 * (byN l 0 - 240) + 4096 * (byN l 1 - 128) + 64 * (byN l 2 - 128) + (byN l 3 - 128) ∧ 262144 * (byN l 0 - 240) + 4096 * (byN l 1 - 128) + 64 * (byN l 2 - 128) + (byN l 3 - 128) ≤ 1114111)
   then (262144 * (byN l 0 - 240) + 4096 * (byN l 1 - 128) + 64 * (byN l 2 - 128) + (byN l 3 - 128), 4) else (0, 0) := by
 have hlt := byN_lt l 1
 have hlt2 := byN_lt l 2
 have hlt3 := byN_lt l 3
 rw [decP_N h]
 generalize byN l 0 = b0 at *
 generalize byN l 1 = b1 at *
 generalize byN l 2 = b2 at *
 generalize byN l 3 = b3 at *
 unfold Lib.decodeN
 rw [if_neg (by omega), if_neg (by omega), if_neg (by omega)]
 by_cases hc : (1 < l.length ∧ b1 / 64 = 2) ∧ (2 < l.length ∧ b2 / 64 = 2) ∧ (3 < l.length ∧ b3 / 64 = 2)
 ·rw [if_pos ⟨by omega, hc⟩]
  have e : b0 % 8 * 262144 + b1 % 64 * 4096 + b2 % 64 * 64 + b3 % 64 = 262144 * (b0 - 240) + 4096 * (b1 - 128) + 64 * (b2 - 128) + (b3 - 128) := by omega
  rw [e]
  generalize 262144 * (b0 - 240) + 4096 * (b1 - 128) + 64 * (b2 - 128) + (b3 - 128) = p at *
  by_cases hp : p ≥ 65536 ∧ (p < 55296 ∨ (57344 ≤ p ∧ p ≤ 1114111))
  ·rw [if_pos hp, fix_w (by omega), if_pos ⟨hc.2.2.1, by omega, by omega, by omega, by omega⟩]
  ·rw [if_neg hp, fix_bad, if_neg]
   rintro ⟨_, _, _, _, h4, h5⟩
   omega
 ·rw [if_neg (by omega), fix_bad, if_neg (by omega)]
theorem take_2 {l : List UInt8} {a b : UInt8} (h0 : l[0]? = some a) (h1 : l[1]? = some b) : l.take 2 = [a, b] := by
 rw [take_snoc h1, take_snoc h0]; rfl
theorem take_3 {l : List UInt8} {a b c : UInt8} (h0 : l[0]? = some a) (h1 : l[1]? = some b) (h2 : l[2]? = some c) : l.take 3 = [a, b, c] := by
 rw [take_snoc h2, take_2 h0 h1]; rfl
theorem take_4 {l : List UInt8} {a b c d : UInt8} (h0 : l[0]? = some a) (h1 : l[1]? = some b) (h2 : l[2]? = some c) (h3 : l[3]? = some d) : l.take 4 = [a, b, c, d] := by
 rw [take_snoc h3, take_3 h0 h1 h2]; rfl
theorem enc_2 {a b : UInt8} (h0 : 192 ≤ a.toNat ∧ a.toNat < 224) (h1 : 128 ≤ b.toNat ∧ b.toNat < 192) : encP (64 * (a.toNat - 192) + (b.toNat - 128)) = [a, b] ↔ 128 ≤ 64 * (a.toNat - 192) + (b.toNat - 128) := by
 unfold encP
 generalize hp : 64 * (a.toNat - 192) + (b.toNat - 128) = p
 by_cases h : p < 128
 ·rw [if_pos h]
  constructor
  ·intro e; simp at e
  ·intro; omega
 ·rw [if_neg h, if_pos (by omega)]
  simp only [List.cons.injEq, and_true]
  rw [u8_eq (by omega), u8_eq (by omega)]
  omega
theorem enc_3 {a b c : UInt8} (h0 : 224 ≤ a.toNat ∧ a.toNat < 240) (h1 : 128 ≤ b.toNat ∧ b.toNat < 192) (h2 : 128 ≤ c.toNat ∧ c.toNat < 192) :
  encP (4096 * (a.toNat - 224) + 64 * (b.toNat - 128) + (c.toNat - 128)) = [a, b, c] ↔ 2048 ≤ 4096 * (a.toNat - 224) + 64 * (b.toNat - 128) + (c.toNat - 128) := by
 unfold encP
 generalize hp : 4096 * (a.toNat - 224) + 64 * (b.toNat - 128) + (c.toNat - 128) = p
 by_cases h : p < 128
 ·rw [if_pos h]
  constructor
  ·intro e; simp at e
  ·intro; omega
 ·rw [if_neg h]
  by_cases h' : p < 2048
  ·rw [if_pos h']
   constructor
   ·intro e; simp at e
   ·intro; omega
  ·rw [if_neg h', if_pos (by omega)]
   simp only [List.cons.injEq, and_true]
   rw [u8_eq (by omega), u8_eq (by omega), u8_eq (by omega)]
   omega
theorem enc_4 {a b c d : UInt8} (h0 : 240 ≤ a.toNat ∧ a.toNat < 248) (h1 : 128 ≤ b.toNat ∧ b.toNat < 192) (h2 : 128 ≤ c.toNat ∧ c.toNat < 192) (h3 : 128 ≤ d.toNat ∧ d.toNat < 192)
  (hm : 262144 * (a.toNat - 240) + 4096 * (b.toNat - 128) + 64 * (c.toNat - 128) + (d.toNat - 128) ≤ 1114111) :
  encP (262144 * (a.toNat - 240) + 4096 * (b.toNat - 128) + 64 * (c.toNat - 128) + (d.toNat - 128)) = [a, b, c, d] ↔ 65536 ≤ 262144 * (a.toNat - 240) + 4096 * (b.toNat - 128) + 64 * (c.toNat - 128) + (d.toNat - 128) := by
 unfold encP
 generalize hp : 262144 * (a.toNat - 240) + 4096 * (b.toNat - 128) + 64 * (c.toNat - 128) + (d.toNat - 128) = p at *
 by_cases h : p < 128
 ·rw [if_pos h]
  constructor
  ·intro e; simp at e
  ·intro; omega
 ·rw [if_neg h]
  by_cases h' : p < 2048
  ·rw [if_pos h']
   constructor
   ·intro e; simp at e
   ·intro; omega
  ·rw [if_neg h']
   by_cases h'' : p < 65536
   ·rw [if_pos h'']
    constructor
    ·intro e; simp at e
    ·intro; omega
   ·rw [if_neg h'']
    simp only [List.cons.injEq, and_true]
    rw [u8_eq (by omega), u8_eq (by omega), u8_eq (by omega), u8_eq (by omega)]
    omega
theorem valid_step {l : List UInt8} (h : l ≠ []) : Lib.validD l = if (decP l).2 = 0 then false else Lib.validD (l.drop (decP l).2) := by
 rw [Lib.validD_step l h, decP, if_neg h]
 have hw := Lib.decodeL_width l
 by_cases hb : Lib.decodeL l = (65533, 1)
 ·rw [if_pos hb, if_pos (by rw [hb]; simp), if_pos rfl]
 ·rw [if_neg hb, if_neg (fun hh => hb (Prod.ext hh.1 hh.2)), if_neg (by omega)]
theorem dec_le (l : List UInt8) : (decP l).2 ≤ l.length := by
 unfold decP
 split
 ·simp
 ·split
  ·simp
  ·exact Lib.decodeL_le l ‹_›
end Go.Ab
set_option linter.unusedVariables false
set_option linter.unusedSimpArgs false
namespace Go.Ab
open Go
section
variable {P : Program} {G : Nat → List PV}
end
def capB (sz s off : Nat) : Blk → Option AV
 | .cells _ f l => if f = true ∧ s = sz ∧ 0 < sz ∧ off = 0 then some (.pv (.int .i64 ((l.length / sz : Nat) : Int))) else none
 | _ => none
theorem rCap_row (sz : Nat) (σ : Store) (r s off len : Nat) : rCap sz σ (.row r s off len) = capB sz s off (σ r) := by
 simp only [rCap, capB]; cases σ r <;> rfl
def reslB (sz r s off : Nat) (h : Int) : Blk → Option AV
 | .cells _ f l => if f = true ∧ s = sz ∧ 0 < sz ∧ off = 0 ∧ 0 ≤ h ∧ h.toNat * sz ≤ l.length then some (.row r sz 0 h.toNat) else none
 | _ => none
theorem rResl_row (sz : Nat) (σ : Store) (r s off len : Nat) (k : IntKind) (h : Int) : rResl sz σ (.row r s off len) (.pv (.int k h)) = reslB sz r s off h (σ r) := by
 simp only [rResl, reslB]; cases σ r <;> rfl
def srcB (sz s off len : Nat) : Blk → Option (Nat × List AV)
 | .cells _ _ l => if s = sz ∧ off + len * sz ≤ l.length then some (len, (l.drop off).take (len * sz)) else none
 | _ => none
theorem srcC_row (sz : Nat) (σ : Store) (r s off len : Nat) : srcC sz σ (.row r s off len) = srcB sz s off len (σ r) := by
 cases hh : σ r <;> simp [srcC, srcB, hh]
theorem srcC_ol (sz r : Nat) (σ : Store) (l : List PV) : srcC sz σ (.olist r sz l) = some (l.length, flat l) := by
 simp [srcC, elemsOf]
def copyR (sz r s off len : Nat) : Blk → Option (Nat × List AV) → Option (AV × List (Nat × Blk))
 | .cells T f l, o => if s = sz then o.bind (copyB sz r off len T f l) else none
 | _, _ => none
theorem rCopy_row (sz : Nat) (σ : Store) (r s off len : Nat) (y : AV) : rCopy sz σ (.row r s off len) y = copyR sz r s off len (σ r) (srcC sz σ y) := by
 simp only [rCopy, copyR]; cases σ r <;> rfl
def apartB (r q : Nat) (k : List PV) : Blk → Blk → Option AV
 | .tok _ _, .cells _ f l => if r ≠ q ∧ f = true ∧ 0 < l.length ∧ 0 < k.length then some (.pv (.bool false)) else none
 | _, _ => none
theorem rApart_row (σ : Store) (r s q sz off len : Nat) (k : List PV) : rApart σ (.olist r s k) (.row q sz off len) = apartB r q k (σ r) (σ q) := by
 simp only [rApart, apartB]; cases σ r <;> cases σ q <;> rfl
def appzB (e sz by_ : Nat) (zs : List PV) (new s off len : Nat) (k : Int) : Blk → Option (AV × List (Nat × Blk))
 | .cells _ f l => if f = true ∧ s = sz ∧ 0 < sz ∧ off = 0 ∧ 0 < k ∧ l.length < (len + k.toNat) * sz ∧ zs.length = sz ∧ zs.all PV.one = true ∧ room len k.toNat by_ = true then
    some (.row new sz 0 (len + k.toNat), [(new, .cells e false (l.take (len * sz) ++ (List.replicate k.toNat zs).flatten.map .pv))]) else none
 | _ => none
theorem rAppz_row (e sz by_ : Nat) (zs : List PV) (new : Nat) (σ : Store) (r s off len : Nat) (kd : IntKind) (k : Int) : rAppz e sz by_ zs new σ (.row r s off len) (.pv (.int kd k)) = appzB e sz by_ zs new s off len k (σ r) := by
 simp only [rAppz, appzB]; cases σ r <;> rfl
theorem app_nilT {e sz by_ new : Nat} {σ : Store} {y : PV} {r : List PV} (h1 : r.length + 1 ≤ 9223372036854775807) (h2 : (r.length + 1) * by_ ≤ 140737488355328) : appRow true e sz by_ new σ (.pv .nils) (some (y :: r)) = some (.row new sz 0 (r.length + 1), [(new, .cells e false (flat (y :: r)))]) := by
 simp only [appRow]; rw [if_pos (room_ok (by omega) (by simpa using h2))]
section
variable (e : List (Nat × AV)) (σ : List (Nat × Blk)) (new : Nat)
theorem mRun_x (G : Nat → List PV) (o : XOp) : mRun G e σ new (.xop o) = xRun e σ new o := _root_.id rfl
theorem xRun_cap (sz : Nat) (x : AX) : xRun e σ new (.cap sz x) = withD [] (rCap sz (fun r => lookB r σ) (evE e x)) := by
 simp only [xRun, withD]; cases rCap sz (fun r => lookB r σ) (evE e x) <;> rfl
theorem xRun_resl (sz : Nat) (x h : AX) : xRun e σ new (.resl sz x h) = withD [] (rResl sz (fun r => lookB r σ) (evE e x) (evE e h)) := by
 simp only [xRun, withD]; cases rResl sz (fun r => lookB r σ) (evE e x) (evE e h) <;> rfl
theorem xRun_copy (sz : Nat) (x y : AX) : xRun e σ new (.copy sz x y) = rCopy sz (fun r => lookB r σ) (evE e x) (evE e y) := _root_.id rfl
theorem xRun_apart (x y : AX) : xRun e σ new (.apart x y) = withD [] (rApart (fun r => lookB r σ) (evE e x) (evE e y)) := by
 simp only [xRun, withD]; cases rApart (fun r => lookB r σ) (evE e x) (evE e y) <;> rfl
theorem xRun_appz (t sz by_ : Nat) (zs : List PV) (x k : AX) : xRun e σ new (.appz t sz by_ zs x k) = rAppz t sz by_ zs new (fun r => lookB r σ) (evE e x) (evE e k) := _root_.id rfl
theorem mReads_x (o : XOp) : mReads e (.xop o) = xReads e o := _root_.id rfl
theorem xReads_copy (sz : Nat) (x y : AX) : xReads e (.copy sz x y) = (evE e x).name ++ (evE e y).name := _root_.id rfl
theorem makesN_copy (sz : Nat) (x y : AX) : makesN (.xop (.copy sz x y)) = 0 := _root_.id rfl
end
attribute [push_cast] app_nilT rCap_row rResl_row srcC_ol srcC_row rCopy_row rApart_row rAppz_row mRun_x xRun_cap xRun_resl xRun_copy xRun_apart xRun_appz mReads_x xReads_copy makesN_copy
end Go.Ab
set_option linter.unusedVariables false
set_option linter.unusedSimpArgs false
namespace Go.Ab
open Go
section
variable {e : List (Nat × AV)} {σ : List (Nat × Blk)} {new : Nat}
theorem bytesP_length (l : List UInt8) : (bytesP l).length = l.length := by simp [bytesP]
theorem flat_bytes (l : List UInt8) : flat (bytesP l) = (bytesP l).map .pv := by
 unfold flat
 congr 1
 induction l with
 | nil => rfl
 | cons b r ih => simp only [bytesP, List.map_cons, List.flatMap_cons, PV.cells] at ih ⊢; rw [ih]; rfl
theorem bytesP_append (l k : List UInt8) : bytesP (l ++ k) = bytesP l ++ bytesP k := by simp [bytesP]
theorem avz_anyR (x : AV) : AVz x .any = True := eq_true (.any x)
theorem xRun_noesc (x : AX) : xRun e σ new (.noesc x) = some (evE e x, []) := _root_.id rfl
theorem xRun_ucast (u n : Nat) (b : Bool) (x : AX) : xRun e σ new (.ucast u n b x) = withD [] (rUcast u n b (fun r => lookB r σ) (evE e x)) := by
 simp only [xRun, withD]; cases rUcast u n b (fun r => lookB r σ) (evE e x) <;> rfl
def ucastB (u n : Nat) (back : Bool) (r o : Nat) : Blk → Option AV
 | .cells T f l => match back with
   | false => if o < l.length then some (.ptr r o) else none
   | true => if T = u ∧ o = 0 ∧ f = true ∧ l.length = n then some (.ptr r o) else none
 | _ => none
theorem rUcast_ptr (u n : Nat) (b : Bool) (τ : Store) (r o : Nat) : rUcast u n b τ (.ptr r o) = ucastB u n b r o (τ r) := by
 simp only [rUcast, ucastB]; cases τ r <;> rfl
theorem ucastB_f {u n r o T : Nat} {f : Bool} {l : List AV} (h : Chk (decide (o < l.length))) : ucastB u n false r o (.cells T f l) = some (.ptr r o) := if_pos (of_decide_eq_true h)
theorem ucastB_t {u n r : Nat} {l : List AV} (h : Chk (decide (l.length = n))) : ucastB u n true r 0 (.cells u true l) = some (.ptr r 0) := if_pos ⟨rfl, rfl, rfl, of_decide_eq_true h⟩
theorem xRun_peq (ng : Bool) (x y : AX) : xRun e σ new (.peq ng x y) = withD [] (rPeq ng (evE e x) (evE e y)) := by
 simp only [xRun, withD]; cases rPeq ng (evE e x) (evE e y) <;> rfl
theorem rPeq_ptr (ng : Bool) (r o : Nat) : rPeq ng (.ptr r o) (.ptr r o) = some (.pv (.bool (!ng))) := if_pos ⟨rfl, rfl⟩
theorem xRun_fnil (ng : Bool) (x y : AX) : xRun e σ new (.fnil ng x y) = withD [] (rFnil ng (evE e x) (evE e y)) := by
 simp only [xRun, withD]; cases rFnil ng (evE e x) (evE e y) <;> rfl
theorem rFnil_clo (ng : Bool) (f : Nat) (a b : List PV) : rFnil ng (.pv (.clo f a b)) (.pv .nilf) = some (.pv (.bool ng)) := _root_.id rfl
theorem rFnil_nil (ng : Bool) : rFnil ng (.pv .nilf) (.pv .nilf) = some (.pv (.bool (!ng))) := _root_.id rfl
theorem xRun_idxb (x y : AX) : xRun e σ new (.idxb x y) = withD [] (rIdxb (evE e x) (evE e y)) := by
 simp only [xRun, withD]; cases rIdxb (evE e x) (evE e y) <;> rfl
theorem rIdxb_str (s : List UInt8) (c : Int) : rIdxb (.pv (.str s)) (.pv (.int .u8 c)) = some (.pv (.int .i64 (fstB c.toNat.toUInt8 s 0))) := _root_.id rfl
theorem xRun_apps (t by_ : Nat) (x y : AX) : xRun e σ new (.apps t by_ x y) = rApps t by_ new (fun r => lookB r σ) (evE e x) (evE e y) := _root_.id rfl
theorem rApps_nil0 (t by_ : Nat) (τ : Store) : rApps t by_ new τ (.pv .nils) (.pv (.str [])) = some (.pv .nils, []) := _root_.id rfl
theorem rApps_nil1 {t : Nat} {τ : Store} {c : UInt8} {k : List UInt8} (h : k.length + 1 ≤ 140737488355328) : rApps t 1 new τ (.pv .nils) (.pv (.str (c :: k))) = some (.row new 1 0 (k.length + 1), [(new, .cells t false ((bytesP (c :: k)).map .pv))]) := by
 have h1 : bytesP (c :: k) = .int .u8 (c.toNat : Int) :: bytesP k := _root_.id rfl
 have h2 := room_ok (n := 0) (m := (bytesP k).length + 1) (by_ := 1) (by rw [bytesP_length]; omega) (by rw [bytesP_length]; omega)
 simp only [rApps, appM, h1]
 rw [if_pos h2, ← h1, flat_bytes, bytesP_length]
def appsB (t by_ new q s off len : Nat) (k : List UInt8) : Blk → Option (AV × List (Nat × Blk))
 | .cells e' _ l => if e' = t ∧ s = 1 ∧ off = 0 ∧ len * 1 ≤ l.length ∧ room len (bytesP k).length by_ = true then some (.row new 1 0 (len + (bytesP k).length), [(q, .none), (new, .cells t false (l.take (len * 1) ++ flat (bytesP k)))]) else none
 | _ => none
theorem rApps_row (t by_ : Nat) (τ : Store) (q s off len : Nat) (k : List UInt8) : rApps t by_ new τ (.row q s off len) (.pv (.str k)) = appsB t by_ new q s off len k (τ q) := by
 simp only [rApps, appM, appsB]
 cases τ q <;> rfl
theorem flat_byte (k : IntKind) (n : Int) : flat [PV.int k n] = [.pv (.int k n)] := _root_.id rfl
theorem appRw_byte {t new q len : Nat} {f : Bool} {l : List UInt8} {c : UInt8} (hl : len = l.length) (h : l.length + 1 ≤ 140737488355328) :
  appRw t 1 1 new q 1 0 len [.int .u8 (c.toNat : Int)] (.cells t f ((bytesP l).map .pv)) = some (.row new 1 0 (l.length + 1), [(q, .none), (new, .cells t false ((bytesP (l ++ [c])).map .pv))]) := by
 subst hl
 rw [appRw_ok (by simp [bytesP_length]) (by simp; omega) (by simpa using h), List.take_of_length_le (by simp [bytesP_length]), bytesP_append, List.map_append]
 rfl
theorem xRun_sdata (x : AX) : xRun e σ new (.sdata x) = withD [] (rSdata (evE e x)) := by
 simp only [xRun, withD]; cases rSdata (evE e x) <;> rfl
theorem rSdata_nil : rSdata (.pv .nils) = some (.pv .nilp) := _root_.id rfl
theorem rSdata_row (r s off n : Nat) : rSdata (.row r s off (n + 1)) = some (.ptr r off) := by rw [rSdata]; exact if_pos (Nat.succ_pos n)
theorem xRun_ustr (t : Nat) (x k : AX) : xRun e σ new (.ustr t x k) = rUstr t (fun r => lookB r σ) (evE e x) (evE e k) := _root_.id rfl
theorem rUstr_nil (t : Nat) (τ : Store) : rUstr t τ (.pv .nilp) (.pv (.int .i64 0)) = some (.pv (.str []), []) := _root_.id rfl
theorem rUstr_ptr (t : Nat) (τ : Store) (r o : Nat) (k : Int) : rUstr t τ (.ptr r o) (.pv (.int .i64 k)) = ustrB t r o k (τ r) := _root_.id rfl
theorem u8x_bytes : ∀ l : List UInt8, u8x (bytesP l) = some l
 | [] => rfl
 | b :: r => by
   have ih := u8x_bytes r
   have h : bytesP (b :: r) = .int .u8 (b.toNat : Int) :: bytesP r := _root_.id rfl
   have hb := b.toNat_lt
   rw [h, u8x, if_pos ⟨by omega, by omega⟩, ih]
   simp
theorem ustrB_ok {t r : Nat} {k : Int} {f : Bool} {l : List UInt8} (hk : k = (l.length : Int)) (h0 : 0 < l.length) (h1 : l.length ≤ 140737488355328) : ustrB t r 0 k (.cells t f ((bytesP l).map .pv)) = some (.pv (.str l), [(r, .none)]) := by
 subst hk
 simp only [ustrB, Int.toNat_natCast]
 rw [if_pos ⟨trivial, trivial, by omega, by simp [bytesP_length], by omega⟩, List.take_of_length_le (by simp [bytesP_length]), pvs_pv, Option.bind_some, u8x_bytes]
 rfl
theorem xReads_apps (t b : Nat) (x y : AX) : xReads e (.apps t b x y) = (evE e x).name := _root_.id rfl
theorem xReads_ustr (t : Nat) (x y : AX) : xReads e (.ustr t x y) = (evE e x).name := _root_.id rfl
theorem xReads_ucast (u n : Nat) (b : Bool) (x : AX) : xReads e (.ucast u n b x) = (evE e x).name := _root_.id rfl
theorem xReads_noesc (x : AX) : xReads e (.noesc x) = [] := _root_.id rfl
theorem xReads_peq (g : Bool) (x y : AX) : xReads e (.peq g x y) = [] := _root_.id rfl
theorem xReads_sdata (x : AX) : xReads e (.sdata x) = [] := _root_.id rfl
theorem xReads_fnil (g : Bool) (x y : AX) : xReads e (.fnil g x y) = [] := _root_.id rfl
theorem xReads_idxb (x y : AX) : xReads e (.idxb x y) = [] := _root_.id rfl
theorem makesN_apps (t b : Nat) (x y : AX) : makesN (.xop (.apps t b x y)) = 1 := _root_.id rfl
theorem makesN_ustr (t : Nat) (x y : AX) : makesN (.xop (.ustr t x y)) = 0 := _root_.id rfl
theorem makesN_sdata (x : AX) : makesN (.xop (.sdata x)) = 0 := _root_.id rfl
theorem makesN_ucast (u n : Nat) (b : Bool) (x : AX) : makesN (.xop (.ucast u n b x)) = 0 := _root_.id rfl
theorem makesN_noesc (x : AX) : makesN (.xop (.noesc x)) = 0 := _root_.id rfl
theorem makesN_peq (g : Bool) (x y : AX) : makesN (.xop (.peq g x y)) = 0 := _root_.id rfl
theorem makesN_fnil (g : Bool) (x y : AX) : makesN (.xop (.fnil g x y)) = 0 := _root_.id rfl
theorem makesN_idxb (x y : AX) : makesN (.xop (.idxb x y)) = 0 := _root_.id rfl
end
section
variable {P : Program} {G : Nat → List PV}
def RoundS {ι κ : Type} (S : ι → St) (Inv : ι → Prop) (μ : ι → Nat) (x : ι) (m0 : Nat) (keep : List Nat) (id : Nat) (keepX : List Nat) (SX : κ → St) (fin : κ → Prop) (Q : AExit → St → Prop) : AExit → St → Prop
 | .norm, s' => ∃ x', Hd [] m0 keep s' (S x') ∧ Inv x' ∧ μ x' < μ x
 | .exit i, s' => if i = id then ∃ y, Hd [] m0 keepX s' (SX y) ∧ fin y else Q (.exit i) s'
 | .ret, s' => Q .ret s'
theorem RoundS_norm {ι κ : Type} (S : ι → St) (Inv : ι → Prop) (μ : ι → Nat) (x : ι) (m0 : Nat) (keep : List Nat) (id : Nat) (keepX : List Nat) (SX : κ → St) (fin : κ → Prop) (Q : AExit → St → Prop) (s : St) : RoundS S Inv μ x m0 keep id keepX SX fin Q .norm s = ∃ x', Hd [] m0 keep s (S x') ∧ Inv x' ∧ μ x' < μ x := _root_.id rfl
theorem RoundS_exit {ι κ : Type} (S : ι → St) (Inv : ι → Prop) (μ : ι → Nat) (x : ι) (m0 : Nat) (keep : List Nat) (id : Nat) (keepX : List Nat) (SX : κ → St) (fin : κ → Prop) (Q : AExit → St → Prop) (i : Nat) (s : St) : RoundS S Inv μ x m0 keep id keepX SX fin Q (.exit i) s = if i = id then (∃ y, Hd [] m0 keepX s (SX y) ∧ fin y) else Q (.exit i) s := _root_.id rfl
theorem RoundS_ret {ι κ : Type} (S : ι → St) (Inv : ι → Prop) (μ : ι → Nat) (x : ι) (m0 : Nat) (keep : List Nat) (id : Nat) (keepX : List Nat) (SX : κ → St) (fin : κ → Prop) (Q : AExit → St → Prop) (s : St) : RoundS S Inv μ x m0 keep id keepX SX fin Q .ret s = Q .ret s := _root_.id rfl
theorem vc_meetS {ι κ : Type} (S : ι → St) (Inv : ι → Prop) (μ : ι → Nat) (x0 : ι) (keepX : List Nat) (SX : κ → St) (fin : κ → Prop) {m0 id : Nat} {keep : List Nat} {b : ACode} {F : St → Prop} {Q : AExit → St → Prop} {s : St}
  (h1 : Hd [] m0 keep s (S x0)) (h2 : Inv x0) (h3 : ∀ x, Inv x → vc P G m0 b (RoundS S Inv μ x m0 keep id keepX SX fin Q) (S x)) (h4 : ∀ y, fin y → F (SX y)) : vc P G m0 (.loop keep b) (BlockK id (SeqK F Q)) s := by
 refine ⟨fun n s' => ∃ x, s' = S x ∧ Inv x ∧ μ x = n, ⟨μ x0, _, h1, x0, rfl, h2, rfl⟩, ?_⟩
 rintro n s' ⟨x, rfl, hx, rfl⟩
 refine vc_mono b (fun e s' hs => ?_) _ (h3 x hx)
 cases e with
 | norm =>
   obtain ⟨x', k1, k2, k3⟩ := hs
   exact ⟨_, _, k3, k1, x', rfl, k2, rfl⟩
 | exit i =>
   simp only [RoundS] at hs
   split at hs
   ·rename_i hi
    obtain ⟨y, k1, k2⟩ := hs
    refine ⟨_, k1, ?_⟩
    simp only [BlockK, if_pos hi, SeqK]
    exact h4 y k2
   ·rename_i hi
    refine ⟨s', Wk.of (Wx.refl s') m0, ?_⟩
    simp only [BlockK, if_neg hi, SeqK]
    exact hs
 | ret => exact hs
end
attribute [push_cast] RoundS_norm RoundS_exit RoundS_ret avz_anyR flat_byte xRun_noesc xRun_ucast rUcast_ptr ucastB_f ucastB_t xRun_peq rPeq_ptr xRun_fnil rFnil_clo rFnil_nil xRun_idxb rIdxb_str
 xRun_apps rApps_nil0 rApps_nil1 rApps_row xRun_sdata rSdata_nil rSdata_row xRun_ustr rUstr_nil rUstr_ptr xReads_apps xReads_ustr xReads_ucast xReads_noesc xReads_peq xReads_sdata
 xReads_fnil xReads_idxb makesN_apps makesN_ustr makesN_sdata makesN_ucast makesN_noesc makesN_peq makesN_fnil makesN_idxb
end Go.Ab
