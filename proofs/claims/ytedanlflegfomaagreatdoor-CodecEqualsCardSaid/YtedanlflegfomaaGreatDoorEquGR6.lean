/- A part of the proof for CodecEqualsCardSaid. -/
import Derived.Test.YtedanlflegfomaaGreatDoorEquGR5
set_option maxRecDepth 100000
set_option linter.unusedVariables false
set_option linter.unusedSimpArgs false
-- many steps
namespace Go.Proofs.YtedanlflegfomaaGreatDoor
open Go Go.Ab
attribute [local irreducible] vc
def step1V (i : Nat) (q : Int × Val) : Int :=
 if 4096 ≤ i then 9 else if 8 < q.1 then 23 else if nullV q.2 = true then 19 else if q.2.kind < 1 ∨ 10 < q.2.kind then 11 else if usesV q.2 = false then 3 else ruleV q.2
section
variable {i : Nat} {q : Int × Val}
theorem step1_b (c1 : ¬ 4096 ≤ i) (c2 : 8 < q.1) : step1V i q = 23 := by unfold step1V; rw [if_neg c1, if_pos c2]
theorem step1_c (c1 : ¬ 4096 ≤ i) (c2 : ¬ 8 < q.1) (c3 : nullV q.2 = true) : step1V i q = 19 := by unfold step1V; rw [if_neg c1, if_neg c2, if_pos c3]
theorem step1_d (c1 : ¬ 4096 ≤ i) (c2 : ¬ 8 < q.1) (c3 : nullV q.2 = false) (c4 : q.2.kind < 1 ∨ 10 < q.2.kind) : step1V i q = 11 := by unfold step1V; rw [if_neg c1, if_neg c2, if_neg (by rw [c3]; simp), if_pos c4]
theorem step1_e (c1 : ¬ 4096 ≤ i) (c2 : ¬ 8 < q.1) (c3 : nullV q.2 = false) (c4 : ¬ (q.2.kind < 1 ∨ 10 < q.2.kind)) (c5 : usesV q.2 = false) : step1V i q = 3 := by unfold step1V; rw [if_neg c1, if_neg c2, if_neg (by rw [c3]; simp), if_neg c4, if_pos c5]
theorem step1_f (c1 : ¬ 4096 ≤ i) (c2 : ¬ 8 < q.1) (c3 : nullV q.2 = false) (c4 : ¬ (q.2.kind < 1 ∨ 10 < q.2.kind)) (c5 : usesV q.2 = true) : step1V i q = ruleV q.2 := by unfold step1V; rw [if_neg c1, if_neg c2, if_neg (by rw [c3]; simp), if_neg c4, if_neg (by rw [c5]; simp)]
end
def chkL : Nat → List (Int × Val) → Int
 | _, [] => 0
 | i, q :: r => if step1V i q = 0 then chkL (i + 1) r else step1V i q
def ruleF (k : Int) : Nat := if k = 1 then 229 else if k = 2 then 231 else if k = 3 then 232 else if k = 4 then 234 else if k = 5 then 236 else if k = 6 then 237 else if k = 7 then 238 else if k = 8 then 239 else if k = 9 then 240 else 241
theorem rule_at (v : Val) (h : 1 ≤ v.kind ∧ v.kind ≤ 10) : Pure Tryz.prog tabG (ruleF v.kind) [v.pv] (.int .i64 (ruleV v)) := by
 have hc : v.kind = 1 ∨ v.kind = 2 ∨ v.kind = 3 ∨ v.kind = 4 ∨ v.kind = 5 ∨ v.kind = 6 ∨ v.kind = 7 ∨ v.kind = 8 ∨ v.kind = 9 ∨ v.kind = 10 := by omega
 rcases hc with h | h | h | h | h | h | h | h | h | h <;> rw [h]
 ·exact rule268 v h
 ·exact rule270 v h
 ·exact rule271 v h
 ·exact rule273 v h
 ·exact rule275 v h
 ·exact rule276 v h
 ·exact rule277 v h
 ·exact rule278 v h
 ·exact rule279 v h
 ·exact rule280 v h
theorem rIaddrA_ptr {n sz r o : Nat} {k : IntKind} {i : Int} (h0 : 0 ≤ i) (h1 : i.toNat < n) : rIaddrA n sz (.ptr r o) (.pv (.int k i)) = some (.ptr r (o + i.toNat * sz)) := if_pos ⟨h0, h1⟩
theorem unusedU (x : Val) (h : 1 ≤ x.kind ∧ x.kind ≤ 10) : Pure Tryz.prog tabG 207 [x.pv] (.bool (usesV x)) := uses244 x h
theorem chkL_at {xs : List (Int × Val)} {i : Nat} {q : Int × Val} (h : xs[i]? = some q) : chkL i (xs.drop i) = if step1V i q = 0 then chkL (i + 1) (xs.drop (i + 1)) else step1V i q := by
 have hi : i < xs.length := (List.getElem?_eq_some_iff.1 h).1
 have he : xs[i] = q := (List.getElem?_eq_some_iff.1 h).2
 rw [List.drop_eq_getElem_cons hi, he, chkL]
set_option maxHeartbeats 4000000 in
theorem check192 (n : Nat) (v : Val) (hd : deepV n v) (hv : v.ok) (hn : n ≤ 9223372036854775806) : Pure Tryz.prog tabG 184 [v.pv] (.int .i64 (chkL 0 (preN n 1 v))) := by
 have hseq := preorder_seq n v hd hv hn
 have h243 := preorder243 v
 have h242 := rules242
 generalize hxs : preN n 1 v = xs at *
 obtain ⟨R, hR⟩ : ∃ R, R = chkL 0 xs := ⟨_, rfl⟩
 rw [← hR]
 obtain ⟨k, a, s, t, l, fs⟩ := v
 simp only [Val.pv_mk, rulesP] at h243 h242 hseq
 refine Pure.intro F184_ok (by simp [F184]) ?_
 simp (maxSteps:=9^7) (disch:=first|exact dI|fail) only [F184, Val.pv_mk, push_cast, seval]
 refine ACall.pure h242 rfl ?_
 simp (maxSteps:=9^7) (disch:=first|exact dI|fail) only [one_clo, one_nilf, push_cast, seval]
 refine ACall.pure h243 rfl ?_
 simp (maxSteps:=9^7) (disch:=first|exact dI|fail) only [push_cast, seval]
 refine vc_rng ([]) (fun i : Nat => []) (fun i : Nat => [(2, .cells 3 true [.pv (.int .i64 (i : Int))])]) (fun j i => j = i ∧ i ≤ 4096 ∧ R = chkL i (xs.drop i)) (0) (hseq) ?_; intro e0 σ0 n0 h0; simp (maxSteps:=9^7) (disch:=first|exact dI|fail) only [push_cast, seval] at h0; obtain ⟨rfl, rfl, rfl⟩ := h0; refine ⟨?_, ?_, ?_, ?_, ?_⟩
 ·simp (maxSteps:=9^7) (disch:=first|exact dI|fail) only [push_cast, seval]
 ·exact ⟨rfl, by omega, by simpa using hR⟩
 ·rfl
 ·rintro j i y hy ⟨hij, hj4, hr⟩
  subst hij
  obtain ⟨q, hq⟩ : ∃ q, xs[j]? = some q := by
   cases h : xs[j]? with
   | none => simp [h] at hy
   | some q => exact ⟨q, rfl⟩
  have hye : y = encV q := by simpa [hq] using hy.symm
  subst hye
  rw [chkL_at hq] at hr
  have hjl : j < xs.length := (List.getElem?_eq_some_iff.1 hq).1
  obtain ⟨lv, x⟩ := q
  have h111 := null111 x
  have hrule := rule_at x
  have huse := unusedU x
  obtain ⟨k', n', s', t', l', f'⟩ := x
  simp only [Val.pv_mk, Val.kind] at h111 hrule huse
  refine ⟨rfl, ?_⟩
  simp only [encV, Val.pv_mk]
  clear hy h242 h243 hseq
  by_cases c1 : 4096 ≤ j
  ·have e : step1V j (lv, Val.mk k' n' s' t' l' f') = 9 := if_pos c1
   rw [e, if_neg (by omega)] at hr
   subst hr
   simp (maxSteps:=9^7) (disch:=first|exact dI|fail) only [push_cast, seval]
  ·have hj1 : ¬ (4096 : Int) < (j : Int) + 1 := by omega
   by_cases c2 : 8 < lv
   ·have e : step1V j (lv, Val.mk k' n' s' t' l' f') = 23 := step1_b c1 c2
    rw [e, if_neg (by omega)] at hr
    subst hr
    simp (maxSteps:=9^7) (disch:=first|exact dI|fail) only [push_cast, seval]
   ·cases c3 : nullV (Val.mk k' n' s' t' l' f') with
    | true =>
      have e : step1V j (lv, Val.mk k' n' s' t' l' f') = 19 := step1_c c1 c2 c3
      rw [e, if_neg (by omega)] at hr
      subst hr
      rw [c3] at h111
      simp (maxSteps:=9^7) (disch:=first|exact dI|fail) only [push_cast, seval]
      refine ACall.pure h111 rfl ?_
      simp (maxSteps:=9^7) (disch:=first|exact dI|fail) only [push_cast, seval]
    | false =>
      rw [c3] at h111
      by_cases c4 : k' < 1 ∨ 10 < k'
      ·have e : step1V j (lv, Val.mk k' n' s' t' l' f') = 11 := step1_d c1 c2 c3 c4
       rw [e, if_neg (by omega)] at hr
       subst hr
       rcases c4 with c4 | c4
       ·simp (maxSteps:=9^7) (disch:=first|exact dI|fail) only [push_cast, seval]
        refine ACall.pure h111 rfl ?_
        simp (maxSteps:=9^7) (disch:=first|exact dI|fail) only [push_cast, seval]
       ·simp (maxSteps:=9^7) (disch:=first|exact dI|fail) only [push_cast, seval]
        refine ACall.pure h111 rfl ?_
        simp (maxSteps:=9^7) (disch:=first|exact dI|fail) only [push_cast, seval]
      ·have huse := huse (by omega)
       have hrule := hrule (by omega)
       cases c5 : usesV (Val.mk k' n' s' t' l' f') with
       | false =>
         have e : step1V j (lv, Val.mk k' n' s' t' l' f') = 3 := step1_e c1 c2 c3 c4 c5
         rw [e, if_neg (by omega)] at hr
         subst hr
         rw [c5] at huse
         simp (maxSteps:=9^7) (disch:=first|exact dI|fail) only [push_cast, seval]
         refine ACall.pure h111 rfl ?_
         simp (maxSteps:=9^7) (disch:=first|exact dI|fail) only [push_cast, seval]
         refine ACall.pure huse rfl ?_
         simp (maxSteps:=9^7) (disch:=first|exact dI|fail) only [push_cast, seval]
       | true =>
         have e : step1V j (lv, Val.mk k' n' s' t' l' f') = ruleV (Val.mk k' n' s' t' l' f') := step1_f c1 c2 c3 c4 c5
         rw [e] at hr
         rw [c5] at huse
         generalize ruleV (Val.mk k' n' s' t' l' f') = z at hr hrule
         have hkc : ([AV.pv PV.nilf, AV.pv (PV.clo 229 [] []), AV.pv (PV.clo 231 [] []), AV.pv (PV.clo 232 [] []), AV.pv (PV.clo 234 [] []), AV.pv (PV.clo 236 [] []), AV.pv (PV.clo 237 [] []), AV.pv (PV.clo 238 [] []), AV.pv (PV.clo 239 [] []), AV.pv (PV.clo 240 [] []), AV.pv (PV.clo 241 [] [])] : List AV)[k'.toNat * 1]? = some (.pv (.clo (ruleF k') [] [])) := by
          have hc : k' = 1 ∨ k' = 2 ∨ k' = 3 ∨ k' = 4 ∨ k' = 5 ∨ k' = 6 ∨ k' = 7 ∨ k' = 8 ∨ k' = 9 ∨ k' = 10 := by omega
          rcases hc with h | h | h | h | h | h | h | h | h | h <;> rw [h] <;> rfl
         generalize ruleF k' = rf at hkc hrule
         by_cases hz : z = 0
         ·rw [if_pos hz] at hr
          subst hz
          simp (maxSteps:=9^7) (disch:=first|exact dI|fail) only [push_cast, seval]
          refine ACall.pure h111 rfl ?_
          simp (maxSteps:=9^7) (disch:=first|exact dI|fail) only [push_cast, seval]
          refine ACall.pure huse rfl ?_
          simp (maxSteps:=9^7) (disch:=first|exact dI|fail) only [rIaddrA_ptr, hkc, push_cast, seval]
          refine ACall.pure hrule rfl ?_
          simp (maxSteps:=9^7) (disch:=first|exact dI|fail) only [push_cast, seval]
          exact ⟨j + 1, hd_z (by simp (maxSteps:=9^7) (disch:=first|exact dI|fail) only [push_cast, seval]), rfl, by omega, hr⟩
         ·rw [if_neg hz] at hr
          subst hr
          simp (maxSteps:=9^7) (disch:=first|exact dI|fail) only [push_cast, seval]
          refine ACall.pure h111 rfl ?_
          simp (maxSteps:=9^7) (disch:=first|exact dI|fail) only [push_cast, seval]
          refine ACall.pure huse rfl ?_
          simp (maxSteps:=9^7) (disch:=first|exact dI|fail) only [rIaddrA_ptr, hkc, push_cast, seval]
          refine ACall.pure hrule rfl ?_
          simp (maxSteps:=9^7) (disch:=first|exact dI|fail) only [push_cast, seval]
 ·rintro j ⟨hj, hj4, hr⟩
  simp only [List.length_map] at hj
  subst hj
  rw [List.drop_length] at hr
  rw [show R = 0 from hr]
  simp (maxSteps:=9^7) (disch:=first|exact dI|fail) only [push_cast, seval]
end Go.Proofs.YtedanlflegfomaaGreatDoor
set_option maxRecDepth 100000
set_option linter.unusedVariables false
namespace Go.Proofs.YtedanlflegfomaaGreatDoor
open Go Go.Ab
def strsT : List PV → Option (List (List UInt8))
 | [] => some []
 | .str s :: r => match strsT r with
   | some l => some (s :: l)
   | none => none
 | _ => none
theorem strsT_eq : ∀ {l : List PV} {ss : List (List UInt8)}, strsT l = some ss → l = ss.map .str
 | [], ss, h => by simp only [strsT, Option.some.injEq] at h; subst h; rfl
 | x :: r, ss, h => by
   unfold strsT at h
   split at h
   ·rename_i e; cases e
   ·rename_i s r' e
    cases e
    split at h
    ·rename_i l hl
     cases h
     rw [strsT_eq hl]; rfl
    ·cases h
   ·cases h
def eqL (p : PV → PV → Bool) : List PV → List PV → Bool
 | [], [] => true
 | x :: r, y :: q => p x y && eqL p r q
 | _, _ => false
def eqP : Nat → PV → PV → Bool
 | n + 1, .int k a, .int k' b => decide (k = k') && decide (a = b)
 | n + 1, .str a, .str b => decide (a = b)
 | n + 1, .nils, .nils => true
 | n + 1, .agg a, .agg b => eqL (eqP n) a b
 | n + 1, .list a, .list b => eqL (eqP n) a b
 | _, _, _ => false
theorem eqL_eq {p : PV → PV → Bool} (hp : ∀ x y, p x y = true → x = y) : ∀ a b, eqL p a b = true → a = b
 | [], [], _ => rfl
 | x :: r, y :: q, h => by
   simp only [eqL, Bool.and_eq_true] at h
   rw [hp x y h.1, eqL_eq hp r q h.2]
 | [], y :: q, h => by simp [eqL] at h
 | x :: r, [], h => by simp [eqL] at h
theorem eqP_eq : ∀ n x y, eqP n x y = true → x = y
 | 0, x, y, h => by simp [eqP] at h
 | n + 1, x, y, h => by
   unfold eqP at h
   split at h
   ·simp only [Bool.and_eq_true, decide_eq_true_eq] at h; rw [h.1, h.2]
   ·simp only [decide_eq_true_eq] at h; rw [h]
   ·rfl
   ·rw [eqL_eq (eqP_eq _) _ _ h]
   ·rw [eqL_eq (eqP_eq _) _ _ h]
   ·cases h
def v0 : Val := .mk 9 0 0 [] [] [.mk [97] (.mk 2 7 0 [] [] []), .mk [98] (.mk 4 0 0 [120] [] [])]
def v0P : PV := .agg [.int .i64 9, .int .i64 0, .int .i64 0, .str [], .nils, .list [.agg [.str [97], .int .i64 2, .int .i64 7, .int .i64 0, .str [], .nils, .nils], .agg [.str [98], .int .i64 4, .int .i64 0, .int .i64 0, .str [120], .nils, .nils]]]
theorem check_v0 : Pure Tryz.prog tabG 184 [v0P] (.int .i64 0) := by
 have h := check192 3 v0 (by simp [v0, deepV, partsV, Val.kind, Val.fields, Fld.value]) (by simp [v0, Val.ok_mk, Fld.ok_mk, I64]) (by omega)
 have e : chkL 0 (preN 3 1 v0) = 0 := by decide +kernel
 rw [e] at h
 refine h.nz ?_
 simp only [v0P, v0, Val.pv_mk, Fld.pv_mk, List.map_cons, List.map_nil]
 repeat' constructor
def orc (f : Nat) (ps : List PV) : Option PV :=
 match f with
 | 102 => match ps with
   | [.int .i64 n] => if -9223372036854775808 ≤ n ∧ n ≤ 9223372036854775807 then some (.str (itoaT n)) else none
   | _ => none
 | 89 => match ps with
   | [.str a, .str b] => some (.int .i64 (Lib.compareBytes a b))
   | _ => none
 | 161 => match ps with
   | [.str a] => some (.bool (Lib.validD a))
   | _ => none
 | 417 => match ps with
   | [.list l, .str s] => match strsT l with
     | some ss => if ss.length ≤ 140737488355328 ∧ (joinT s ss).length ≤ 140737488355328 then some (.str (joinT s ss)) else none
     | none => none
   | _ => none
 | 25 => match ps with
   | [.str a, .int .i64 n] => if 0 ≤ n ∧ n ≤ 9223372036854775807 ∧ a.length * n.toNat ≤ 140737488355328 then some (.str (Lib.repeatL a n.toNat)) else none
   | _ => none
 | 184 => match ps with
   | [p] => if eqP 6 p v0P = true then some (.int .i64 0) else none
   | _ => none
 | _ => none
theorem orc_ok : ∀ f ps r, orc f ps = some r → Pure Tryz.prog tabG f ps r := by
 intro f ps r h
 unfold orc at h
 split at h
 ·split at h
  ·split at h
   ·rename_i hh; cases h; exact itoa_ok _ hh.1 hh.2
   ·cases h
  ·cases h
 ·split at h
  ·cases h; exact compare_ok _ _
  ·cases h
 ·split at h
  ·cases h; exact validString_ok _
  ·cases h
 ·split at h
  ·split at h
   ·rename_i e
    split at h
    ·rename_i hh; cases h
     rw [strsT_eq e]
     exact join_ok _ _ hh.1 hh.2
    ·cases h
   ·cases h
  ·cases h
 ·split at h
  ·split at h
   ·rename_i hh; cases h; exact repeat_ok _ _ hh.1 hh.2.1 hh.2.2
   ·cases h
  ·cases h
 ·split at h
  ·split at h
   ·rename_i hh; cases h; rw [eqP_eq _ _ _ hh]; exact check_v0
   ·cases h
  ·cases h
 ·cases h
noncomputable def gFn (p : Nat × List Nat) : TabRow := ⟨p.1, p.2, (cFn Tryz.prog p.2 p.1).getD ⟨0, [], .skip⟩⟩
def rows14 : List (Nat × List Nat) := [(7, []), (18, []), (20, []), (21, []), (22, []), (23, []), (24, []), (26, [14]), (27, []), (40, [33]), (44, []), (45, []), (46, []), (48, []), (49, []), (51, []), (54, []), (55, []), (56, []), (58, []), (64, []), (65, []), (66, []), (67, []), (68, []), (73, [19]), (78, []), (84, []), (85, []), (86, []), (87, []), (88, []), (92, []), (93, []), (94, []), (95, []), (96, []), (98, []), (100, []), (101, []), (103, []), (104, []), (105, []), (106, []), (110, []), (111, []), (112, []), (113, []), (120, []), (130, []), (135, []), (136, []), (138, []), (139, []), (140, []), (141, []), (142, []), (143, []), (144, []), (145, []), (147, []), (148, []), (149, []), (160, [44]), (162, []), (169, []), (178, []), (180, []), (181, []), (182, []), (183, []), (185, []), (186, []), (187, []), (188, []), (194, []), (195, [12]), (197, []), (210, []), (211, []), (212, []), (213, []), (215, []), (224, []), (225, []), (245, []), (246, []), (247, []), (252, []), (259, []), (266, []), (270, []), (342, []), (344, []), (346, [24]), (347, []), (351, []), (352, []), (355, [14]), (360, []), (364, []), (371, []), (373, []), (376, []), (381, []), (382, []), (395, []), (397, [])]
theorem tab_of {l : List (Nat × List Nat)} (h : (l.all fun p => (cFn Tryz.prog p.2 p.1).isSome) = true) : ∀ r ∈ l.map gFn, cFn Tryz.prog r.muts r.f = some r.fn := by
 intro r hr
 obtain ⟨p, hp, rfl⟩ := List.mem_map.1 hr
 have h := List.all_eq_true.1 h p hp
 simp only [gFn]
 cases h' : cFn Tryz.prog p.2 p.1 with
 | some x => rfl
 | none => rw [h'] at h; cases h
theorem some14 : (rows14.all fun p => (cFn Tryz.prog p.2 p.1).isSome) = true := by kernel_rfl
theorem ex14 : pcall (exF (rows14.map gFn) orc tabG 5000 60) 18 [] = some (.bool true) := by kernel_rfl
theorem known14 : Pure Tryz.prog tabG 18 [] (.bool true) := Pure.of_ex (tab_of some14) orc_ok ex14
end Go.Proofs.YtedanlflegfomaaGreatDoor
