/- A part of the proof for DelimitedValuesCardSaid. -/
import Derived.Test.YtbaaokocnegdoaaGreatDoorValVC13
import Derived.Test.YtbaaokocnegdoaaGreatDoorValF
set_option maxRecDepth 100000
set_option linter.unusedVariables false
set_option linter.unusedSimpArgs false
namespace Go.Proofs.YtbaaokocnegdoaaGreatDoor
open Go Go.Ab
attribute [local irreducible] vc
noncomputable def tab2 : List TabRow := ⟨139, [], gF Tryz.prog 139 []⟩ :: ⟨140, [], gF Tryz.prog 140 []⟩ :: ⟨185, [], gF Tryz.prog 185 []⟩ :: tab
theorem tab2_ok : ∀ r ∈ tab2, cFn Tryz.prog r.muts r.f = some r.fn := by
 intro r hr
 simp only [tab2, List.mem_cons] at hr
 rcases hr with rfl | rfl | rfl | hr
 ·kernel_rfl
 ·kernel_rfl
 ·kernel_rfl
 ·exact tab_ok r hr
theorem repeat89 : ∀ k : Nat, k ≤ 17 → Pure Tryz.prog tabG 89 [.str [48], .int .i64 (k : Int)] (.str (List.replicate k 48))
 | 0, _ => Pure.of_ex tab2_ok orc_ok (by kernel_rfl : pcall (exF tab2 orc tabG 5000 60) 89 [.str [48], .int .i64 0] = some (.str (List.replicate 0 48)))
 | 1, _ => Pure.of_ex tab2_ok orc_ok (by kernel_rfl : pcall (exF tab2 orc tabG 5000 60) 89 [.str [48], .int .i64 1] = some (.str (List.replicate 1 48)))
 | 2, _ => Pure.of_ex tab2_ok orc_ok (by kernel_rfl : pcall (exF tab2 orc tabG 5000 60) 89 [.str [48], .int .i64 2] = some (.str (List.replicate 2 48)))
 | 3, _ => Pure.of_ex tab2_ok orc_ok (by kernel_rfl : pcall (exF tab2 orc tabG 5000 60) 89 [.str [48], .int .i64 3] = some (.str (List.replicate 3 48)))
 | 4, _ => Pure.of_ex tab2_ok orc_ok (by kernel_rfl : pcall (exF tab2 orc tabG 5000 60) 89 [.str [48], .int .i64 4] = some (.str (List.replicate 4 48)))
 | 5, _ => Pure.of_ex tab2_ok orc_ok (by kernel_rfl : pcall (exF tab2 orc tabG 5000 60) 89 [.str [48], .int .i64 5] = some (.str (List.replicate 5 48)))
 | 6, _ => Pure.of_ex tab2_ok orc_ok (by kernel_rfl : pcall (exF tab2 orc tabG 5000 60) 89 [.str [48], .int .i64 6] = some (.str (List.replicate 6 48)))
 | 7, _ => Pure.of_ex tab2_ok orc_ok (by kernel_rfl : pcall (exF tab2 orc tabG 5000 60) 89 [.str [48], .int .i64 7] = some (.str (List.replicate 7 48)))
 | 8, _ => Pure.of_ex tab2_ok orc_ok (by kernel_rfl : pcall (exF tab2 orc tabG 5000 60) 89 [.str [48], .int .i64 8] = some (.str (List.replicate 8 48)))
 | 9, _ => Pure.of_ex tab2_ok orc_ok (by kernel_rfl : pcall (exF tab2 orc tabG 5000 60) 89 [.str [48], .int .i64 9] = some (.str (List.replicate 9 48)))
 | 10, _ => Pure.of_ex tab2_ok orc_ok (by kernel_rfl : pcall (exF tab2 orc tabG 5000 60) 89 [.str [48], .int .i64 10] = some (.str (List.replicate 10 48)))
 | 11, _ => Pure.of_ex tab2_ok orc_ok (by kernel_rfl : pcall (exF tab2 orc tabG 5000 60) 89 [.str [48], .int .i64 11] = some (.str (List.replicate 11 48)))
 | 12, _ => Pure.of_ex tab2_ok orc_ok (by kernel_rfl : pcall (exF tab2 orc tabG 5000 60) 89 [.str [48], .int .i64 12] = some (.str (List.replicate 12 48)))
 | 13, _ => Pure.of_ex tab2_ok orc_ok (by kernel_rfl : pcall (exF tab2 orc tabG 5000 60) 89 [.str [48], .int .i64 13] = some (.str (List.replicate 13 48)))
 | 14, _ => Pure.of_ex tab2_ok orc_ok (by kernel_rfl : pcall (exF tab2 orc tabG 5000 60) 89 [.str [48], .int .i64 14] = some (.str (List.replicate 14 48)))
 | 15, _ => Pure.of_ex tab2_ok orc_ok (by kernel_rfl : pcall (exF tab2 orc tabG 5000 60) 89 [.str [48], .int .i64 15] = some (.str (List.replicate 15 48)))
 | 16, _ => Pure.of_ex tab2_ok orc_ok (by kernel_rfl : pcall (exF tab2 orc tabG 5000 60) 89 [.str [48], .int .i64 16] = some (.str (List.replicate 16 48)))
 | 17, _ => Pure.of_ex tab2_ok orc_ok (by kernel_rfl : pcall (exF tab2 orc tabG 5000 60) 89 [.str [48], .int .i64 17] = some (.str (List.replicate 17 48)))
 | k + 18, h => absurd h (by omega)
def numT : Nat → Nat → List UInt8
 | 0, _ => []
 | k + 1, n => numT k (n / 10) ++ [UInt8.ofNat (48 + n % 10)]
theorem numT_len : ∀ (k n : Nat), (numT k n).length = k
 | 0, _ => rfl
 | k + 1, n => by simp [numT, numT_len k]
theorem numT_zero : ∀ k : Nat, numT k 0 = List.replicate k 48
 | 0 => rfl
 | k + 1 => by rw [numT, show 0 / 10 = 0 from rfl, numT_zero k, List.replicate_succ']; rfl
theorem digits_numT : ∀ (k f n : Nat), n < 10 ^ f → n < 10 ^ (k + 1) → 0 < f → List.replicate (k + 1 - (digits f n).length) 48 ++ digits f n = numT (k + 1) n
 | k, 0, n, _, _, h => absurd h (by omega)
 | k, f + 1, n, hf, hk, _ => by
   rw [digits]
   by_cases h : n < 10
   ·rw [if_pos h, numT, show n / 10 = 0 by omega, numT_zero, show n % 10 = n by omega]
    simp
   ·rw [if_neg h]
    cases k with
    | zero => simp at hk; omega
    | succ k =>
      have hf' : n / 10 < 10 ^ f := by rw [Nat.pow_succ] at hf; exact Nat.div_lt_of_lt_mul (by rw [Nat.mul_comm]; exact hf)
      have hk' : n / 10 < 10 ^ (k + 1) := by rw [Nat.pow_succ] at hk; exact Nat.div_lt_of_lt_mul (by rw [Nat.mul_comm]; exact hk)
      have h0 : 0 < f := by
       cases f with
       | zero => simp at hf; omega
       | succ f => omega
      have ih := digits_numT k f (n / 10) hf' hk' h0
      rw [numT, ← ih, List.length_append, List.append_assoc]
      simp
theorem numT_dig : ∀ (l : List UInt8), l.all isD = true → numT l.length (digV 0 l).toNat = l := by
 intro l
 induction hn : l.length generalizing l with
 | zero => intro _; simp [List.length_eq_zero_iff.1 hn, numT]
 | succ k ih =>
   intro h
   obtain ⟨a, c, rfl⟩ : ∃ a c, l = a ++ [c] := by
    refine ⟨l.dropLast, l.getLast (by intro e; simp [e] at hn), (List.dropLast_concat_getLast _).symm⟩
   rw [List.all_append, Bool.and_eq_true] at h
   have hc := isD_bound (c := c) (by simpa using h.2)
   have h0 := (digV_bound a 0 (by omega) h.1).1
   rw [digV_app, numT]
   have e1 : (10 * digV 0 a + ((c.toNat : Int) - 48)).toNat / 10 = (digV 0 a).toNat := by omega
   have e2 : 48 + (10 * digV 0 a + ((c.toNat : Int) - 48)).toNat % 10 = c.toNat := by omega
   rw [e1, e2, ih a (by simpa using hn) h.1]
   simp
theorem itoa_numT {n : Int} {k : Nat} (h0 : 0 ≤ n) (hk : k ≤ 16) (h1 : n.toNat < 10 ^ (k + 1)) : List.replicate (k + 1 - (itoaT n).length) 48 ++ itoaT n = numT (k + 1) n.toNat := by
 unfold itoaT
 rw [if_neg (by omega)]
 exact digits_numT k 20 n.toNat (Nat.lt_of_lt_of_le h1 (Nat.pow_le_pow_right (by omega) (by omega))) h1 (by omega)
theorem padded92 {n : Int} {k : Nat} (h0 : 0 ≤ n) (hk : k ≤ 8) (h1 : n.toNat < 10 ^ (k + 1)) : Pure Tryz.prog tabG 92 [.int .i64 n, .int .i64 ((k + 1 : Nat) : Int)] (.str (numT (k + 1) n.toNat)) := by
 have hp : 10 ^ (k + 1) ≤ 10 ^ 9 := Nat.pow_le_pow_right (by omega) (by omega)
 have hi := itoa_ok n (by omega) (by omega)
 have hL := itoa_numT h0 (by omega : k ≤ 16) h1
 have hl := itoaT_len n
 have hr := repeat89 (k + 1 - (itoaT n).length) (by omega)
 generalize itoaT n = L at *
 have hm : max (0 : Int) ((k : Int) + 1 - (L.length : Int)) = ((k + 1 - L.length : Nat) : Int) := by omega
 rw [← hm] at hr
 refine Pure.intro F92_ok (by simp [F92]) ?_
 simp (disch:=first|exact dI|fail) only [F92, push_cast, seval]
 refine ACall.pure hi rfl ?_
 simp (disch:=first|exact dI|fail) only [push_cast, seval]
 refine ACall.pure hr rfl ?_
 simp (disch:=first|exact dI|fail) only [hL, push_cast, seval]
end Go.Proofs.YtbaaokocnegdoaaGreatDoor
set_option maxRecDepth 100000
set_option linter.unusedVariables false
set_option linter.unusedSimpArgs false
-- many steps
namespace Go.Proofs.YtbaaokocnegdoaaGreatDoor
open Go Go.Ab
attribute [local irreducible] vc
def textD (y : Int) (m : Nat) (d : Int) : List UInt8 := numT 4 y.toNat ++ [45] ++ numT 2 m ++ [45] ++ numT 2 d.toNat
theorem textD_len (y : Int) (m : Nat) (d : Int) : (textD y m d).length = 10 := by simp [textD, numT_len]
theorem text45 {y : Int} {m : Nat} {d : Int} (h : DateOk y m d) : Pure Tryz.prog tabG 45 [.int .i64 (dayN y m d - 719162)] (.tup [.str (textD y m d), .int .i64 0]) := by
 have hc := civil91 h
 have hy1 := h.y1
 have hy2 := h.y2
 have hm1 := h.m1
 have hm2 := h.m2
 have hd1 := h.d1
 have hd2 := h.d2
 have hmd := mdI_bound y m
 have p1 := padded92 (n := y) (k := 3) (by omega) (by omega) (by simp; omega)
 have p2 := padded92 (n := (m : Int)) (k := 1) (by omega) (by omega) (by simp; omega)
 have p3 := padded92 (n := d) (k := 1) (by omega) (by omega) (by simp; omega)
 simp only [Nat.reduceAdd, Int.toNat_natCast] at p1 p2 p3
 have l1 := numT_len 4 y.toNat
 have l2 := numT_len 2 m
 have l3 := numT_len 2 d.toNat
 unfold textD
 generalize numT 4 y.toNat = t1 at *
 generalize numT 2 m = t2 at *
 generalize numT 2 d.toNat = t3 at *
 generalize dayN y m d - 719162 = n at *
 refine Pure.intro F45_ok (by simp [F45]) ?_
 simp (maxSteps:=9^7) (disch:=first|exact dI|fail) only [F45, push_cast, seval]
 refine ACall.pure hc rfl ?_
 simp (maxSteps:=9^7) (disch:=first|exact dI|fail) only [push_cast, seval]
 refine ACall.pure p1 rfl ?_
 simp (maxSteps:=9^7) (disch:=first|exact dI|fail) only [push_cast, seval]
 refine ACall.pure p2 rfl ?_
 simp (maxSteps:=9^7) (disch:=first|exact dI|fail) only [push_cast, seval]
 refine ACall.pure p3 rfl ?_
 simp (maxSteps:=9^7) (disch:=first|exact dI|fail) only [push_cast, seval]
theorem split93 {d r : Int} (h1 : -719162 ≤ d ∧ d ≤ 2932896) (h2 : 0 ≤ r ∧ r ≤ 86399999) : Pure Tryz.prog tabG 93 [.int .i64 (d * 86400000 + r)] (.tup [.int .i64 d, .int .i64 r, .int .i64 0]) := by
 have hin := in125_t (n := d * 86400000 + r) (lo := -62135596800000) (hi := 253402300799999) ⟨by omega, by omega⟩
 obtain ⟨n, hn⟩ : ∃ n, n = d * 86400000 + r := ⟨_, rfl⟩
 have e1 := tdiv_n (a := n - -62135596800000) (b := 86400000) (by omega)
 have e2 := tmod_n (a := n - -62135596800000) (b := 86400000) (by omega)
 have e3 : -719162 + (n - -62135596800000) / 86400000 = d := by omega
 have e4 : (n - -62135596800000) % 86400000 = r := by omega
 rw [← hn] at hin ⊢
 refine Pure.intro F93_ok (by simp [F93]) ?_
 simp (maxSteps:=9^7) (disch:=first|exact dI|fail) only [F93, push_cast, seval]
 refine ACall.pure hin rfl ?_
 simp (maxSteps:=9^7) (disch:=first|exact dI|fail) only [e1, e2, e3, e4, push_cast, seval]
def textT (t : List UInt8) (h mi s ms : Nat) : List UInt8 := t ++ ([84] ++ numT 2 h ++ [58] ++ numT 2 mi ++ [58] ++ numT 2 s) ++ (if ms = 0 then [] else [46] ++ numT 3 ms) ++ [90]
theorem timeText46 {y : Int} {m : Nat} {d : Int} (hD : DateOk y m d) {h mi s ms : Nat} (h1 : h ≤ 23) (h2 : mi ≤ 59) (h3 : s ≤ 59) (h4 : ms ≤ 999) :
  Pure Tryz.prog tabG 46 [.int .i64 ((dayN y m d - 719162) * 86400000 + ((((60 * (h : Int) + mi) * 60 + s) * 1000 + ms)))] (.tup [.str (textT (textD y m d) h mi s ms), .int .i64 0]) := by
 have hr := day_range hD
 have hs := split93 (d := dayN y m d - 719162) (r := ((60 * (h : Int) + mi) * 60 + s) * 1000 + ms) ⟨by omega, by omega⟩ ⟨by omega, by omega⟩
 have ht := text45 hD
 have htl := textD_len y m d
 have p1 := padded92 (n := (h : Int)) (k := 1) (by omega) (by omega) (by simp; omega)
 have p2 := padded92 (n := (mi : Int)) (k := 1) (by omega) (by omega) (by simp; omega)
 have p3 := padded92 (n := (s : Int)) (k := 1) (by omega) (by omega) (by simp; omega)
 have p4 := padded92 (n := (ms : Int)) (k := 2) (by omega) (by omega) (by simp; omega)
 simp only [Nat.reduceAdd, Int.toNat_natCast] at p1 p2 p3 p4
 have l1 := numT_len 2 h
 have l2 := numT_len 2 mi
 have l3 := numT_len 2 s
 have l4 := numT_len 3 ms
 obtain ⟨r, hr⟩ : ∃ r, r = ((60 * (h : Int) + mi) * 60 + s) * 1000 + ms := ⟨_, rfl⟩
 rw [← hr] at hs ⊢
 have q1 := tdiv_n (a := r) (b := 1000) (by omega)
 have q2 := tdiv_n (a := r / 1000) (b := 3600) (by omega)
 have q3 := tdiv_n (a := r / 1000) (b := 60) (by omega)
 have q4 := tmod_n (a := r / 1000 / 60) (b := 60) (by omega)
 have q5 := tmod_n (a := r / 1000) (b := 60) (by omega)
 have q6 := tmod_n (a := r) (b := 1000) (by omega)
 have g2 : r / 1000 / 3600 = h := by omega
 have g3 : r / 1000 / 60 % 60 = mi := by omega
 have g4 : r / 1000 % 60 = s := by omega
 have g5 : r % 1000 = ms := by omega
 have hrb : 0 ≤ r ∧ r ≤ 86399999 := ⟨by omega, by omega⟩
 clear hr
 unfold textT
 generalize textD y m d = t0 at *
 generalize numT 2 h = t1 at *
 generalize numT 2 mi = t2 at *
 generalize numT 2 s = t3 at *
 generalize numT 3 ms = t4 at *
 generalize dayN y m d - 719162 = n at *
 generalize n * 86400000 + r = N at *
 by_cases hm : ms = 0
 ·rw [if_pos hm, List.append_nil]
  subst hm
  refine Pure.intro F46_ok (by simp [F46]) ?_
  simp (maxSteps:=9^7) (disch:=first|exact dI|fail) only [F46, push_cast, seval]
  refine ACall.pure hs rfl ?_
  simp (maxSteps:=9^7) (disch:=first|exact dI|fail) only [push_cast, seval]
  refine ACall.pure ht rfl ?_
  simp (maxSteps:=9^7) (disch:=first|exact dI|fail) only [q1, q2, g2, push_cast, seval]
  refine ACall.pure p1 rfl ?_
  simp (maxSteps:=9^7) (disch:=first|exact dI|fail) only [q3, q4, g3, push_cast, seval]
  refine ACall.pure p2 rfl ?_
  simp (maxSteps:=9^7) (disch:=first|exact dI|fail) only [q5, g4, push_cast, seval]
  refine ACall.pure p3 rfl ?_
  simp (maxSteps:=9^7) (disch:=first|exact dI|fail) only [q6, g5, push_cast, seval]
 ·rw [if_neg hm]
  refine Pure.intro F46_ok (by simp [F46]) ?_
  simp (maxSteps:=9^7) (disch:=first|exact dI|fail) only [F46, push_cast, seval]
  refine ACall.pure hs rfl ?_
  simp (maxSteps:=9^7) (disch:=first|exact dI|fail) only [push_cast, seval]
  refine ACall.pure ht rfl ?_
  simp (maxSteps:=9^7) (disch:=first|exact dI|fail) only [q1, q2, g2, push_cast, seval]
  refine ACall.pure p1 rfl ?_
  simp (maxSteps:=9^7) (disch:=first|exact dI|fail) only [q3, q4, g3, push_cast, seval]
  refine ACall.pure p2 rfl ?_
  simp (maxSteps:=9^7) (disch:=first|exact dI|fail) only [q5, g4, push_cast, seval]
  refine ACall.pure p3 rfl ?_
  have hm' : ¬ (ms : Int) = 0 := by omega
  simp (maxSteps:=9^7) (disch:=first|exact dI|fail) only [q6, g5, push_cast, seval]
  refine ACall.pure p4 rfl ?_
  simp (maxSteps:=9^7) (disch:=first|exact dI|fail) only [push_cast, seval]
end Go.Proofs.YtbaaokocnegdoaaGreatDoor
set_option maxRecDepth 100000
set_option linter.unusedVariables false
set_option linter.unusedSimpArgs false
namespace Go.Proofs.YtbaaokocnegdoaaGreatDoor
open Go Go.Ab
def backN : List (List UInt8) → List Nat → List Int → List UInt8
 | m :: ms, k :: ks, v :: l => m ++ (numT k v.toNat ++ backN ms ks l)
 | _, _, _ => []
theorem preB_take {p s : List UInt8} (h : preB p s = true) : s = p ++ s.drop p.length := by
 have h1 := (of_decide_eq_true h).1
 have h2 := List.take_append_drop p.length s
 rw [h1] at h2
 exact h2.symm
theorem numP_back {k : Nat} {s : List UInt8} {p : Int × List UInt8} (h : numP k s = some p) : s = numT k p.1.toNat ++ p.2 ∧ 0 ≤ p.1 := by
 unfold numP at h
 split at h
 ·rename_i hh
  cases h
  have e := numT_dig (s.take k) hh.2
  rw [List.length_take, Nat.min_eq_left hh.1] at e
  simp only
  rw [e, List.take_append_drop]
  exact ⟨rfl, (digV_bound _ 0 (by omega) hh.2).1⟩
 ·cases h
theorem nums_back : ∀ (ms : List (List UInt8)) (ks : List Nat) (s : List UInt8) (l : List Int) (r : List UInt8), numsP ms ks s = some (l, r) → s = backN ms ks l ++ r ∧ ∀ x, x ∈ l → 0 ≤ x
 | [], ks, s, l, r, h => by
   simp only [numsP, Option.some.injEq, Prod.mk.injEq] at h
   obtain ⟨rfl, rfl⟩ := h
   exact ⟨by simp [backN], by simp⟩
 | m :: ms, [], s, l, r, h => by simp [numsP] at h
 | m :: ms, k :: ks, s, l, r, h => by
   simp only [numsP] at h
   split at h
   ·rename_i hp
    split at h
    ·rename_i p hn
     simp only [Option.map_eq_some_iff] at h
     obtain ⟨q, hq, he⟩ := h
     cases he
     obtain ⟨q1, q2⟩ := q
     have ih := nums_back ms ks p.2 q1 q2 hq
     have hb := numP_back hn
     refine ⟨?_, ?_⟩
     ·rw [backN, List.append_assoc, List.append_assoc, ← ih.1, ← hb.1]
      exact preB_take hp
     ·intro x hx
      rcases List.mem_cons.1 hx with rfl | hx
      ·exact hb.2
      ·exact ih.2 x hx
    ·cases h
   ·cases h
theorem dayR_back {y m d n : Int} (h : dayR y m d = (n, 0)) : DateOk y m.toNat d ∧ n = dayN y m.toNat d - 719162 := by
 unfold dayR at h
 split at h
 ·rename_i hd
  cases h
  exact ⟨(dayR_ok hd).1, rfl⟩
 ·simp at h
theorem parseD_back {s : List UInt8} {n : Int} (h : parseD s = (n, 0)) : ∃ (y : Int) (m : Nat) (d : Int), DateOk y m d ∧ n = dayN y m d - 719162 ∧ s = textD y m d := by
 unfold parseD at h
 split at h
 ·rename_i y m d hn
  obtain ⟨h1, h2⟩ := dayR_back h
  obtain ⟨hb, _⟩ := nums_back _ _ _ _ _ hn
  refine ⟨y, m.toNat, d, h1, h2, ?_⟩
  rw [hb]
  simp [backN, textD]
 ·simp at h
theorem tailT_back {r : List UInt8} {ms : Int} (h : tailT r = some ms) : 0 ≤ ms ∧ ms ≤ 999 ∧ r = (if ms.toNat = 0 then [] else [46] ++ numT 3 ms.toNat) ++ [90] := by
 unfold tailT at h
 split at h
 ·rename_i hp
  split at h
  ·rename_i p hn
   split at h
   ·cases h
   ·rename_i hc
    cases h
    have hb := numP_back hn
    have hle : p.1 ≤ 999 := by
     unfold numP at hn
     split at hn
     ·rename_i hh
      cases hn
      exact (three_le hh.2).2
     ·cases hn
    have hnz : p.1 ≠ 0 := fun h => hc (Or.inl h)
    have hq : p.2 = [90] := Decidable.of_not_not fun h => hc (Or.inr h)
    refine ⟨hb.2, hle, ?_⟩
    rw [if_neg (by omega)]
    rw [hq] at hb
    have := preB_take hp
    rw [this]
    have e := hb.1
    simp only [List.length_cons, List.length_nil, Nat.zero_add] at e ⊢
    rw [e, List.append_assoc]
  ·cases h
 ·split at h
  ·rename_i hr
   cases h
   exact ⟨by omega, by omega, by simp [hr]⟩
  ·cases h
theorem parseT_back {s : List UInt8} {n : Int} (h : parseT s = (n, 0)) : ∃ (y : Int) (m : Nat) (d : Int) (hh mi sec ms : Nat), DateOk y m d ∧ hh ≤ 23 ∧ mi ≤ 59 ∧ sec ≤ 59 ∧ ms ≤ 999 ∧
  n = (dayN y m d - 719162) * 86400000 + (((60 * (hh : Int) + mi) * 60 + sec) * 1000 + ms) ∧ s = textT (textD y m d) hh mi sec ms := by
 unfold parseT at h
 split at h
 ·rename_i y m d hh mi sec r hn
  split at h
  ·rename_i ms ht
   obtain ⟨hb, hpos⟩ := nums_back _ _ _ _ _ hn
   obtain ⟨t1, t2, t3⟩ := tailT_back ht
   unfold timeR at h
   split at h
   ·simp at h
   ·rename_i hc
    have hz : (dayR y m d).2 = 0 := Decidable.of_not_not fun h => hc (Or.inl h)
    have b1 : ¬ 23 < hh := fun h => hc (Or.inr (Or.inl h))
    have b2 : ¬ 59 < mi := fun h => hc (Or.inr (Or.inr (Or.inl h)))
    have b3 : ¬ 59 < sec := fun h => hc (Or.inr (Or.inr (Or.inr h)))
    have p1 := hpos hh (by simp)
    have p2 := hpos mi (by simp)
    have p3 := hpos sec (by simp)
    obtain ⟨d1, d2⟩ := dayR_back (y := y) (m := m) (d := d) (n := (dayR y m d).1) (by rw [← hz])
    have e := congrArg Prod.fst h
    simp only at e
    refine ⟨y, m.toNat, d, hh.toNat, mi.toNat, sec.toNat, ms.toNat, d1, by omega, by omega, by omega, by omega, ?_, ?_⟩
    ·rw [← e, d2]; omega
    ·rw [hb, t3]
     simp [backN, msT, ksT, textT, textD]
  ·simp at h
 ·simp at h
end Go.Proofs.YtbaaokocnegdoaaGreatDoor
