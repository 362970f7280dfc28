/- A part of the proof for DelimitedValuesCardSaid. -/
import Derived.Test.YtbaaokocnegdoaaGreatDoorValVC22
import Derived.Test.YtbaaokocnegdoaaGreatDoorValVC5
set_option maxRecDepth 100000
set_option linter.unusedVariables false
set_option linter.unusedSimpArgs false
-- many steps
namespace Go.Proofs.YtbaaokocnegdoaaGreatDoor
open Go Go.Ab
attribute [local irreducible] vc
theorem xRun_inil {e : List (Nat × AV)} {σ : List (Nat × Blk)} {new : Nat} (ng : Bool) (x y : AX) : xRun e σ new (.inil ng x y) = withD [] (rInil ng (evE e x) (evE e y)) := by
 simp only [xRun, withD]; cases rInil ng (evE e x) (evE e y) <;> rfl
theorem rInil_iface (ng : Bool) (T : Nat) (p : PV) : rInil ng (.pv (.iface T p)) (.pv .nili) = some (.pv (.bool ng)) := rfl
theorem rInil_nili (ng : Bool) : rInil ng (.pv .nili) (.pv .nili) = some (.pv (.bool (!ng))) := rfl
theorem text42_any {n : Int} (h : -9223372036854775808 < n) (h2 : n ≤ 9223372036854775807) (c : Nat) :
  Pure Tryz.prog tabG 42 [.agg [.int .i64 n, .int .i64 (c : Int)]] (.tup [.str (if IsN n c then decT n c else []), .int .i64 (if IsN n c then 0 else 2)]) := by
 by_cases hn : IsN n c
 ·rw [if_pos hn, if_pos hn]; exact text42 hn
 ·rw [if_neg hn, if_neg hn]; exact text42_no h h2 hn
theorem cutV_W (s : List UInt8) : cutV s = .tup [.str (cutW s).1, .str (cutW s).2.1, .bool (cutW s).2.2] := by
 unfold cutV cutW
 cases h : cutR s with
 | none => rfl
 | some q => rfl
theorem cutW_len (s : List UInt8) : (cutW s).1.length + (cutW s).2.1.length ≤ s.length := by
 unfold cutW
 split
 ·rename_i a b h
  rw [(cutR_some 0 h).2]
  simp
 ·simp
theorem parse33 {T : Nat} {p : PV} (s : List UInt8) : Pure Tryz.prog (tabE T p) 33 [.str s] (.tup [.agg [.int .i64 (parseN s).1.1, .int .i64 ((parseN s).1.2 : Int)], .int .i64 (parseN s).2]) := by
 by_cases h0 : s = []
 ·subst h0
  unfold parseN
  rw [if_pos rfl]
  refine Pure.intro F33_ok (by simp [F33]) ?_
  simp (maxSteps:=9^7) (disch:=first|exact dI|fail) only [F33, push_cast, seval]
 have h0b : decide (s = []) = false := decide_eq_false h0
 by_cases hl : 17 < s.length
 ·unfold parseN
  rw [if_neg h0, if_pos hl]
  have hlI : (17 : Int) < (s.length : Int) := by omega
  refine Pure.intro F33_ok (by simp [F33]) ?_
  simp (maxSteps:=9^7) (disch:=first|exact dI|fail) only [F33, h0b, push_cast, seval]
 rw [← progN_eq h0 hl]
 have hlI : ¬ (17 : Int) < (s.length : Int) := by omega
 have hc := toE (T := T) (p := p) (cut71 s (by omega))
 rw [cutV_W] at hc
 have hcl := cutW_len s
 unfold progN
 generalize cutW s = W at *
 obtain ⟨w, r, b⟩ := W
 simp only at hc hcl ⊢
 have ha := atoi72 (T := T) (p := p) (w ++ r) (by simp; omega)
 have hbd := fun n => atoi_bound (s := w ++ r) (n := n) (by simp; omega)
 cases hv : Lib.atoi (w ++ r) with
 | none =>
   rw [hv] at ha
   simp only [atoiV, atoiErr] at ha
   have ht := toE (T := T) (p := p) (text42_any (n := 0) (by omega) (by omega) r.length)
   generalize (if IsN 0 r.length then decT 0 r.length else []) = t1 at *
   generalize (if IsN 0 r.length then (0 : Int) else 2) = t2 at *
   refine Pure.intro F33_ok (by simp [F33]) ?_
   simp (maxSteps:=9^7) (disch:=first|exact dI|fail) only [F33, h0b, push_cast, seval]
   refine ACall.pure hc rfl ?_
   simp (maxSteps:=9^7) (disch:=first|exact dI|fail) only [push_cast, seval]
   refine ACall.pure ha rfl ?_
   simp (maxSteps:=9^7) (disch:=first|exact dI|fail) only [push_cast, seval]
   refine ACall.pure ht rfl ?_
   simp (maxSteps:=9^7) (disch:=first|exact dI|fail) only [xRun_inil, rInil_iface, push_cast, seval]
 | some n =>
   rw [hv] at ha
   simp only [atoiV] at ha
   have hb := hbd n hv
   have ht := toE (T := T) (p := p) (text42_any (n := n) (by omega) (by omega) r.length)
   simp only
   by_cases hn : IsN n r.length
   ·rw [if_pos hn, if_pos hn] at ht
    by_cases hd : decT n r.length = s
    ·rw [hd] at ht
     cases b with
     | true =>
       by_cases hr : r = []
       ·rw [if_neg (fun h => h.2.2 rfl hr)]
        subst hr
        rw [List.append_nil] at ha
        refine Pure.intro F33_ok (by simp [F33]) ?_
        simp (maxSteps:=9^7) (disch:=first|exact dI|fail) only [F33, h0b, push_cast, seval]
        refine ACall.pure hc rfl ?_
        simp (maxSteps:=9^7) (disch:=first|exact dI|fail) only [push_cast, seval]
        refine ACall.pure ha rfl ?_
        simp (maxSteps:=9^7) (disch:=first|exact dI|fail) only [push_cast, seval]
        refine ACall.pure ht rfl ?_
        simp (maxSteps:=9^7) (disch:=first|exact dI|fail) only [xRun_inil, rInil_nili, push_cast, seval]
       ·rw [if_pos ⟨hn, hd, fun _ => hr⟩]
        have hrb : decide (r = []) = false := decide_eq_false hr
        refine Pure.intro F33_ok (by simp [F33]) ?_
        simp (maxSteps:=9^7) (disch:=first|exact dI|fail) only [F33, h0b, push_cast, seval]
        refine ACall.pure hc rfl ?_
        simp (maxSteps:=9^7) (disch:=first|exact dI|fail) only [push_cast, seval]
        refine ACall.pure ha rfl ?_
        simp (maxSteps:=9^7) (disch:=first|exact dI|fail) only [push_cast, seval]
        refine ACall.pure ht rfl ?_
        simp (maxSteps:=9^7) (disch:=first|exact dI|fail) only [hrb, xRun_inil, rInil_nili, push_cast, seval]
     | false =>
       rw [if_pos ⟨hn, hd, fun h => by cases h⟩]
       refine Pure.intro F33_ok (by simp [F33]) ?_
       simp (maxSteps:=9^7) (disch:=first|exact dI|fail) only [F33, h0b, push_cast, seval]
       refine ACall.pure hc rfl ?_
       simp (maxSteps:=9^7) (disch:=first|exact dI|fail) only [push_cast, seval]
       refine ACall.pure ha rfl ?_
       simp (maxSteps:=9^7) (disch:=first|exact dI|fail) only [push_cast, seval]
       refine ACall.pure ht rfl ?_
       simp (maxSteps:=9^7) (disch:=first|exact dI|fail) only [xRun_inil, rInil_nili, push_cast, seval]
    ·rw [if_neg (fun h => hd h.2.1)]
     generalize decT n r.length = t at *
     have htb : (!decide (t = s)) = true := by simp [hd]
     refine Pure.intro F33_ok (by simp [F33]) ?_
     simp (maxSteps:=9^7) (disch:=first|exact dI|fail) only [F33, h0b, push_cast, seval]
     refine ACall.pure hc rfl ?_
     simp (maxSteps:=9^7) (disch:=first|exact dI|fail) only [push_cast, seval]
     refine ACall.pure ha rfl ?_
     simp (maxSteps:=9^7) (disch:=first|exact dI|fail) only [push_cast, seval]
     refine ACall.pure ht rfl ?_
     simp (maxSteps:=9^7) (disch:=first|exact dI|fail) only [htb, xRun_inil, rInil_nili, push_cast, seval]
   ·rw [if_neg hn, if_neg hn] at ht
    rw [if_neg (fun h => hn h.1)]
    refine Pure.intro F33_ok (by simp [F33]) ?_
    simp (maxSteps:=9^7) (disch:=first|exact dI|fail) only [F33, h0b, push_cast, seval]
    refine ACall.pure hc rfl ?_
    simp (maxSteps:=9^7) (disch:=first|exact dI|fail) only [push_cast, seval]
    refine ACall.pure ha rfl ?_
    simp (maxSteps:=9^7) (disch:=first|exact dI|fail) only [push_cast, seval]
    refine ACall.pure ht rfl ?_
    simp (maxSteps:=9^7) (disch:=first|exact dI|fail) only [xRun_inil, rInil_nili, push_cast, seval]
end Go.Proofs.YtbaaokocnegdoaaGreatDoor
set_option maxRecDepth 100000
set_option linter.unusedVariables false
set_option linter.unusedSimpArgs false
-- many steps
namespace Go.Proofs.YtbaaokocnegdoaaGreatDoor
open Go Go.Ab
attribute [local irreducible] vc
def hexD : List UInt8 := [48, 49, 50, 51, 52, 53, 54, 55, 56, 57, 97, 98, 99, 100, 101, 102]
def nib (c : UInt8) : Int := fstB c hexD 0
theorem nib_all : ∀ c : UInt8, -1 ≤ nib c ∧ nib c ≤ 15 ∧ (0 ≤ nib c → hexD[(nib c).toNat]? = some c) := by
 have key : ∀ k : Fin 256, -1 ≤ nib (UInt8.ofNat k.val) ∧ nib (UInt8.ofNat k.val) ≤ 15 ∧ (0 ≤ nib (UInt8.ofNat k.val) → hexD[(nib (UInt8.ofNat k.val)).toNat]? = some (UInt8.ofNat k.val)) := by decide +kernel
 intro c
 have h := key ⟨c.toNat, c.toNat_lt⟩
 simpa using h
theorem nib73 (c : UInt8) : Pure Tryz.prog tabG 73 [.str hexD, .int .u8 (c.toNat : Int)] (.int .i64 (nib c)) := by
 have h := index73 hexD (c.toNat : Int)
 rw [show ((c.toNat : Int)).toNat.toUInt8 = c by simp] at h
 exact h
theorem nibble82 (c : UInt8) : Pure Tryz.prog tabG 82 [.int .u8 (c.toNat : Int)] (.int .i64 (nib c)) := by
 obtain ⟨R, hR⟩ : ∃ R, R = nib c := ⟨_, rfl⟩
 rw [← hR]
 refine Pure.intro F82_ok (by simp [F82]) ?_
 simp (maxSteps:=9^7) (disch:=first|exact dI|fail) only [F82, push_cast, seval]
 refine vc_over ([]) (fun i : Nat => [(3, .pv (.int .i64 (i : Int)))]) (fun _ => []) (fun i => i ≤ 16 ∧ R = fstB c (hexD.drop i) i) (fun i => 16 - i) (0) ?_; intro e0 σ0 n0 h0; simp (maxSteps:=9^7) (disch:=first|exact dI|fail) only [push_cast, seval] at h0; obtain ⟨rfl, rfl, rfl⟩ := h0; refine ⟨?_, ?_, ?_⟩
 ·simp (maxSteps:=9^7) (disch:=first|exact dI|fail) only [push_cast, seval]
 ·exact ⟨by omega, hR⟩
 rintro i ⟨h1, h2⟩
 by_cases hi : i < 16
 ·obtain ⟨x, hx⟩ : ∃ x, hexD[i]? = some x := ⟨_, List.getElem?_eq_getElem hi⟩
  rw [drop_at hx, fstB] at h2
  unfold hexD at hx
  by_cases he : c = x
  ·subst he
   rw [if_pos (by simp)] at h2
   subst h2
   simp (maxSteps:=9^7) (disch:=first|exact dI|fail) only [hx, byteO_some, push_cast, seval]
  ·rw [if_neg (by simpa using fun e => he e.symm)] at h2
   have hne : ¬ (c.toNat : Int) = (x.toNat : Int) := fun h => he ((u8n c x).1 h)
   simp (maxSteps:=9^7) (disch:=first|exact dI|fail) only [hx, byteO_some, hne, push_cast, seval]
   exact ⟨i + 1, hd_z (by simp (maxSteps:=9^7) (disch:=first|exact dI|fail) only [push_cast, seval]), ⟨by omega, h2⟩, by omega⟩
 ·have : i = 16 := by omega
  subst this
  have hm : R = -1 := h2
  subst hm
  simp (maxSteps:=9^7) (disch:=first|exact dI|fail) only [push_cast, seval]
def bytX (a b : UInt8) : UInt8 := UInt8.ofNat (16 * (nib a).toNat + (nib b).toNat)
def hexP : List UInt8 → Option (List UInt8)
 | [] => some []
 | [_] => none
 | a :: b :: r => if nib a < 0 ∨ nib b < 0 then none else (hexP r).map (bytX a b :: ·)
theorem hexP_odd : ∀ {s : List UInt8}, s.length % 2 = 1 → hexP s = none
 | [], h => by simp at h
 | [_], _ => rfl
 | a :: b :: r, h => by
   rw [hexP]
   split
   ·rfl
   ·rw [hexP_odd (s := r) (by simp only [List.length_cons] at h; omega)]; rfl
theorem shl4 {a : Int} (h0 : 0 ≤ a) (h1 : a ≤ 15) : rBin .shl (.pv (.int .i64 a)) (.pv (.int .u64 4)) = some (.pv (.int .i64 (a * 16))) := by
 have e : rBin .shl (.pv (.int .i64 a)) (.pv (.int .u64 4)) = some (.pv (.int .i64 (IntKind.i64.wrap (a * 16)))) := rfl
 rw [e, wrap_i64 (by omega) (by omega)]
theorem or4 {a b : Int} (h0 : 0 ≤ a) (h1 : a ≤ 15) (h2 : 0 ≤ b) (h3 : b ≤ 15) : bits .or .i64 (a * 16) b = a * 16 + b := by
 have key : ∀ x y : Fin 16, bits .or .i64 (((x.val : Nat) : Int) * 16) ((y.val : Nat) : Int) = ((x.val : Nat) : Int) * 16 + ((y.val : Nat) : Int) := by decide +kernel
 have h := key ⟨a.toNat, by omega⟩ ⟨b.toNat, by omega⟩
 simp only at h
 rw [show ((a.toNat : Nat) : Int) = a by omega, show ((b.toNat : Nat) : Int) = b by omega] at h
 exact h
theorem bytX_nat {a b : UInt8} (ha : ¬ nib a < 0) (hb : ¬ nib b < 0) : ((bytX a b).toNat : Int) = nib a * 16 + nib b := by
 have h1 := nib_all a
 have h2 := nib_all b
 unfold bytX
 rw [UInt8.toNat_ofNat']
 omega
def hdU (s : List UInt8) : Nat × List UInt8 → St
 | (i, []) => ⟨[(0, .pv (.str s)), (4, .ptr 0 0), (5, .pv (.int .i64 (i : Int)))], [(0, .cells 89 true [.pv .nilp, .pv .nils])], 1⟩
 | (i, b :: r) => ⟨[(0, .pv (.str s)), (4, .ptr 0 0), (5, .pv (.int .i64 (i : Int)))], [(0, .cells 89 true [.ptr 0 0, .row 1 1 0 (r.length + 1)]), (1, .cells 5 false ((bytesP (b :: r)).map .pv))], 2⟩
def exU : List UInt8 → St
 | [] => ⟨[(4, .ptr 0 0)], [(0, .cells 89 true [.pv .nilp, .pv .nils])], 1⟩
 | b :: r => ⟨[(4, .ptr 0 0)], [(0, .cells 89 true [.ptr 0 0, .row 1 1 0 (r.length + 1)]), (1, .cells 5 false ((bytesP (b :: r)).map .pv))], 2⟩
def hexV : Option (List UInt8) → PV
 | some b => .tup [.str b, .bool true]
 | none => .tup [.str [], .bool false]
theorem unhex34 (s : List UInt8) (hl : s.length ≤ 1000) : Pure Tryz.prog tabG 34 [.str s] (hexV (hexP s)) := by
 obtain ⟨R, hR⟩ : ∃ R, R = hexP s := ⟨_, rfl⟩
 rw [← hR]
 have hm := tmod_n (a := (s.length : Int)) (b := 2) (by omega)
 refine Pure.intro F34_ok (by simp [F34]) ?_
 by_cases h2 : s.length % 2 = 1
 ·rw [hexP_odd h2] at hR
  subst hR
  have hI : ¬ (s.length : Int) % 2 = 0 := by omega
  simp (maxSteps:=9^7) (disch:=first|exact dI|fail) only [F34, hm, hexV, push_cast, seval]
 have hI : (s.length : Int) % 2 = 0 := by omega
 simp (maxSteps:=9^7) (disch:=first|exact dI|fail) only [F34, hm, hI, push_cast, seval]
 refine vc_meetS (hdU s) (fun y => y.1 ≤ s.length ∧ y.1 % 2 = 0 ∧ y.2.length ≤ y.1 ∧ R = (hexP (s.drop y.1)).map (y.2 ++ ·)) (fun y => s.length - y.1) (0, []) [4] exU (fun l => R = some l ∧ l.length ≤ 1000) ?_ ?_ ?_ ?_
 ·exact hd_z (by simp (maxSteps:=9^7) (disch:=first|exact dI|fail) only [hdU, push_cast, seval])
 ·exact ⟨by simp, by simp, by simp, by simp [hR]⟩
 ·rintro ⟨i, l⟩ ⟨h1, h3, h4, h5⟩
  simp only at h1 h3 h4 h5
  by_cases hi : i < s.length
  ·obtain ⟨x, hx⟩ : ∃ x, s[i]? = some x := ⟨_, List.getElem?_eq_getElem hi⟩
   obtain ⟨y, hy⟩ : ∃ y, s[i + 1]? = some y := ⟨_, List.getElem?_eq_getElem (by omega)⟩
   rw [drop_at hx, drop_at hy, hexP] at h5
   have n1 := nib73 x
   have n2 := nib73 y
   unfold hexD at n1 n2
   have a1 := nib_all x
   have a2 := nib_all y
   by_cases hxn : nib x < 0
   ·rw [if_pos (Or.inl hxn)] at h5
    have hR2 : R = none := h5
    rw [hR2]
    cases l with
    | nil =>
      simp (maxSteps:=9^7) (disch:=first|exact dI|fail) only [hdU, hx, hy, byteO_some, push_cast, seval]
      refine callDL_pure n1 rfl ?_
      simp (maxSteps:=9^7) (disch:=first|exact dI|fail) only [hdU, hx, hy, byteO_some, push_cast, seval]
      refine ACall.pure n2 rfl ?_
      simp (maxSteps:=9^7) (disch:=first|exact dI|fail) only [hexV, push_cast, seval]
    | cons b r =>
      simp (maxSteps:=9^7) (disch:=first|exact dI|fail) only [hdU, hx, hy, byteO_some, push_cast, seval]
      refine callDL_pure n1 rfl ?_
      simp (maxSteps:=9^7) (disch:=first|exact dI|fail) only [hdU, hx, hy, byteO_some, push_cast, seval]
      refine ACall.pure n2 rfl ?_
      simp (maxSteps:=9^7) (disch:=first|exact dI|fail) only [hexV, push_cast, seval]
   ·by_cases hyn : nib y < 0
    ·rw [if_pos (Or.inr hyn)] at h5
     have hR2 : R = none := h5
     rw [hR2]
     cases l with
     | nil =>
       simp (maxSteps:=9^7) (disch:=first|exact dI|fail) only [hdU, hx, hy, byteO_some, push_cast, seval]
       refine callDL_pure n1 rfl ?_
       simp (maxSteps:=9^7) (disch:=first|exact dI|fail) only [hdU, hx, hy, byteO_some, push_cast, seval]
       refine ACall.pure n2 rfl ?_
       simp (maxSteps:=9^7) (disch:=first|exact dI|fail) only [hexV, push_cast, seval]
     | cons b r =>
       simp (maxSteps:=9^7) (disch:=first|exact dI|fail) only [hdU, hx, hy, byteO_some, push_cast, seval]
       refine callDL_pure n1 rfl ?_
       simp (maxSteps:=9^7) (disch:=first|exact dI|fail) only [hdU, hx, hy, byteO_some, push_cast, seval]
       refine ACall.pure n2 rfl ?_
       simp (maxSteps:=9^7) (disch:=first|exact dI|fail) only [hexV, push_cast, seval]
    ·rw [if_neg (by rintro (h | h); exact hxn h; exact hyn h)] at h5
     have hs4 := shl4 (a := nib x) (by omega) (by omega)
     have ho4 := or4 (a := nib x) (b := nib y) (by omega) (by omega) (by omega) (by omega)
     have hbn := bytX_nat hxn hyn
     have hw := wrap_u8 (n := nib x * 16 + nib y) (by omega) (by omega)
     have h5' : R = (hexP (s.drop (i + 2))).map (l ++ [bytX x y] ++ ·) := by
      rw [h5, Option.map_map]
      congr 1
      funext q; simp
     cases l with
     | nil =>
       have hW := writeB false [] (bytX x y) (by simp)
       simp only [bB, aB, List.nil_append] at hW
       rw [hbn] at hW
       simp (maxSteps:=9^7) (disch:=first|exact dI|fail) only [hdU, hx, hy, byteO_some, push_cast, seval]
       refine callDL_pure n1 rfl ?_
       simp (maxSteps:=9^7) (disch:=first|exact dI|fail) only [hdU, hx, hy, byteO_some, push_cast, seval]
       refine ACall.pure n2 rfl ?_
       simp (maxSteps:=9^7) (disch:=first|exact dI|fail) only [hs4, ho4, hw, push_cast, seval]
       refine ACall.lentK hW [0] rfl (by simp (maxSteps:=9^7) (disch:=first|exact dI|fail) only [push_cast, seval]) (by simp (maxSteps:=9^7) (disch:=first|exact dI|fail) only [push_cast, seval]) ?_
       simp (maxSteps:=9^7) (disch:=first|exact dI|fail) only [push_cast, seval]
       exact ⟨(i + 2, [bytX x y]), hd_z (by simp (maxSteps:=9^7) (disch:=first|exact dI|fail) only [hdU, push_cast, seval]; omega), ⟨by simp only; omega, by simp only; omega, by simp, by simpa using h5'⟩, by simp only; omega⟩
     | cons b r =>
       have hW := writeB true (b :: r) (bytX x y) (by simp at h4 ⊢; omega)
       simp only [bB, aB, List.cons_append] at hW
       rw [hbn] at hW
       simp (maxSteps:=9^7) (disch:=first|exact dI|fail) only [hdU, hx, hy, byteO_some, push_cast, seval]
       refine callDL_pure n1 rfl ?_
       simp (maxSteps:=9^7) (disch:=first|exact dI|fail) only [hdU, hx, hy, byteO_some, push_cast, seval]
       refine ACall.pure n2 rfl ?_
       simp (maxSteps:=9^7) (disch:=first|exact dI|fail) only [hs4, ho4, hw, push_cast, seval]
       refine ACall.lentK hW [0, 1] rfl (by simp (maxSteps:=9^7) (disch:=first|exact dI|fail) only [push_cast, seval]) (by simp (maxSteps:=9^7) (disch:=first|exact dI|fail) only [push_cast, seval]) ?_
       simp (maxSteps:=9^7) (disch:=first|exact dI|fail) only [push_cast, seval]
       exact ⟨(i + 2, b :: (r ++ [bytX x y])), hd_z (by simp (maxSteps:=9^7) (disch:=first|exact dI|fail) only [hdU, push_cast, seval]; omega), ⟨by simp only; omega, by simp only; omega, by simp at h4 ⊢; omega, by simpa using h5'⟩, by simp only; omega⟩
  ·have hie : i = s.length := by omega
   rw [List.drop_eq_nil_of_le (by omega), hexP, Option.map_some, List.append_nil] at h5
   cases l with
   | nil =>
     simp (maxSteps:=9^7) (disch:=first|exact dI|fail) only [hdU, push_cast, seval]
     exact ⟨[], hd_z (by simp (maxSteps:=9^7) (disch:=first|exact dI|fail) only [exU, push_cast, seval]), h5, by simp⟩
   | cons b r =>
     simp (maxSteps:=9^7) (disch:=first|exact dI|fail) only [hdU, push_cast, seval]
     exact ⟨b :: r, hd_z (by simp (maxSteps:=9^7) (disch:=first|exact dI|fail) only [exU, push_cast, seval]), h5, by omega⟩
 ·rintro l ⟨h1, h2⟩
  rw [h1]
  cases l with
  | nil =>
    have hSt := stringB false [] (by simp)
    simp only [bB, aB, stB] at hSt
    simp (maxSteps:=9^7) (disch:=first|exact dI|fail) only [exU, push_cast, seval]
    refine ACall.lentK hSt [0] rfl (by simp (maxSteps:=9^7) (disch:=first|exact dI|fail) only [push_cast, seval]) (by simp (maxSteps:=9^7) (disch:=first|exact dI|fail) only [push_cast, seval]) ?_
    simp (maxSteps:=9^7) (disch:=first|exact dI|fail) only [hexV, push_cast, seval]
  | cons b r =>
    have hSt := stringB true (b :: r) (by omega)
    simp only [bB, aB, stB] at hSt
    simp (maxSteps:=9^7) (disch:=first|exact dI|fail) only [exU, push_cast, seval]
    refine ACall.lentK hSt [0, 1] rfl (by simp (maxSteps:=9^7) (disch:=first|exact dI|fail) only [push_cast, seval]) (by simp (maxSteps:=9^7) (disch:=first|exact dI|fail) only [push_cast, seval]) ?_
    simp (maxSteps:=9^7) (disch:=first|exact dI|fail) only [hexV, push_cast, seval]
end Go.Proofs.YtbaaokocnegdoaaGreatDoor
