/- A part of the proof for DelimitedValuesCardSaid. -/
import Derived.Test.YtbaaokocnegdoaaGreatDoorValWU
set_option maxRecDepth 100000
set_option linter.unusedVariables false
set_option linter.unusedSimpArgs false
namespace Go.Proofs.YtbaaokocnegdoaaGreatDoor
open Go Go.Ab
attribute [local irreducible] vc
theorem ge_ne {l : List UInt8} {i : Nat} (h : i < l.length) : ∃ b, l[i]? = some b := ⟨_, List.getElem?_eq_getElem h⟩
theorem decode116 (l : List UInt8) (hmax : l.length ≤ 9223372036854775807) : Pure Tryz.prog tabG 165 [.str l] (.tup [.int .i64 (decP l).1, .int .i64 (decP l).2]) := by
 by_cases hne : l = []
 ·subst hne; exact dec_empty
 have hl0 : 0 < l.length := List.length_pos_iff.2 hne
 obtain ⟨b, hb⟩ := ge_ne hl0
 have h0 := byN_at hb
 have hbl : b.toNat < 256 := UInt8.toNat_lt _
 by_cases c1 : b.toNat < 128
 ·refine dec1 l b hb c1 hmax (decP l) ?_
  rw [dec_1 hne (by omega), h0, if_pos (by omega), restP, if_pos (show contU l 1 = true from rfl)]
  have e1 : l.take 1 = [b] := by rw [take_snoc hb]; rfl
  have e2 : encP b.toNat = [b] := by rw [encP, if_pos c1]; simp
  have e3 : ptOk b.toNat = true := by simp [ptOk]; omega
  show _ = if ptOk b.toNat = true ∧ encP b.toNat = l.take 1 then (b.toNat, 1) else (0, 0)
  rw [if_pos ⟨e3, by rw [e1, e2]⟩]
 by_cases c2 : b.toNat < 192
 ·have := dec_else l b hb (.inl ⟨by omega, c2⟩)
  rwa [dec_bad hne (by omega)]
 by_cases c3 : b.toNat < 224
 ·refine dec2 l b hb (b.toNat - 192) (by omega) ⟨by omega, c3⟩ hmax (decP l) ?_
  rw [dec_2 hne (by omega), h0]
  by_cases hlen : 2 ≤ l.length
  ·obtain ⟨c, hc⟩ := ge_ne (l := l) (i := 1) (by omega)
   have h1 := byN_at hc
   rw [if_pos hlen, h1, restP]
   by_cases k1 : 128 ≤ c.toNat ∧ c.toNat < 192
   ·have hcu : contU l 2 = true := by simp [contU, allU, h1, k1]
    have hacc : accP l (b.toNat - 192) (2 - 1) = 64 * (b.toNat - 192) + (c.toNat - 128) := by simp [accP, h1]
    have henc := enc_2 ⟨by omega, c3⟩ k1
    rw [if_pos hcu, hacc, take_2 hb hc]
    have hpt : ptOk (64 * (b.toNat - 192) + (c.toNat - 128)) = true := by simp [ptOk]; omega
    by_cases k2 : 128 ≤ 64 * (b.toNat - 192) + (c.toNat - 128)
    ·rw [if_pos ⟨by omega, k1, k2⟩, if_pos ⟨hpt, henc.2 k2⟩]
    ·rw [if_neg (fun h => k2 h.2.2), if_neg (fun h => k2 (henc.1 h.2))]
   ·have hcu : contU l 2 = false := by
     refine allU_false (k := 0) ?_ (by omega)
     simp [h1]; omega
    rw [if_neg (fun h => k1 h.2.1), if_neg (by rw [hcu]; simp)]
  ·rw [if_neg hlen, if_neg (by omega)]
 by_cases c4 : b.toNat < 240
 ·refine dec3 l b hb (b.toNat - 224) (by omega) ⟨by omega, c4⟩ hmax (decP l) ?_
  rw [dec_3 hne (by omega), h0]
  by_cases hlen : 3 ≤ l.length
  ·obtain ⟨c, hc⟩ := ge_ne (l := l) (i := 1) (by omega)
   obtain ⟨d, hd⟩ := ge_ne (l := l) (i := 2) (by omega)
   have h1 := byN_at hc
   have h2 := byN_at hd
   rw [if_pos hlen, h1, h2, restP]
   by_cases k1 : 128 ≤ c.toNat ∧ c.toNat < 192
   ·by_cases k2 : 128 ≤ d.toNat ∧ d.toNat < 192
    ·have hcu : contU l 3 = true := by simp [contU, allU, h1, h2, k1, k2]
     have hacc : accP l (b.toNat - 224) (3 - 1) = 4096 * (b.toNat - 224) + 64 * (c.toNat - 128) + (d.toNat - 128) := by simp [accP, h1, h2]; omega
     have henc := enc_3 ⟨by omega, c4⟩ k1 k2
     rw [if_pos hcu, hacc, take_3 hb hc hd]
     have hp : 4096 * (b.toNat - 224) + 64 * (c.toNat - 128) + (d.toNat - 128) ≤ 65535 := by omega
     generalize 4096 * (b.toNat - 224) + 64 * (c.toNat - 128) + (d.toNat - 128) = p at *
     have hpt : ptOk p = true ↔ (p < 55296 ∨ 57343 < p) := by simp [ptOk]; omega
     by_cases k3 : 2048 ≤ p ∧ (p < 55296 ∨ 57343 < p)
     ·rw [if_pos ⟨by omega, k1, k2, k3⟩, if_pos ⟨hpt.2 k3.2, henc.2 k3.1⟩]
     ·rw [if_neg (fun h => k3 h.2.2.2), if_neg (fun h => k3 ⟨henc.1 h.2, hpt.1 h.1⟩)]
    ·have hcu : contU l 3 = false := by
      refine allU_false (k := 1) ?_ (by omega)
      simp [h2]; omega
     rw [if_neg (fun h => k2 h.2.2.1), if_neg (by rw [hcu]; simp)]
   ·have hcu : contU l 3 = false := by
     refine allU_false (k := 0) ?_ (by omega)
     simp [h1]; omega
    rw [if_neg (fun h => k1 h.2.1), if_neg (by rw [hcu]; simp)]
  ·rw [if_neg hlen, if_neg (by omega)]
 by_cases c5 : b.toNat < 248
 ·refine dec4 l b hb (b.toNat - 240) (by omega) ⟨by omega, c5⟩ hmax (decP l) ?_
  rw [dec_4 hne (by omega), h0]
  by_cases hlen : 4 ≤ l.length
  ·obtain ⟨c, hc⟩ := ge_ne (l := l) (i := 1) (by omega)
   obtain ⟨d, hd⟩ := ge_ne (l := l) (i := 2) (by omega)
   obtain ⟨e, he⟩ := ge_ne (l := l) (i := 3) (by omega)
   have h1 := byN_at hc
   have h2 := byN_at hd
   have h3 := byN_at he
   rw [if_pos hlen, h1, h2, h3, restP]
   by_cases k1 : 128 ≤ c.toNat ∧ c.toNat < 192
   ·by_cases k2 : 128 ≤ d.toNat ∧ d.toNat < 192
    ·by_cases k3 : 128 ≤ e.toNat ∧ e.toNat < 192
     ·have hcu : contU l 4 = true := by simp [contU, allU, h1, h2, h3, k1, k2, k3]
      have hacc : accP l (b.toNat - 240) (4 - 1) = 262144 * (b.toNat - 240) + 4096 * (c.toNat - 128) + 64 * (d.toNat - 128) + (e.toNat - 128) := by simp [accP, h1, h2, h3]; omega
      have henc := enc_4 ⟨by omega, c5⟩ k1 k2 k3
      rw [if_pos hcu, hacc, take_4 hb hc hd he]
      have hp : 262144 * (b.toNat - 240) + 4096 * (c.toNat - 128) + 64 * (d.toNat - 128) + (e.toNat - 128) ≤ 2097151 := by omega
      generalize 262144 * (b.toNat - 240) + 4096 * (c.toNat - 128) + 64 * (d.toNat - 128) + (e.toNat - 128) = p at *
      by_cases k5 : p ≤ 1114111
      ·have henc := henc k5
       by_cases k4 : 65536 ≤ p
       ·have hpt : ptOk p = true := by simp [ptOk]; omega
        rw [if_pos ⟨by omega, k1, k2, k3, k4, k5⟩, if_pos ⟨hpt, henc.2 k4⟩]
       ·rw [if_neg (fun h => k4 h.2.2.2.2.1), if_neg (fun h => k4 (henc.1 h.2))]
      ·have hpt : ¬ ptOk p = true := by simp [ptOk]; omega
       rw [if_neg (fun h => k5 h.2.2.2.2.2), if_neg (fun h => hpt h.1)]
     ·have hcu : contU l 4 = false := by
       refine allU_false (k := 2) ?_ (by omega)
       simp [h3]; omega
      rw [if_neg (fun h => k3 h.2.2.2.1), if_neg (by rw [hcu]; simp)]
    ·have hcu : contU l 4 = false := by
      refine allU_false (k := 1) ?_ (by omega)
      simp [h2]; omega
     rw [if_neg (fun h => k2 h.2.2.1), if_neg (by rw [hcu]; simp)]
   ·have hcu : contU l 4 = false := by
     refine allU_false (k := 0) ?_ (by omega)
     simp [h1]; omega
    rw [if_neg (fun h => k1 h.2.1), if_neg (by rw [hcu]; simp)]
  ·rw [if_neg hlen, if_neg (by omega)]
 ·have := dec_else l b hb (.inr (by omega))
  rwa [dec_bad hne (by omega)]
def firstU (l : List UInt8) : Nat → Nat → Int
 | 0, _ => -1
 | f + 1, m => if m < l.length then (if (decP (l.drop m)).2 = 0 then (m : Int) else firstU l f (m + (decP (l.drop m)).2)) else -1
theorem firstU_valid (l : List UInt8) : ∀ (f m : Nat), l.length - m ≤ f → m ≤ l.length → (Lib.validD (l.drop m) = true → firstU l f m = -1) ∧ (Lib.validD (l.drop m) = false → 0 ≤ firstU l f m)
 | 0, m, h, hm => by
   have e : l.drop m = [] := List.drop_eq_nil_of_le (by omega)
   rw [e, Lib.validD_nil]
   exact ⟨fun _ => rfl, fun h => by cases h⟩
 | f + 1, m, h, hm => by
   by_cases hlt : m < l.length
   ·have hne : l.drop m ≠ [] := by intro e; have := congrArg List.length e; rw [List.length_drop, List.length_nil] at this; omega
    rw [valid_step hne, firstU, if_pos hlt]
    by_cases hw : (decP (l.drop m)).2 = 0
    ·rw [if_pos hw, if_pos hw]
     exact ⟨fun h => (by cases h), fun _ => by omega⟩
    ·rw [if_neg hw, if_neg hw, List.drop_drop]
     have hle := dec_le (l.drop m)
     rw [List.length_drop] at hle
     have := firstU_valid l f (m + (decP (l.drop m)).2) (by omega) (by omega)
     exact this
   ·have e : l.drop m = [] := List.drop_eq_nil_of_le (by omega)
    rw [e, Lib.validD_nil, firstU, if_neg hlt]
    exact ⟨fun _ => rfl, fun h => by cases h⟩
theorem first90 (l : List UInt8) (hmax : l.length ≤ 9223372036854775807) : Pure Tryz.prog tabG 115 [.str l] (.int .i64 (firstU l l.length 0)) := by
 refine Pure.intro F115_ok (by simp [F115]) ?_
 generalize hZ : firstU l l.length 0 = Z
 simp (disch:=first|exact dI|fail) only [F115, push_cast, seval]
 refine vc_over ([]) (fun m : Nat => [(3, .pv (.int .i64 (m : Int)))]) (fun m => []) (fun m => m ≤ l.length ∧ ∃ f, l.length - m ≤ f ∧ Z = firstU l f m) (fun m => l.length - m) (0) ?_; intro e0 σ0 n0 h0; simp (disch:=first|exact dI|fail) only [push_cast, seval] at h0; obtain ⟨rfl, rfl, rfl⟩ := h0; refine ⟨?_, ?_, ?_⟩
 ·simp (disch:=first|exact dI|fail) only [push_cast, seval]
 ·exact ⟨by omega, l.length, by omega, hZ.symm⟩
 ·rintro m ⟨hm, f, hf, he⟩
  by_cases hlt : m < l.length
  ·have hltI : (m : Int) < l.length := by omega
   have hcall := decode116 (l.drop m) (by rw [List.length_drop]; omega)
   have hle := dec_le (l.drop m)
   rw [List.length_drop] at hle
   obtain ⟨f', rfl⟩ : ∃ f', f = f' + 1 := ⟨f - 1, by omega⟩
   rw [firstU, if_pos hlt] at he
   generalize hw : decP (l.drop m) = w at *
   obtain ⟨w1, w2⟩ := w
   simp only at hcall hle he
   simp (disch:=first|exact dI|fail) only [List.take_length, push_cast, seval]
   refine ACall.pure hcall rfl ?_
   by_cases h0 : w2 = 0
   ·have h0I : (w2 : Int) = 0 := by omega
    rw [if_pos h0] at he
    rw [he]
    simp (disch:=first|exact dI|fail) only [push_cast, seval]
   ·have h0I : ¬ (w2 : Int) = 0 := by omega
    rw [if_neg h0] at he
    simp (disch:=first|exact dI|fail) only [push_cast, seval]
    exact ⟨m + w2, hd_z (by simp (disch:=first|exact dI|fail) only [push_cast, seval]), ⟨by omega, f', by omega, he⟩, by omega⟩
  ·have hltI : ¬ (m : Int) < l.length := by omega
   have : Z = -1 := by
    rw [he]
    cases f with
    | zero => rfl
    | succ f => rw [firstU, if_neg hlt]
   rw [this]
   simp (disch:=first|exact dI|fail) only [push_cast, seval]
end Go.Proofs.YtbaaokocnegdoaaGreatDoor
