/- A part of the proof for ResolveTextsCardSaid. -/
import Derived.Test.YtfbakipopjoghaaDoorTextF
import Derived.Test.YtfbakipopjoghaaDoorCore4
import Derived.Test.YtfbakipopjoghaaDoorTextXSh
set_option maxRecDepth 100000
namespace Go.Proofs.YtfbakipopjoghaaDoor
open Go Go.Ab

/-- What the tables hold that the functions read. -/
def tabG : Nat → List PV := fun g => if g = 1 then Lib.pow10Tab.map (PV.int .u64) else []

theorem itoa_ok (n : Int) (h0 : -9223372036854775808 ≤ n) (h1 : n ≤ 9223372036854775807) : Pure Tryd.prog tabG 80 [.int .i64 n] (.str (itoaT n)) :=
  itoa_pure (name := "internal/strconv.uint64pow10") (g := 1) (by kernel_rfl) (by kernel_rfl) rfl (fun n h0 h1 w ht => Tryd.strconv_Itoa n h0 h1 w ht) n h0 h1
theorem join_ok (l : List (List UInt8)) (sep : List UInt8) (hN : l.length ≤ 140737488355328) (hlen : (joinT sep l).length ≤ 140737488355328) : Pure Tryd.prog tabG 60 [.list (l.map .str), .str sep] (.str (joinT sep l)) :=
  join_pure (by kernel_rfl) (fun a c sep w => Tryd.strings_Join_none a c sep w) (fun bk o c xs sep w h1 h2 h3 h4 h5 => Tryd.strings_Join bk o c xs sep w h1 h2 h3 h4 h5) l sep hN hlen
theorem join_nils (sep : List UInt8) : Pure Tryd.prog tabG 60 [.nils, .str sep] (.str []) :=
  join_pure_nils (by kernel_rfl) (fun a c sep w => Tryd.strings_Join_none a c sep w) sep
theorem compare_ok (a b : List UInt8) : Pure Tryd.prog tabG 64 [.str a, .str b] (.int .i64 (Lib.compareBytes a b)) :=
  compare_pure (by kernel_rfl) (fun a b w => Tryd.strings_Compare a b w) a b

/-! ### the examples of the document -/
def strsT : List PV → Option (List (List UInt8))
  | [] => some []
  | .str s :: r => match strsT r with
    | some l => some (s :: l)
    | none => none
  | _ => none
theorem strsT_eq : ∀ {l : List PV} {ss : List (List UInt8)}, strsT l = some ss → l = ss.map .str
  | [], ss, h => by simp only [strsT, Option.some.injEq] at h; subst h; rfl
  | x :: r, ss, h => by
    unfold strsT at h
    split at h
    · cases ‹_ :: _ = []›
    · rename_i s r' he
      cases he
      split at h
      · rename_i l hl
        cases h
        rw [strsT_eq hl]; rfl
      · cases h
    · cases h
def orc (f : Nat) (ps : List PV) : Option PV :=
  match f with
  | 80 => match ps with
    | [.int .i64 n] => if -9223372036854775808 ≤ n ∧ n ≤ 9223372036854775807 then some (.str (itoaT n)) else none
    | _ => none
  | 60 => match ps with
    | [.list l, .str s] => match strsT l with
      | some ss => if ss.length ≤ 140737488355328 ∧ (joinT s ss).length ≤ 140737488355328 then some (.str (joinT s ss)) else none
      | none => none
    | _ => none
  | _ => none
theorem orc_ok : ∀ f ps r, orc f ps = some r → Pure Tryd.prog tabG f ps r := by
  intro f ps r h
  unfold orc at h
  split at h
  · split at h
    · split at h
      · rename_i hh
        cases h
        exact itoa_ok _ hh.1 hh.2
      · cases h
    · cases h
  · split at h
    · split at h
      · rename_i hs
        split at h
        · rename_i hh
          cases h
          rw [strsT_eq hs]
          exact join_ok _ _ hh.1 hh.2
        · cases h
      · cases h
    · cases h
  · cases h
def tab : List TabRow := [
  ⟨14, [], F14⟩,
  ⟨47, [], F47⟩,
  ⟨48, [], F48⟩,
  ⟨37, [1], F37⟩,
  ⟨68, [2, 3], F68⟩,
  ⟨75, [], F75⟩,
  ⟨102, [15, 34], F102⟩,
  ⟨92, [], F92⟩,
  ⟨93, [], F93⟩,
  ⟨70, [], F70⟩,
  ⟨74, [], F74⟩,
  ⟨94, [], F94⟩,
  ⟨97, [], F97⟩,
  ⟨98, [], F98⟩,
  ⟨99, [], F99⟩,
  ⟨100, [1], F100⟩,
  ⟨95, [1], F95⟩,
  ⟨96, [1], F96⟩,
  ⟨40, [], F40⟩,
  ⟨17, [], F17⟩,
  ⟨49, [], F49⟩,
  ⟨15, [], F15⟩,
  ⟨12, [1], F12⟩,
  ⟨45, [], F45⟩,
  ⟨46, [1], F46⟩,
  ⟨79, [], F79⟩]
theorem tab_ok : ∀ r ∈ tab, cFn Tryd.prog r.muts r.f = some r.fn := by
  intro r hr
  simp only [tab, List.mem_cons, List.not_mem_nil, or_false] at hr
  rcases hr with rfl | rfl | rfl | rfl | rfl | rfl | rfl | rfl | rfl | rfl | rfl | rfl | rfl | rfl | rfl | rfl | rfl | rfl | rfl | rfl | rfl | rfl | rfl | rfl | rfl | rfl
  · exact F14_ok
  · exact F47_ok
  · exact F48_ok
  · exact F37_ok
  · exact F68_ok
  · exact F75_ok
  · exact F102_ok
  · exact F92_ok
  · exact F93_ok
  · exact F70_ok
  · exact F74_ok
  · exact F94_ok
  · exact F97_ok
  · exact F98_ok
  · exact F99_ok
  · exact F100_ok
  · exact F95_ok
  · exact F96_ok
  · exact F40_ok
  · exact F17_ok
  · exact F49_ok
  · exact F15_ok
  · exact F12_ok
  · exact F45_ok
  · exact F46_ok
  · exact F79_ok

theorem known_ex : pcall (exF tab orc tabG 2000 30) 14 [] = some (.bool true) := by kernel_rfl
/-- The examples of the document hold. -/
theorem known_ok : Pure Tryd.prog tabG 14 [] (.bool true) := Pure.of_ex tab_ok orc_ok known_ex
end Go.Proofs.YtfbakipopjoghaaDoor
