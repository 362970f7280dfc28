/- A part of the proof for FixedwidthCellsCardSaid. -/
import Derived.Test.YtedanlflegfomaaGreatDoorCelGSh
import Derived.Test.YtedanlflegfomaaGreatDoorCelG5
import Derived.Test.YtedanlflegfomaaGreatDoorCelF
import Derived.Test.YtedanlflegfomaaGreatDoorCelG6
import Derived.Test.YtedanlflegfomaaGreatDoorCelGD
import Derived.Test.YtedanlflegfomaaGreatDoorCore6
set_option maxRecDepth 100000
set_option linter.unusedVariables false
namespace Go.Proofs.YtedanlflegfomaaGreatDoor
open Go Go.Ab
def eqL (p : PV → PV → Bool) : List PV → List PV → Bool
 | [], [] => true
 | x :: r, y :: q => p x y && eqL p r q
 | _, _ => false
def eqP : Nat → PV → PV → Bool
 | n + 1, .int k a, .int k' b => decide (k = k') && decide (a = b)
 | n + 1, .str a, .str b => decide (a = b)
 | n + 1, .nils, .nils => true
 | n + 1, .agg a, .agg b => eqL (eqP n) a b
 | n + 1, .list a, .list b => eqL (eqP n) a b
 | _, _, _ => false
theorem eqL_eq {p : PV → PV → Bool} (hp : ∀ x y, p x y = true → x = y) : ∀ a b, eqL p a b = true → a = b
 | [], [], _ => rfl
 | x :: r, y :: q, h => by
   simp only [eqL, Bool.and_eq_true] at h
   rw [hp x y h.1, eqL_eq hp r q h.2]
 | [], y :: q, h => by simp [eqL] at h
 | x :: r, [], h => by simp [eqL] at h
theorem eqP_eq : ∀ n x y, eqP n x y = true → x = y
 | 0, x, y, h => by simp [eqP] at h
 | n + 1, x, y, h => by
   unfold eqP at h
   split at h
   ·simp only [Bool.and_eq_true, decide_eq_true_eq] at h; rw [h.1, h.2]
   ·simp only [decide_eq_true_eq] at h; rw [h]
   ·rfl
   ·rw [eqL_eq (eqP_eq _) _ _ h]
   ·rw [eqL_eq (eqP_eq _) _ _ h]
   ·cases h
def exF0 : List PV := [.agg [.int .i64 1, .str [105, 100], .int .i64 1, .int .i64 2, .int .i64 0, .int .i64 999, .int .i64 0, .nils, .nils, .nils, .nils], .agg [.int .i64 2, .str [110, 97, 109, 101], .int .i64 2, .int .i64 4, .int .i64 1, .int .i64 5, .int .i64 0, .nils, .nils, .nils, .nils], .agg [.int .i64 3, .str [100, 97, 121], .int .i64 1, .int .i64 6, .int .i64 0, .int .i64 30000, .int .i64 0, .nils, .nils, .nils, .nils]]
def exT0 : PV := .agg [.int .i64 9, .int .i64 0, .int .i64 0, .int .i64 0, .nils, .nils, .list exF0]
def exL0 : List PV := [.agg [.str [105, 100], .int .i64 2, .int .i64 7, .int .i64 0, .str [], .nils, .nils], .agg [.str [110, 97, 109, 101], .int .i64 4, .int .i64 0, .int .i64 0, .str [97, 98], .nils, .nils], .agg [.str [100, 97, 121], .int .i64 6, .int .i64 20773, .int .i64 0, .str [], .nils, .nils]]
def exR0 : PV := .agg [.int .i64 9, .int .i64 0, .int .i64 0, .str [], .nils, .list [.agg [.str [100, 97, 121], .int .i64 6, .int .i64 20773, .int .i64 0, .str [], .nils, .nils], .agg [.str [105, 100], .int .i64 2, .int .i64 7, .int .i64 0, .str [], .nils, .nils], .agg [.str [110, 97, 109, 101], .int .i64 4, .int .i64 0, .int .i64 0, .str [97, 98], .nils, .nils]]]
def line0 : PV := .str [32, 32, 55, 97, 98, 32, 32, 32, 50, 48, 50, 54, 45, 49, 49, 45, 49, 54]
def wid0 : PV := .list [.int .i64 3, .int .i64 5, .int .i64 10]
def orcB (f : Nat) (ps : List PV) : Option PV :=
 match f with
 | 102 => match ps with
   | [.int .i64 n] => if -9223372036854775808 ≤ n ∧ n ≤ 9223372036854775807 then some (.str (itoaT n)) else none
   | _ => none
 | 89 => match ps with
   | [.str a, .str b] => some (.int .i64 (Lib.compareBytes a b))
   | _ => none
 | 161 => match ps with
   | [.str a] => some (.bool (Lib.validD a))
   | _ => none
 | 25 => match ps with
   | [.str a, .int .i64 n] => if 0 ≤ n ∧ n ≤ 9223372036854775807 ∧ a.length * n.toNat ≤ 140737488355328 then some (.str (Lib.repeatL a n.toNat)) else none
   | _ => none
 | _ => none
theorem orcB_ok : ∀ f ps r, orcB f ps = some r → Pure Tryz.prog tabG f ps r := by
 intro f ps r h
 unfold orcB at h
 split at h
 ·split at h
  ·split at h
   ·rename_i hh; cases h; exact itoa_ok _ hh.1 hh.2
   ·cases h
  ·cases h
 ·split at h
  ·cases h; exact compare_ok _ _
  ·cases h
 ·split at h
  ·cases h; exact validString_ok _
  ·cases h
 ·split at h
  ·split at h
   ·rename_i hh; cases h; exact repeat_ok _ _ hh.1 hh.2.1 hh.2.2
   ·cases h
  ·cases h
 ·cases h
noncomputable def gFn (p : Nat × List Nat) : TabRow := ⟨p.1, p.2, (cFn Tryz.prog p.2 p.1).getD ⟨0, [], .skip⟩⟩
theorem tab_of {l : List (Nat × List Nat)} (h : (l.all fun p => (cFn Tryz.prog p.2 p.1).isSome) = true) : ∀ r ∈ l.map gFn, cFn Tryz.prog r.muts r.f = some r.fn := by
 intro r hr
 obtain ⟨p, hp, rfl⟩ := List.mem_map.1 hr
 have h := List.all_eq_true.1 h p hp
 simp only [gFn]
 cases h' : cFn Tryz.prog p.2 p.1 with
 | some x => rfl
 | none => rw [h'] at h; cases h
def rows12 : List (Nat × List Nat) := [(7, []), (8, []), (20, []), (21, []), (22, []), (23, []), (24, []), (26, [14]), (27, []), (28, []), (29, []), (38, []), (40, [33]), (48, []), (49, []), (50, []), (51, []), (54, []), (55, []), (56, []), (58, []), (60, []), (61, []), (64, []), (65, []), (66, []), (67, []), (68, []), (73, [19]), (81, []), (82, []), (83, []), (84, []), (85, []), (86, []), (87, []), (88, []), (95, []), (96, []), (98, []), (100, []), (101, []), (103, []), (104, []), (105, []), (106, []), (107, []), (108, []), (110, []), (111, []), (112, []), (113, []), (116, []), (121, []), (125, []), (129, []), (130, []), (131, []), (133, []), (135, []), (136, []), (142, []), (143, []), (144, []), (145, []), (147, []), (148, []), (149, []), (150, []), (151, []), (152, []), (160, [44]), (164, []), (165, []), (166, []), (167, []), (169, []), (178, []), (182, []), (183, []), (186, []), (187, []), (188, []), (190, []), (194, []), (195, [12]), (197, []), (198, []), (199, []), (212, []), (213, []), (215, []), (224, []), (225, []), (247, []), (252, [])]
theorem some12 : (rows12.all fun p => (cFn Tryz.prog p.2 p.1).isSome) = true := by kernel_rfl
theorem cell_a : Pure Tryz.prog tabG 38 [.str [32, 32, 55], exF0.getD 0 .undef] (.tup [.agg [.int .i64 2, .int .i64 7, .int .i64 0, .str [], .nils, .nils], .int .i64 0]) := Pure.of_ex (m := 5000) (n := 60) (tab_of some12) orcB_ok (by kernel_rfl)
theorem cell_b : Pure Tryz.prog tabG 38 [.str [97, 98, 32, 32, 32], exF0.getD 1 .undef] (.tup [.agg [.int .i64 4, .int .i64 0, .int .i64 0, .str [97, 98], .nils, .nils], .int .i64 0]) := Pure.of_ex (m := 5000) (n := 60) (tab_of some12) orcB_ok (by kernel_rfl)
theorem cell_c : Pure Tryz.prog tabG 38 [.str [50, 48, 50, 54, 45, 49, 49, 45, 49, 54], exF0.getD 2 .undef] (.tup [.agg [.int .i64 6, .int .i64 20773, .int .i64 0, .str [], .nils, .nils], .int .i64 0]) := Pure.of_ex (m := 5000) (n := 60) (tab_of some12) orcB_ok (by kernel_rfl)
theorem record_c : Pure Tryz.prog tabG 40 [.list exL0] exR0 := Pure.of_ex (m := 5000) (n := 60) (tab_of some12) orcB_ok (by kernel_rfl)
theorem repr20 : Pure Tryz.prog tabG 20 [exT0, wid0] (.int .i64 0) := Pure.of_ex (m := 5000) (n := 60) (tab_of some12) orcB_ok (by kernel_rfl)
end Go.Proofs.YtedanlflegfomaaGreatDoor
set_option maxRecDepth 100000
set_option linter.unusedVariables false
set_option linter.unusedSimpArgs false
-- many steps
namespace Go.Proofs.YtedanlflegfomaaGreatDoor
open Go Go.Ab
attribute [local irreducible] vc
theorem fail39 (a : Int) : Lent Tryz.prog tabG 1 39 [.ptr 0 0, .pv (.int .i64 a), .pv (.int .i64 0)] [.cells 88 true [.pv (.int .i64 0), .pv (.int .i64 0)]] (.pv (.tup [])) [.cells 88 true [.pv (.int .i64 0), .pv (.int .i64 0)]] := by
 refine Lent.intro F39_ok (by simp [F39]) ?_
 simp (maxSteps:=9^7) (disch:=first|exact dI|fail) only [F39, push_cast, seval]
 exact lent_z [] (by simp (maxSteps:=9^7) (disch:=first|exact dI|fail) only [push_cast, seval])
theorem rF1 (sz : Nat) (l : List PV) : rElem sz l 1 = onElem sz l 1 l[1]? := _root_.id rfl
theorem rF2 (sz : Nat) (l : List PV) : rElem sz l 2 = onElem sz l 2 l[2]? := _root_.id rfl
theorem flat_one (cs : List PV) : flat [PV.agg cs] = cs.map AV.pv := by simp [flat, PV.cells]
def fc0 : List PV := [.str [105, 100], .int .i64 2, .int .i64 7, .int .i64 0, .str [], .nils, .nils]
def fc1 : List PV := [.str [110, 97, 109, 101], .int .i64 4, .int .i64 0, .int .i64 0, .str [97, 98], .nils, .nils]
def fc2 : List PV := [.str [100, 97, 121], .int .i64 6, .int .i64 20773, .int .i64 0, .str [], .nils, .nils]
def rowC (i : Nat) : List AV := ((if i = 0 then [] else if i = 1 then fc0 else if i = 2 then fc0 ++ fc1 else fc0 ++ (fc1 ++ fc2)) : List PV).map .pv
theorem rowC_0 : rowC 0 = [] := rfl
theorem rowC_1 : rowC 1 = fc0.map .pv := rfl
theorem rowC_2 : rowC 2 = (fc0 ++ fc1).map .pv := rfl
theorem rowC_3 : rowC 3 = (fc0 ++ (fc1 ++ fc2)).map .pv := rfl
theorem frz3 : frzB 7 3 5 (.cells 34 false (rowC 3)) = some (.list [.agg fc0, .agg fc1, .agg fc2], [5]) := by kernel_rfl
set_option maxHeartbeats 4000000 in
theorem decode10 : Pure Tryz.prog tabG 10 [exT0, wid0, line0] (.tup [exR0, .int .i64 0, .int .i64 0]) := by
 have h20 := repr20
 have h35 := total35 [3, 5, 10] (by decide)
 rw [show badW [3, 5, 10] = false by decide, if_neg (by decide), if_neg (by decide), show sumI [3, 5, 10] = 18 from rfl, show PV.list (intsW [3, 5, 10]) = wid0 from rfl] at h35
 have h36 := fits36 [32, 32, 55, 97, 98, 32, 32, 32, 50, 48, 50, 54, 45, 49, 49, 45, 49, 54] 18
 rw [show fitsE ([32, 32, 55, 97, 98, 32, 32, 32, 50, 48, 50, 54, 45, 49, 49, 45, 49, 54] : List UInt8).length 18 = 0 from rfl] at h36
 have h37 := cells37 [32, 32, 55, 97, 98, 32, 32, 32, 50, 48, 50, 54, 45, 49, 49, 45, 49, 54] (natsP [3, 5, 10])
 have hseq := cells_seq [32, 32, 55, 97, 98, 32, 32, 32, 50, 48, 50, 54, 45, 49, 49, 45, 49, 54] [3, 5, 10] (by decide) (by decide) (by decide)
 have ha : Pure Tryz.prog tabG 38 [.str [32, 32, 55], .agg [.int .i64 1, .str [105, 100], .int .i64 1, .int .i64 2, .int .i64 0, .int .i64 999, .int .i64 0, .nils, .nils, .nils, .nils]] (.tup [.agg [.int .i64 2, .int .i64 7, .int .i64 0, .str [], .nils, .nils], .int .i64 0]) := cell_a
 have hb : Pure Tryz.prog tabG 38 [.str [97, 98, 32, 32, 32], .agg [.int .i64 2, .str [110, 97, 109, 101], .int .i64 2, .int .i64 4, .int .i64 1, .int .i64 5, .int .i64 0, .nils, .nils, .nils, .nils]] (.tup [.agg [.int .i64 4, .int .i64 0, .int .i64 0, .str [97, 98], .nils, .nils], .int .i64 0]) := cell_b
 have hc : Pure Tryz.prog tabG 38 [.str [50, 48, 50, 54, 45, 49, 49, 45, 49, 54], .agg [.int .i64 3, .str [100, 97, 121], .int .i64 1, .int .i64 6, .int .i64 0, .int .i64 30000, .int .i64 0, .nils, .nils, .nils, .nils]] (.tup [.agg [.int .i64 6, .int .i64 20773, .int .i64 0, .str [], .nils, .nils], .int .i64 0]) := cell_c
 have hr : Pure Tryz.prog tabG 40 [.list [.agg fc0, .agg fc1, .agg fc2]] exR0 := record_c
 have hi0 : (cellsX [32, 32, 55, 97, 98, 32, 32, 32, 50, 48, 50, 54, 45, 49, 49, 45, 49, 54] [3, 5, 10])[0]? = some [.int .i64 0, .str [32, 32, 55]] := by kernel_rfl
 have hi1 : (cellsX [32, 32, 55, 97, 98, 32, 32, 32, 50, 48, 50, 54, 45, 49, 49, 45, 49, 54] [3, 5, 10])[1]? = some [.int .i64 3, .str [97, 98, 32, 32, 32]] := by kernel_rfl
 have hi2 : (cellsX [32, 32, 55, 97, 98, 32, 32, 32, 50, 48, 50, 54, 45, 49, 49, 45, 49, 54] [3, 5, 10])[2]? = some [.int .i64 8, .str [50, 48, 50, 54, 45, 49, 49, 45, 49, 54]] := by kernel_rfl
 have hlx : (cellsX [32, 32, 55, 97, 98, 32, 32, 32, 50, 48, 50, 54, 45, 49, 49, 45, 49, 54] [3, 5, 10]).length = 3 := rfl
 generalize hX : cellsX [32, 32, 55, 97, 98, 32, 32, 32, 50, 48, 50, 54, 45, 49, 49, 45, 49, 54] [3, 5, 10] = X at *
 have hw : wid0 = .list (natsP [3, 5, 10]) := rfl
 simp only [line0]
 refine Pure.intro F10_ok (by simp [F10]) ?_
 simp (maxSteps:=9^7) (disch:=first|exact dI|fail) only [F10, exT0, exF0, push_cast, seval]
 refine ACall.pure h20 rfl ?_
 simp (maxSteps:=9^7) (disch:=first|exact dI|fail) only [push_cast, seval]
 refine ACall.pure h35 rfl ?_
 simp (maxSteps:=9^7) (disch:=first|exact dI|fail) only [push_cast, seval]
 refine ACall.pure h36 rfl ?_
 simp (maxSteps:=9^7) (disch:=first|exact dI|fail) only [push_cast, seval]
 refine ACall.pure h37 rfl ?_
 simp (maxSteps:=9^7) (disch:=first|exact dI|fail) only [push_cast, seval]
 refine vc_rng ([(14, 1, 1000034, 7)]) (fun i : Nat => []) (fun i : Nat => [(2, .cells 30 true [.row 5 7 0 i]), (3, .cells 3 true [.pv (.int .i64 (i : Int))]), (5, .cells 34 false (rowC i))]) (fun j i => j = i ∧ i ≤ 3) (0) (hseq) ?_; intro e0 σ0 n0 h0; simp (maxSteps:=9^7) (disch:=first|exact dI|fail) only [push_cast, seval] at h0; obtain ⟨rfl, rfl, rfl⟩ := h0; refine ⟨?_, ?_, ?_, ?_, ?_⟩
 ·simp (maxSteps:=9^7) (disch:=first|exact dI|fail) only [rowC_0, push_cast, seval]
 ·exact ⟨rfl, by omega⟩
 ·rfl
 ·rintro j i y hy ⟨hij, hi⟩
  subst hij
  have hj3 : j < 3 := by have := (List.getElem?_eq_some_iff.1 hy).1; omega
  have hjc : j = 0 ∨ j = 1 ∨ j = 2 := by omega
  clear hr h20 h35 h36 h37 hseq
  rcases hjc with rfl | rfl | rfl
  ·rw [hi0] at hy
   obtain rfl := Option.some.inj hy
   refine ⟨rfl, ?_⟩
   simp (maxSteps:=9^7) (disch:=first|exact dI|fail) only [rowC_0, rElem_zero, push_cast, seval]
   refine ACall.pure ha rfl ?_
   simp (maxSteps:=9^7) (disch:=first|exact dI|fail) only [push_cast, seval]
   refine ACall.lentK (fail39 0) [4] rfl (by simp (maxSteps:=9^7) (disch:=first|exact dI|fail) only [push_cast, seval]) (by simp (maxSteps:=9^7) (disch:=first|exact dI|fail) only [push_cast, seval]) ?_
   simp (maxSteps:=9^7) (disch:=first|exact dI|fail) only [rElem_zero, flat_one, List.map_cons, List.map_nil, List.cons_append, List.nil_append, List.drop_succ_cons, List.drop_zero, push_cast, seval]
   exact ⟨1, hd_z (by simp (maxSteps:=9^7) (disch:=first|exact dI|fail) only [rowC_1, fc0, push_cast, seval]), rfl, by omega⟩
  ·rw [hi1] at hy
   obtain rfl := Option.some.inj hy
   refine ⟨rfl, ?_⟩
   simp (maxSteps:=9^7) (disch:=first|exact dI|fail) only [rowC_1, fc0, rF1, push_cast, seval]
   refine ACall.pure hb rfl ?_
   simp (maxSteps:=9^7) (disch:=first|exact dI|fail) only [push_cast, seval]
   refine ACall.lentK (fail39 3) [4] rfl (by simp (maxSteps:=9^7) (disch:=first|exact dI|fail) only [push_cast, seval]) (by simp (maxSteps:=9^7) (disch:=first|exact dI|fail) only [push_cast, seval]) ?_
   simp (maxSteps:=9^7) (disch:=first|exact dI|fail) only [rF1, flat_one, List.map_cons, List.map_nil, List.cons_append, List.nil_append, List.drop_succ_cons, List.drop_zero, push_cast, seval]
   exact ⟨2, hd_z (by simp (maxSteps:=9^7) (disch:=first|exact dI|fail) only [rowC_2, fc0, fc1, push_cast, seval]), rfl, by omega⟩
  ·rw [hi2] at hy
   obtain rfl := Option.some.inj hy
   refine ⟨rfl, ?_⟩
   simp (maxSteps:=9^7) (disch:=first|exact dI|fail) only [rowC_2, fc0, fc1, rF2, push_cast, seval]
   refine ACall.pure hc rfl ?_
   simp (maxSteps:=9^7) (disch:=first|exact dI|fail) only [push_cast, seval]
   refine ACall.lentK (fail39 8) [4] rfl (by simp (maxSteps:=9^7) (disch:=first|exact dI|fail) only [push_cast, seval]) (by simp (maxSteps:=9^7) (disch:=first|exact dI|fail) only [push_cast, seval]) ?_
   simp (maxSteps:=9^7) (disch:=first|exact dI|fail) only [rF2, flat_one, List.map_cons, List.map_nil, List.cons_append, List.nil_append, List.drop_succ_cons, List.drop_zero, push_cast, seval]
   exact ⟨3, hd_z (by simp (maxSteps:=9^7) (disch:=first|exact dI|fail) only [rowC_3, fc0, fc1, fc2, push_cast, seval]), rfl, by omega⟩
 ·rintro j ⟨hj, hi⟩
  rw [hlx] at hj
  subst hj
  simp (maxSteps:=9^7) (disch:=first|exact dI|fail) only [frz3, push_cast, seval]
  refine ACall.pure hr rfl ?_
  simp (maxSteps:=9^7) (disch:=first|exact dI|fail) only [exR0, push_cast, seval]
end Go.Proofs.YtedanlflegfomaaGreatDoor
set_option maxRecDepth 100000
set_option linter.unusedVariables false
namespace Go.Proofs.YtedanlflegfomaaGreatDoor
open Go Go.Ab
def orcD (f : Nat) (ps : List PV) : Option PV :=
 match f with
 | 10 => match ps with
   | [a, b, c] => if eqP 8 a exT0 = true ∧ eqP 8 b wid0 = true ∧ eqP 8 c line0 = true then some (.tup [exR0, .int .i64 0, .int .i64 0]) else none
   | _ => none
 | f => orcB f ps
theorem orcD_ok : ∀ f ps r, orcD f ps = some r → Pure Tryz.prog tabG f ps r := by
 intro f ps r h
 unfold orcD at h
 split at h
 ·split at h
  ·split at h
   ·rename_i hh
    cases h
    rw [eqP_eq _ _ _ hh.1, eqP_eq _ _ _ hh.2.1, eqP_eq _ _ _ hh.2.2]
    exact decode10
   ·cases h
  ·cases h
 ·exact orcB_ok _ _ _ h
theorem ex12 : pcall (exF (rows12.map gFn) orcD tabG 5000 60) 8 [] = some (.bool true) := by kernel_rfl
theorem known12 : Pure Tryz.prog tabG 8 [] (.bool true) := Pure.of_ex (tab_of some12) orcD_ok ex12
theorem cells_of (p0 p1 : PV) (h0 : HasT Tryz.prog 9 p0) (h1 : HasT Tryz.prog 38 p1) : Pure Tryz.prog tabG 4 [p0, p1] (.bool true) := by
 obtain ⟨s, rfl, _⟩ := hasT_str h0 Tryz.underlying9
 obtain ⟨w, rfl, _, _⟩ := list_all (f := PV.int .i64) (Q := I64) h1 Tryz.underlying38 byt_3 (fun x hx => hasT_i64 hx Tryz.underlying3)
 exact cells_law known12 s w
end Go.Proofs.YtedanlflegfomaaGreatDoor
set_option maxRecDepth 100000
namespace Go.Proofs.YtedanlflegfomaaGreatDoor
open Go Go.Ab Go.Lib Go.Proofs
theorem u8X : U8Extra Tryz.prog Tryz.lays196_ren := ⟨by kernel_rfl, by kernel_rfl, by kernel_rfl, by kernel_rfl, by kernel_rfl, by kernel_rfl, by kernel_rfl⟩
theorem globs_of {W : World} (h1 : VarReads Tryz.prog W "unicode/utf8.first" firstData) (h2 : VarReads Tryz.prog W "unicode/utf8.acceptRanges" acceptData)
  (h3 : VarReads Tryz.prog W "internal/strconv.uint64pow10" (tabData .u64 pow10Tab)) : GlobOk tabG W (immOf W) := by
 have hu := utf8Tabs_of_readsT (U8Types.of196 Tryz.lays196) u8X h1 h2
 refine globOk_of fun g hg => ?_
 unfold tabG at hg ⊢
 by_cases e3 : g = 3
 ·subst e3
  exact tabAt_ints (t := 268) (e := 162) (m := 20) h3 (by kernel_rfl) (by kernel_rfl) (by kernel_rfl) (by kernel_rfl) (by kernel_rfl) (by kernel_rfl) (by kernel_rfl)
 rw [if_neg e3] at hg ⊢
 by_cases e1 : g = 1
 ·subst e1
  rw [if_pos rfl] at hg ⊢
  refine tabAt_of (t := 231) (e := 5) (m := 256) h1 (by kernel_rfl) (by kernel_rfl) (by kernel_rfl) (by kernel_rfl) fun o p hp => ?_
  rw [u8G1, List.getElem?_map, Option.map_eq_some_iff] at hp
  obtain ⟨c, hc, rfl⟩ := hp
  obtain ⟨hlt, hcc⟩ := List.getElem?_eq_some_iff.1 hc
  simp at hlt hcc
  subst hcc
  exact ⟨_, _, rfl, hu.1 o hlt⟩
 rw [if_neg e1] at hg ⊢
 by_cases e2 : g = 2
 ·subst e2
  rw [if_pos rfl] at hg ⊢
  refine tabAt_of (t := 234) (e := 233) (m := 16) h2 (by kernel_rfl) (by kernel_rfl) (by kernel_rfl) (by kernel_rfl) fun o p hp => ?_
  rw [u8G2, List.getElem?_map, Option.map_eq_some_iff] at hp
  obtain ⟨c, hc, rfl⟩ := hp
  obtain ⟨hlt, hcc⟩ := List.getElem?_eq_some_iff.1 hc
  simp at hlt hcc
  subst hcc
  have := hu.2 (o / 2) (by omega)
  by_cases ho : o % 2 = 0
  ·rw [if_pos ho]
   refine ⟨_, _, rfl, ?_⟩
   have := this.1
   rwa [show 2 * (o / 2) = o by omega] at this
  ·rw [if_neg ho]
   refine ⟨_, _, rfl, ?_⟩
   have := this.2
   rwa [show 2 * (o / 2) + 1 = o by omega] at this
 rw [if_neg e2] at hg
 exact absurd rfl hg
end Go.Proofs.YtedanlflegfomaaGreatDoor
