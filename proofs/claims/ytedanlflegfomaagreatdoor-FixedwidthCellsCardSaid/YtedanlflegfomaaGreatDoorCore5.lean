/- A program logic over the model: part 5 (a proof is built on it; nothing of the statement is said here). -/
import Derived.Lib.Join
import Derived.Lib.ItoaNum
import Derived.Lib.LaidTab
import Derived.Lib.AppendIntMem
import Derived.Lib.Strings
import Derived.Lib.Bytealg
import Derived.Lib.ValidLaws
import Derived.Test.YtedanlflegfomaaGreatDoorCore4
set_option linter.unusedVariables false
set_option linter.unusedSimpArgs false
namespace Go.Ab
open Go Go.RowKit
theorem rMin_min (k k' : IntKind) (x y : Int) : rMin (.pv (.int k x)) (.pv (.int k' y)) = some (.pv (.int k (min x y))) := by
 simp only [rMin, Option.some.injEq, AV.pv.injEq, PV.int.injEq, true_and]
 split <;> omega
theorem rMax_max (k k' : IntKind) (x y : Int) : rMax (.pv (.int k x)) (.pv (.int k' y)) = some (.pv (.int k (max x y))) := by
 simp only [rMax, Option.some.injEq, AV.pv.injEq, PV.int.injEq, true_and]
 split <;> omega
theorem toNat_minN (a : Nat) (b : Int) : (min (a : Int) b).toNat = min a b.toNat := by omega
theorem toNat_minN' (a : Nat) (b : Int) : (min b (a : Int)).toNat = min b.toNat a := by omega
theorem take_minL {α : Type} (l : List α) (n : Nat) : l.take (min l.length n) = l.take n := by
 rcases Nat.le_total l.length n with h | h
 ·rw [Nat.min_eq_left h, List.take_length, List.take_of_length_le h]
 ·rw [Nat.min_eq_right h]
theorem take_minR {α : Type} (l : List α) (n : Nat) : l.take (min n l.length) = l.take n := by rw [Nat.min_comm, take_minL]
theorem map_take {α β : Type} (f : α → β) (l : List α) (n : Nat) : (l.map f).take n = (l.take n).map f := List.map_take.symm
theorem map_drop {α β : Type} (f : α → β) (l : List α) (n : Nat) : (l.map f).drop n = (l.drop n).map f := List.map_drop.symm
theorem omap_none {α β : Type} (f : α → β) : (none : Option α).map f = none := _root_.id rfl
def appRow (mu : Bool) (e sz by_ new : Nat) (σ : Store) (x : AV) : Option (List PV) → Option (AV × List (Nat × Blk))
 | some ys => match mu, x with
   | false, .pv .nils => match ys with
     | [] => some (.pv .nils, [])
     | y :: r => if room 0 (r.length + 1) by_ = true then some (.olist new sz (y :: r), [(new, .tok e sz)]) else none
   | false, .olist q s l => match σ q with
     | .tok e' sz' => if e' = e ∧ sz' = sz ∧ s = sz ∧ room l.length ys.length by_ = true then some (.olist new sz (l ++ ys), [(q, .none), (new, .tok e sz)]) else none
     | _ => none
   | true, .pv .nils => match ys with
     | [] => some (.pv .nils, [])
     | y :: r => if room 0 (r.length + 1) by_ = true then some (.row new sz 0 (r.length + 1), [(new, .cells e false (flat (y :: r)))]) else none
   | true, .row q s off len => match σ q with
     | .cells e' _ l => if e' = e ∧ s = sz ∧ off = 0 ∧ len * sz ≤ l.length ∧ room len ys.length by_ = true then some (.row new sz 0 (len + ys.length), [(q, .none), (new, .cells e false (l.take (len * sz) ++ flat ys))]) else none
     | _ => none
   | _, _ => none
 | none => none
def appOl (e sz by_ new q s : Nat) (l ys : List PV) : Blk → Option (AV × List (Nat × Blk))
 | .tok e' sz' => if e' = e ∧ sz' = sz ∧ s = sz ∧ room l.length ys.length by_ = true then some (.olist new sz (l ++ ys), [(q, .none), (new, .tok e sz)]) else none
 | _ => none
def appRw (e sz by_ new q s off len : Nat) (ys : List PV) : Blk → Option (AV × List (Nat × Blk))
 | .cells e' _ l => if e' = e ∧ s = sz ∧ off = 0 ∧ len * sz ≤ l.length ∧ room len ys.length by_ = true then some (.row new sz 0 (len + ys.length), [(q, .none), (new, .cells e false (l.take (len * sz) ++ flat ys))]) else none
 | _ => none
theorem rAppend_eq (mu : Bool) (e sz by_ new : Nat) (σ : Store) (x y : AV) : rAppend mu e sz by_ new σ x y = appRow mu e sz by_ new σ x (elemsOf σ sz y) := by
 unfold rAppend appRow
 cases elemsOf σ sz y <;> rfl
theorem app_ol (e sz by_ new : Nat) (σ : Store) (q s : Nat) (l ys : List PV) : appRow false e sz by_ new σ (.olist q s l) (some ys) = appOl e sz by_ new q s l ys (σ q) := by
 simp only [appRow, appOl]
theorem appOl_ok {e sz by_ new q : Nat} {l ys : List PV} (h1 : l.length + ys.length ≤ 9223372036854775807) (h2 : (l.length + ys.length) * by_ ≤ 140737488355328) : appOl e sz by_ new q sz l ys (.tok e sz) = some (.olist new sz (l ++ ys), [(q, .none), (new, .tok e sz)]) := by
 simp [appOl, room_ok h1 h2]
theorem app_nil0 (e sz by_ new : Nat) (σ : Store) : appRow false e sz by_ new σ (.pv .nils) (some []) = some (.pv .nils, []) := _root_.id rfl
theorem app_nil1 {e sz by_ new : Nat} {σ : Store} {y : PV} {r : List PV} (h1 : r.length + 1 ≤ 9223372036854775807) (h2 : (r.length + 1) * by_ ≤ 140737488355328) : appRow false e sz by_ new σ (.pv .nils) (some (y :: r)) = some (.olist new sz (y :: r), [(new, .tok e sz)]) := by
 simp only [appRow]; rw [if_pos (room_ok (by omega) (by simpa using h2))]
theorem app_row (e sz by_ new : Nat) (σ : Store) (q s off len : Nat) (ys : List PV) : appRow true e sz by_ new σ (.row q s off len) (some ys) = appRw e sz by_ new q s off len ys (σ q) := by
 simp only [appRow, appRw]
theorem appRw_ok {e sz by_ new q len : Nat} {f : Bool} {l : List AV} {ys : List PV} (h0 : len * sz ≤ l.length) (h1 : len + ys.length ≤ 9223372036854775807) (h2 : (len + ys.length) * by_ ≤ 140737488355328) :
  appRw e sz by_ new q sz 0 len ys (.cells e f l) = some (.row new sz 0 (len + ys.length), [(q, .none), (new, .cells e false (l.take (len * sz) ++ flat ys))]) := by
 simp [appRw, h0, room_ok h1 h2]
theorem appRw_zero {e sz by_ new q : Nat} {f : Bool} {l : List AV} {ys : List PV} (h1 : ys.length ≤ 9223372036854775807) (h2 : ys.length * by_ ≤ 140737488355328) :
  appRw e sz by_ new q sz 0 0 ys (.cells e f l) = some (.row new sz 0 ys.length, [(q, .none), (new, .cells e false (flat ys))]) := by
 have := room_ok (n := 0) (m := ys.length) (by_ := by_) (by omega) (by simpa using h2)
 simp [appRw, this]
def elemsChk (l : List PV) : Bool → Option (List PV)
 | true => some l
 | false => none
theorem elems_nils (σ : Store) (sz : Nat) : elemsOf σ sz (.pv .nils) = some [] := _root_.id rfl
theorem elems_list (σ : Store) (sz : Nat) (l : List PV) : elemsOf σ sz (.pv (.list l)) = elemsChk l (l.all fun y => y.cells.length == sz) := by
 simp only [elemsOf]
 cases l.all (fun y => y.cells.length == sz) <;> rfl
theorem elemsChk_t (l : List PV) : elemsChk l true = some l := _root_.id rfl
theorem elems_olist (σ : Store) (sz r : Nat) (l : List PV) : elemsOf σ sz (.olist r sz l) = some l := by simp [elemsOf]
def bslC (e sz new : Nat) : Option (List PV) → Option (AV × List (Nat × Blk))
 | some ps => if ps.all (fun p => p.cells.length == sz && p.cells.all PV.one) = true then some (.olist new sz ps, [(new, .tok e sz)]) else none
 | none => none
theorem bsl_f {e sz len new : Nat} {vs : List AV} (h : vs.length = len) (h2 : len ≤ 9223372036854775807) : rBslice false e sz len new vs = bslC e sz new (pvs vs) := by
 simp only [rBslice, h, h2, true_and, if_true, bslC]
 cases pvs vs <;> rfl
def bslD (e sz new : Nat) (ps : List PV) : Bool → Option (AV × List (Nat × Blk))
 | true => some (.olist new sz ps, [(new, .tok e sz)])
 | false => none
theorem bslD_t (e sz new : Nat) (ps : List PV) : bslD e sz new ps true = some (.olist new sz ps, [(new, .tok e sz)]) := _root_.id rfl
theorem bslC_some (e sz new : Nat) (ps : List PV) : bslC e sz new (some ps) = bslD e sz new ps (ps.all fun p => p.cells.length == sz && p.cells.all PV.one) := by
 simp only [bslC]
 cases ps.all (fun p => p.cells.length == sz && p.cells.all PV.one) <;> rfl
theorem bslC_none (e sz new : Nat) : bslC e sz new none = none := _root_.id rfl
theorem bsl_t0 {e sz new : Nat} : rBslice true e sz 0 new [] = some (.row new sz 0 0, [(new, .cells e true [])]) := by
 simp [rBslice]
theorem one_bool (b : Bool) : PV.one (.bool b) = true := _root_.id rfl
theorem one_int (k : IntKind) (n : Int) : PV.one (.int k n) = true := _root_.id rfl
theorem one_str (s : List UInt8) : PV.one (.str s) = true := _root_.id rfl
theorem one_nils : PV.one .nils = true := _root_.id rfl
theorem one_list (l : List PV) : PV.one (.list l) = true := _root_.id rfl
theorem oneA_pv (p : PV) : AV.one (.pv p) = p.one := _root_.id rfl
theorem oneA_ptr (r o : Nat) : AV.one (.ptr r o) = true := _root_.id rfl
theorem oneA_row (r s o n : Nat) : AV.one (.row r s o n) = true := _root_.id rfl
theorem oneA_olist (r s : Nat) (l : List PV) : AV.one (.olist r s l) = true := _root_.id rfl
theorem oneA_clo (f : Nat) (a b : List AV) : AV.one (.clo f a b) = true := _root_.id rfl
def onCut (sz : Nat) (l : List PV) (h : Nat) : Option Nat → Option AV
 | some a => if szOk sz l a = true then some (.pv (.list ((l.take h).drop a))) else none
 | none => none
def onCutH (sz : Nat) (l : List PV) (lo : Option AV) : Option Nat → Option AV
 | some h => onCut sz l h (rBound 0 h lo)
 | none => none
theorem rSliceL_list (sz : Nat) (l : List PV) (lo hi : Option AV) : rSliceL sz (.pv (.list l)) lo hi = onCutH sz l lo (rBound l.length l.length hi) := by
 show rCut sz l lo hi = _
 unfold rCut onCutH onCut
 cases rBound l.length l.length hi with
 | none => rfl
 | some h => simp only; cases rBound 0 h lo <;> rfl
theorem rSliceL_olist (sz r s : Nat) (l : List PV) (lo hi : Option AV) : rSliceL sz (.olist r s l) lo hi = onCutH sz l lo (rBound l.length l.length hi) := by
 show rCut sz l lo hi = _
 unfold rCut onCutH onCut
 cases rBound l.length l.length hi with
 | none => rfl
 | some h => simp only; cases rBound 0 h lo <;> rfl
theorem onCutH_some (sz : Nat) (l : List PV) (lo : Option AV) (h : Nat) : onCutH sz l lo (some h) = onCut sz l h (rBound 0 h lo) := _root_.id rfl
theorem onCut_zero (sz : Nat) (l : List PV) (h : Nat) : onCut sz l h (some 0) = some (.pv (.list (l.take h))) := by
 simp [onCut, szOk]
theorem onCut_some {sz : Nat} {l : List PV} {h a : Nat} (hs : szOk sz l a = true) : onCut sz l h (some a) = some (.pv (.list ((l.take h).drop a))) := if_pos hs
theorem onElem_ite (sz : Nat) (l : List PV) (i : Nat) (y : PV) : onElem sz l i (some y) = if y.cells.length = sz then some (.pv (.eptr l i 0)) else none := _root_.id rfl
theorem all_mapF {α β : Type} (f : α → β) (p : β → Bool) (l : List α) : (l.map f).all p = l.all fun x => p (f x) := by
 rw [List.all_map]; rfl
theorem all_tt {α : Type} (l : List α) : (l.all fun _ => true) = true := by simp
theorem beq_nn (n : Nat) : (n == n) = true := by simp
def loadI (sz : Nat) (e : PV) : Bool → Option AV
 | true => some (.pv e)
 | false => partA true sz 0 (e.cells.map .pv)
theorem loadI_t (sz : Nat) (e : PV) : loadI sz e true = some (.pv e) := _root_.id rfl
theorem loadE_t0 (sz : Nat) (e : PV) : loadE true sz 0 e = loadI sz e (e.isAgg && decide (e.cells.length = sz)) := by
 simp only [loadE, true_and]
 by_cases h : e.isAgg = true ∧ e.cells.length = sz
 ·rw [if_pos h, h.1, decide_eq_true h.2]; rfl
 ·rw [if_neg h]
  have : (e.isAgg && decide (e.cells.length = sz)) = false := by
   rw [Bool.eq_false_iff]
   intro hh
   simp only [Bool.and_eq_true, decide_eq_true_eq] at hh
   exact h hh
  rw [this]; rfl
theorem isAgg_agg (cs : List PV) : (PV.agg cs).isAgg = true := _root_.id rfl
def fzO (σ : Store) : Option AV → Option (AV × List (Nat × Blk))
 | some v => (frzV σ v).map frzD
 | none => none
theorem fRun_n (G : Nat → List PV) (σ : Store) (v : AV) : fRun G σ none v = (frzV σ v).map frzD := _root_.id rfl
theorem fRun_l (G : Nat → List PV) (σ : Store) (g : Bool) (sz : Nat) (v : AV) : fRun G σ (some (g, sz)) v = fzO σ (rLoad G g sz σ v) := by
 simp only [fRun, fzO]; cases rLoad G g sz σ v <;> rfl
theorem fzO_some (σ : Store) (v : AV) : fzO σ (some v) = (frzV σ v).map frzD := _root_.id rfl
theorem frzV_agg (σ : Store) (cs : List AV) : frzV σ (.agg cs) = (frzL σ cs).map fun p => (.agg p.1, p.2) := _root_.id rfl
theorem frzV_pv (σ : Store) (p : PV) : frzV σ (.pv p) = some (p, []) := _root_.id rfl
theorem frzV_ol (σ : Store) (r s : Nat) (l : List PV) : frzV σ (.olist r s l) = some (.list l, []) := _root_.id rfl
theorem frzV_row (σ : Store) (r s n : Nat) : frzV σ (.row r s 0 n) = frzB s n r (σ r) := _root_.id rfl
theorem frzC_pv (σ : Store) (p : PV) : frzC σ (.pv p) = some (p, []) := _root_.id rfl
theorem frzC_ol (σ : Store) (r s : Nat) (l : List PV) : frzC σ (.olist r s l) = some (.list l, []) := _root_.id rfl
theorem frzC_row (σ : Store) (r s n : Nat) : frzC σ (.row r s 0 n) = frzB s n r (σ r) := _root_.id rfl
theorem frzL_nil (σ : Store) : frzL σ [] = some ([], []) := _root_.id rfl
theorem frzL_cons (σ : Store) (x : AV) (r : List AV) : frzL σ (x :: r) = frz2 (frzC σ x) (frzL σ r) := _root_.id rfl
theorem frz2_some (p : PV) (a : List Nat) (q : List PV) (b : List Nat) : frz2 (some (p, a)) (some (q, b)) = some (p :: q, a ++ b) := _root_.id rfl
theorem frzD_eq (p : PV) (l : List Nat) : frzD (p, l) = (.pv p, l.map fun r => (r, .none)) := _root_.id rfl
theorem names_pv (p : PV) : (AV.pv p).names = [] := _root_.id rfl
theorem names_ptr (r o : Nat) : (AV.ptr r o).names = [r] := _root_.id rfl
theorem names_row (r a b c : Nat) : (AV.row r a b c).names = [r] := _root_.id rfl
theorem names_ol (r a : Nat) (l : List PV) : (AV.olist r a l).names = [r] := _root_.id rfl
theorem names_agg (cs : List AV) : (AV.agg cs).names = AV.namesL cs := by simp only [AV.names]
theorem names_tup (cs : List AV) : (AV.tup cs).names = AV.namesL cs := by simp only [AV.names]
theorem names_clo (f : Nat) (fs cs : List AV) : (AV.clo f fs cs).names = AV.namesL fs ++ AV.namesL cs := by simp only [AV.names]
theorem names_any : AV.any.names = [] := _root_.id rfl
theorem namesL_nil : AV.namesL [] = [] := _root_.id rfl
theorem namesL_cons (x : AV) (r : List AV) : AV.namesL (x :: r) = x.names ++ AV.namesL r := by simp only [AV.namesL]
theorem namesL_pv : ∀ l : List PV, AV.namesL (l.map .pv) = []
 | [] => rfl
 | x :: r => by rw [List.map_cons, namesL_cons, namesL_pv r]; rfl
theorem namesL_flat (l : List PV) : AV.namesL (flat l) = [] := namesL_pv _
theorem namesB_cells (T : Nat) (f : Bool) (l : List AV) : (Blk.cells T f l).names = AV.namesL l := _root_.id rfl
theorem namesB_tok (e s : Nat) : (Blk.tok e s).names = [] := _root_.id rfl
theorem namesB_none : Blk.none.names = [] := _root_.id rfl
theorem addN_nil (acc : List Nat) : addNames acc [] = acc := _root_.id rfl
def addN1 (acc : List Nat) (n : Nat) : Bool → List Nat
 | true => acc
 | false => acc ++ [n]
theorem contains_mem (x : Nat) : ∀ l : List Nat, l.contains x = memN x l
 | [] => rfl
 | y :: r => by
   rw [List.contains_cons, contains_mem x r, memN_cons]
   by_cases h : y = x
   ·simp [h]
   ·have h' : ¬ x = y := fun e => h e.symm
    simp [h, h']
theorem addN_cons (acc : List Nat) (n : Nat) (r : List Nat) : addNames acc (n :: r) = addNames (addN1 acc n (memN n acc)) r := by
 simp only [addNames, contains_mem]
 cases memN n acc <;> rfl
theorem addN1_t (acc : List Nat) (n : Nat) : addN1 acc n true = acc := _root_.id rfl
theorem addN1_f (acc : List Nat) (n : Nat) : addN1 acc n false = acc ++ [n] := _root_.id rfl
def geN (m0 : Nat) : List Nat → List Nat
 | [] => []
 | x :: r => if m0 ≤ x then x :: geN m0 r else geN m0 r
theorem geN_nil (m0 : Nat) : geN m0 [] = [] := _root_.id rfl
theorem geN_cons (m0 x : Nat) (r : List Nat) : geN m0 (x :: r) = if m0 ≤ x then x :: geN m0 r else geN m0 r := _root_.id rfl
theorem geN_eq (m0 : Nat) : ∀ l : List Nat, l.filter (fun r => decide (m0 ≤ r)) = geN m0 l
 | [] => rfl
 | x :: r => by rw [List.filter_cons, geN_eq m0 r, geN_cons]; simp
def blkNames (sto : List (Nat × Blk)) : List Nat → List Nat
 | [] => []
 | r :: q => (lookB r sto).names ++ blkNames sto q
theorem blkNames_nil (sto : List (Nat × Blk)) : blkNames sto [] = [] := _root_.id rfl
theorem blkNames_cons (sto : List (Nat × Blk)) (r : Nat) (q : List Nat) : blkNames sto (r :: q) = (lookB r sto).names ++ blkNames sto q := _root_.id rfl
theorem blkNames_eq (sto : List (Nat × Blk)) : ∀ l : List Nat, (l.flatMap fun r => (lookB r sto).names) = blkNames sto l
 | [] => rfl
 | r :: q => by rw [List.flatMap_cons, blkNames_eq sto q, blkNames_cons]
theorem reach_0 (m0 : Nat) (sto : List (Nat × Blk)) (acc : List Nat) : reachN m0 sto 0 acc = acc := _root_.id rfl
theorem reach_s (m0 : Nat) (sto : List (Nat × Blk)) (k : Nat) (acc : List Nat) : reachN m0 sto (k + 1) acc = reachN m0 sto k (addNames acc (geN m0 (blkNames sto acc))) := by
 rw [← geN_eq, ← blkNames_eq]; rfl
def envNames (e : List (Nat × AV)) : List Nat → List Nat
 | [] => []
 | k :: r => (look k e).names ++ envNames e r
theorem envNames_nil (e : List (Nat × AV)) : envNames e [] = [] := _root_.id rfl
theorem envNames_cons (e : List (Nat × AV)) (k : Nat) (r : List Nat) : envNames e (k :: r) = (look k e).names ++ envNames e r := _root_.id rfl
theorem envNames_eq (e : List (Nat × AV)) (σ : List (Nat × Blk)) (n : Nat) : ∀ l : List Nat, (l.flatMap fun i => ((⟨e, σ, n⟩ : St).E i).names) = envNames e l
 | [] => rfl
 | k :: r => by rw [List.flatMap_cons, envNames_eq e σ n r]; rfl
def rngN : Nat → Nat → List Nat
 | 0, _ => []
 | n + 1, k => k :: rngN n (k + 1)
theorem rng_0 (k : Nat) : rngN 0 k = [] := _root_.id rfl
theorem rng_s (n k : Nat) : rngN (n + 1) k = k :: rngN n (k + 1) := _root_.id rfl
theorem rng_eq' : ∀ n k : Nat, rngN n k = List.range' k n
 | 0, k => rfl
 | n + 1, k => by rw [rng_s, rng_eq' n, List.range'_succ]
theorem rng_eq (n : Nat) : List.range n = rngN n 0 := by rw [rng_eq', List.range_eq_range']
theorem olds_eq (m0 : Nat) (keep : List Nat) (e : List (Nat × AV)) (σ : List (Nat × Blk)) (n : Nat) : olds m0 keep ⟨e, σ, n⟩ = reachN m0 σ σ.length (addNames [] (geN m0 (envNames e keep ++ blkNames σ (rngN m0 0)))) := by
 rw [← geN_eq, ← envNames_eq e σ n, ← blkNames_eq, ← rng_eq]; rfl
def normE (f : Nat → Option Nat) (e : List (Nat × AV)) : List Nat → List (Nat × AV)
 | [] => []
 | k :: r => (k, (look k e).ren f) :: normE f e r
theorem normE_nil (f : Nat → Option Nat) (e : List (Nat × AV)) : normE f e [] = [] := _root_.id rfl
theorem normE_cons (f : Nat → Option Nat) (e : List (Nat × AV)) (k : Nat) (r : List Nat) : normE f e (k :: r) = (k, (look k e).ren f) :: normE f e r := _root_.id rfl
def normO (m0 : Nat) (keep : List Nat) (e : List (Nat × AV)) (σ : List (Nat × Blk)) (os : List Nat) : St := ⟨normE (newName m0 os) e keep, renSto m0 (newName m0 os) σ (rngN m0 0 ++ os) 0, m0 + os.length⟩
theorem norm_eq (m0 : Nat) (keep : List Nat) (e : List (Nat × AV)) (σ : List (Nat × Blk)) (n : Nat) : norm m0 keep ⟨e, σ, n⟩ = normO m0 keep e σ (reachN m0 σ σ.length (addNames [] (geN m0 (envNames e keep ++ blkNames σ (rngN m0 0))))) := by
 rw [← olds_eq m0 keep e σ n]
 have hE : ∀ (f : Nat → Option Nat) (l : List Nat), (l.map fun i => (i, ((⟨e, σ, n⟩ : St).E i).ren f)) = normE f e l := by
  intro f l
  induction l with
  | nil => rfl
  | cons k r ih => rw [List.map_cons, ih]; rfl
 simp only [norm, normO, hE, rng_eq]
theorem normO_c (m0 : Nat) (keep : List Nat) (e : List (Nat × AV)) (σ : List (Nat × Blk)) (x : Nat) (r : List Nat) : normO m0 keep e σ (x :: r) = ⟨normE (newName m0 (x :: r)) e keep, renSto m0 (newName m0 (x :: r)) σ (rngN m0 0 ++ (x :: r)) 0, m0 + (x :: r).length⟩ := _root_.id rfl
theorem normO_n (m0 : Nat) (keep : List Nat) (e : List (Nat × AV)) (σ : List (Nat × Blk)) : normO m0 keep e σ [] = ⟨normE (newName m0 []) e keep, renSto m0 (newName m0 []) σ (rngN m0 0) 0, m0⟩ := by
 simp only [normO, List.append_nil]; rfl
theorem renSto_nil (m0 : Nat) (f : Nat → Option Nat) (σ : List (Nat × Blk)) (k : Nat) : renSto m0 f σ [] k = [] := _root_.id rfl
theorem renSto_cons (m0 : Nat) (f : Nat → Option Nat) (σ : List (Nat × Blk)) (r : Nat) (q : List Nat) (k : Nat) : renSto m0 f σ (r :: q) k = (k, (lookB r σ).ren f) :: renSto m0 f σ q (k + 1) := _root_.id rfl
theorem newName_eq (m0 : Nat) (os : List Nat) (r : Nat) : newName m0 os r = if r < m0 then some r else idxN r os m0 := _root_.id rfl
theorem idxN_nil (x k : Nat) : idxN x [] k = none := _root_.id rfl
theorem idxN_cons (x y : Nat) (r : List Nat) (k : Nat) : idxN x (y :: r) k = if y = x then some k else idxN x r (k + 1) := _root_.id rfl
def renP (o : Nat) : Option Nat → AV
 | some q => .ptr q o
 | none => .any
def renR (a b c : Nat) : Option Nat → AV
 | some q => .row q a b c
 | none => .any
def renO (a : Nat) (l : List PV) : Option Nat → AV
 | some q => .olist q a l
 | none => .pv (.list l)
theorem ren_pv (f : Nat → Option Nat) (p : PV) : (AV.pv p).ren f = .pv p := by simp only [AV.ren]
theorem ren_any (f : Nat → Option Nat) : AV.any.ren f = .any := by simp only [AV.ren]
theorem ren_ptr (f : Nat → Option Nat) (r o : Nat) : (AV.ptr r o).ren f = renP o (f r) := by simp only [AV.ren, renP] <;> (cases f r <;> rfl)
theorem ren_row (f : Nat → Option Nat) (r a b c : Nat) : (AV.row r a b c).ren f = renR a b c (f r) := by simp only [AV.ren, renR] <;> (cases f r <;> rfl)
theorem ren_ol (f : Nat → Option Nat) (r a : Nat) (l : List PV) : (AV.olist r a l).ren f = renO a l (f r) := by simp only [AV.ren, renO] <;> (cases f r <;> rfl)
theorem ren_agg (f : Nat → Option Nat) (cs : List AV) : (AV.agg cs).ren f = .agg (AV.renL f cs) := by simp only [AV.ren]
theorem ren_tup (f : Nat → Option Nat) (cs : List AV) : (AV.tup cs).ren f = .tup (AV.renL f cs) := by simp only [AV.ren]
theorem ren_clo (f : Nat → Option Nat) (g : Nat) (fs cs : List AV) : (AV.clo g fs cs).ren f = .clo g (AV.renL f fs) (AV.renL f cs) := by simp only [AV.ren]
theorem renP_some (o q : Nat) : renP o (some q) = .ptr q o := _root_.id rfl
theorem renR_some (a b c q : Nat) : renR a b c (some q) = .row q a b c := _root_.id rfl
theorem renO_some (a : Nat) (l : List PV) (q : Nat) : renO a l (some q) = .olist q a l := _root_.id rfl
theorem renL_nil (f : Nat → Option Nat) : AV.renL f [] = [] := _root_.id rfl
theorem renL_cons (f : Nat → Option Nat) (x : AV) (r : List AV) : AV.renL f (x :: r) = x.ren f :: AV.renL f r := by simp only [AV.renL]
theorem renL_pv (f : Nat → Option Nat) : ∀ l : List PV, AV.renL f (l.map .pv) = l.map .pv
 | [] => rfl
 | x :: r => by rw [List.map_cons, renL_cons, renL_pv f r, ren_pv]
theorem renL_flat (f : Nat → Option Nat) (l : List PV) : AV.renL f (flat l) = flat l := renL_pv f _
theorem renB_cells (f : Nat → Option Nat) (T : Nat) (b : Bool) (l : List AV) : (Blk.cells T b l).ren f = .cells T b (AV.renL f l) := _root_.id rfl
theorem renB_tok (f : Nat → Option Nat) (e s : Nat) : (Blk.tok e s).ren f = .tok e s := _root_.id rfl
theorem renB_none (f : Nat → Option Nat) : Blk.none.ren f = .none := _root_.id rfl
theorem normA_eq (A : List (Nat × Nat × Nat × Nat)) (m0 : Nat) (keep : List Nat) (s : St) : normA A m0 keep s = norm m0 keep (accs A s) := _root_.id rfl
theorem accs_nil (s : St) : accs [] s = s := _root_.id rfl
theorem accs_slot (k e sz : Nat) (r : List (Nat × Nat × Nat × Nat)) (env : List (Nat × AV)) (σ : List (Nat × Blk)) (n : Nat) : accs ((k, 0, e, sz) :: r) ⟨env, σ, n⟩ = accs r (accC k e sz ⟨env, σ, n⟩ (look k env)) := _root_.id rfl
theorem accs_cell (k j e sz : Nat) (r : List (Nat × Nat × Nat × Nat)) (env : List (Nat × AV)) (σ : List (Nat × Blk)) (n : Nat) : accs ((k, j + 1, e, sz) :: r) ⟨env, σ, n⟩ = accs r (accP j e sz ⟨env, σ, n⟩ (look k env)) := _root_.id rfl
theorem accC_nils (k e sz : Nat) (env : List (Nat × AV)) (σ : List (Nat × Blk)) (n : Nat) : accC k e sz ⟨env, σ, n⟩ (.pv .nils) = ⟨(k, nilAV n e sz) :: env, (n, nilBlk e sz) :: σ, n + 1⟩ := _root_.id rfl
theorem accC_row (k e sz r a b c : Nat) (s : St) : accC k e sz s (.row r a b c) = s := _root_.id rfl
theorem nilAV_l {n e sz : Nat} (h : e < 1000000) : nilAV n e sz = .olist n sz [] := if_pos h
theorem nilAV_r {n e sz : Nat} (h : 1000000 ≤ e) : nilAV n e sz = .row n sz 0 0 := if_neg (Nat.not_lt.2 h)
theorem nilBlk_l {e sz : Nat} (h : e < 1000000) : nilBlk e sz = .tok e sz := if_pos h
theorem nilBlk_r {e sz : Nat} (h : 1000000 ≤ e) : nilBlk e sz = .cells (e - 1000000) false [] := if_neg (Nat.not_lt.2 h)
theorem accC_ol (k e sz r a : Nat) (l : List PV) (s : St) : accC k e sz s (.olist r a l) = s := _root_.id rfl
theorem accP_ptr (o e sz r b : Nat) (env : List (Nat × AV)) (σ : List (Nat × Blk)) (n : Nat) : accP o e sz ⟨env, σ, n⟩ (.ptr r b) = accB r (b + o) e sz ⟨env, σ, n⟩ (lookB r σ) := _root_.id rfl
theorem accB_cells (r o e sz T : Nat) (f : Bool) (l : List AV) (s : St) : accB r o e sz s (.cells T f l) = accD r T f l o e sz s l[o]? := _root_.id rfl
theorem accD_nils (r T : Nat) (f : Bool) (l : List AV) (o e sz : Nat) (env : List (Nat × AV)) (σ : List (Nat × Blk)) (n : Nat) : accD r T f l o e sz ⟨env, σ, n⟩ (some (.pv .nils)) = ⟨env, (r, .cells T f (l.set o (nilAV n e sz))) :: (n, nilBlk e sz) :: σ, n + 1⟩ := _root_.id rfl
theorem accD_row (r T : Nat) (f : Bool) (l : List AV) (o e sz : Nat) (s : St) (q a b c : Nat) : accD r T f l o e sz s (some (.row q a b c)) = s := _root_.id rfl
theorem accD_ol (r T : Nat) (f : Bool) (l : List AV) (o e sz : Nat) (s : St) (q a : Nat) (k : List PV) : accD r T f l o e sz s (some (.olist q a k)) = s := _root_.id rfl
theorem set0 {α : Type} (x y : α) (r : List α) : (x :: r).set 0 y = y :: r := _root_.id rfl
theorem setS {α : Type} (x y : α) (r : List α) (n : Nat) : (x :: r).set (n + 1) y = x :: r.set n y := _root_.id rfl
theorem st_eq (e e' : List (Nat × AV)) (σ σ' : List (Nat × Blk)) (n n' : Nat) : (St.mk e σ n = St.mk e' σ' n') = (e = e' ∧ σ = σ' ∧ n = n') := by rw [St.mk.injEq]
theorem dNlt_t {a b : Nat} (h : a < b) : decide (a < b) = true := decide_eq_true h
theorem dNlt_f {a b : Nat} (h : ¬ a < b) : decide (a < b) = false := decide_eq_false h
theorem dNle_t {a b : Nat} (h : a ≤ b) : decide (a ≤ b) = true := decide_eq_true h
theorem dNle_f {a b : Nat} (h : ¬ a ≤ b) : decide (a ≤ b) = false := decide_eq_false h
theorem dNeq_t {a b : Nat} (h : a = b) : decide (a = b) = true := decide_eq_true h
theorem dNeq_f {a b : Nat} (h : ¬ a = b) : decide (a = b) = false := decide_eq_false h
theorem take_snoc {α : Type} {l : List α} {m : Nat} {x : α} (h : l[m]? = some x) : l.take (m + 1) = l.take m ++ [x] := by
 obtain ⟨h1, h2⟩ := List.getElem?_eq_some_iff.1 h
 rw [List.take_succ_eq_append_getElem h1, h2]
def fillC (cells : List AV) (off sz : Nat) (r : List (Nat × Nat × AV)) (xc : List AV) : Bool → Option (List AV)
 | true => fillA (cells.take off ++ xc ++ cells.drop (off + sz)) r
 | false => none
theorem fillC_t (cells : List AV) (off sz : Nat) (r : List (Nat × Nat × AV)) (xc : List AV) : fillC cells off sz r xc true = fillA (cells.take off ++ xc ++ cells.drop (off + sz)) r := _root_.id rfl
theorem fillA_nil (cells : List AV) : fillA cells [] = some cells := _root_.id rfl
theorem fillA_cons (cells : List AV) (off sz : Nat) (x : AV) (r : List (Nat × Nat × AV)) : fillA cells ((off, sz, x) :: r) = fillC cells off sz r x.cells (x.known && decide (x.cells.length = sz) && decide (off + sz ≤ cells.length)) := by
 simp only [fillA]
 by_cases h : x.known = true ∧ x.cells.length = sz ∧ off + sz ≤ cells.length
 ·rw [if_pos h, h.1, decide_eq_true h.2.1, decide_eq_true h.2.2]; rfl
 ·rw [if_neg h]
  have : (x.known && decide (x.cells.length = sz) && decide (off + sz ≤ cells.length)) = false := by
   rw [Bool.eq_false_iff]
   intro hh
   simp only [Bool.and_eq_true, decide_eq_true_eq] at hh
   exact h ⟨hh.1.1, hh.1.2, hh.2⟩
  rw [this]; rfl
theorem partT_eq (sz off : Nat) (cs : List AV) : partT sz off cs = if off + sz ≤ cs.length then some (mkAgg ((cs.drop off).take sz)) else none := _root_.id rfl
section
variable {P : Program} {G : Nat → List PV}
def RoundX {ι : Type} (A : List (Nat × Nat × Nat × Nat)) (S : ι → St) (Inv : ι → Prop) (μ : ι → Nat) (x : ι) (m0 : Nat) (keep : List Nat) (id : Nat) (keepX : List Nat) (fin : ι → Prop) (Q : AExit → St → Prop) : AExit → St → Prop
 | .norm, s' => ∃ x', Hd A m0 keep s' (S x') ∧ Inv x' ∧ μ x' < μ x
 | .exit i, s' => if i = id then ∃ x', fin x' ∧ norm m0 keepX s' = norm m0 keepX (S x') else Q (.exit i) s'
 | .ret, s' => Q .ret s'
theorem RoundX_norm {ι : Type} (A : List (Nat × Nat × Nat × Nat)) (S : ι → St) (Inv : ι → Prop) (μ : ι → Nat) (x : ι) (m0 : Nat) (keep : List Nat) (id : Nat) (keepX : List Nat) (fin : ι → Prop) (Q : AExit → St → Prop) (s : St) : RoundX A S Inv μ x m0 keep id keepX fin Q .norm s = ∃ x', Hd A m0 keep s (S x') ∧ Inv x' ∧ μ x' < μ x := _root_.id rfl
theorem RoundX_exit {ι : Type} (A : List (Nat × Nat × Nat × Nat)) (S : ι → St) (Inv : ι → Prop) (μ : ι → Nat) (x : ι) (m0 : Nat) (keep : List Nat) (id : Nat) (keepX : List Nat) (fin : ι → Prop) (Q : AExit → St → Prop) (i : Nat) (s : St) : RoundX A S Inv μ x m0 keep id keepX fin Q (.exit i) s = if i = id then (∃ x', fin x' ∧ norm m0 keepX s = norm m0 keepX (S x')) else Q (.exit i) s := _root_.id rfl
theorem RoundX_ret {ι : Type} (A : List (Nat × Nat × Nat × Nat)) (S : ι → St) (Inv : ι → Prop) (μ : ι → Nat) (x : ι) (m0 : Nat) (keep : List Nat) (id : Nat) (keepX : List Nat) (fin : ι → Prop) (Q : AExit → St → Prop) (s : St) : RoundX A S Inv μ x m0 keep id keepX fin Q .ret s = Q .ret s := _root_.id rfl
end
end Go.Ab
set_option linter.unusedVariables false
set_option linter.unusedSimpArgs false
namespace Go.Ab
open Go Go.RowKit
def Kap.cut (κ : Kap) (k : Nat) : Kap := ⟨κ.w, fun r => if r < k then κ.nm r else none, κ.imm⟩
theorem Kap.cut_ext (κ : Kap) (k : Nat) : Ext (κ.cut k) κ := by
 refine ⟨fun _ _ h => h, fun _ _ _ _ h => h, fun r d h => ?_, fun _ _ h _ => h⟩
 simp only [Kap.cut] at h
 split at h
 ·exact h
 ·cases h
theorem Kap.cut_none (κ : Kap) (k r : Nat) (h : k ≤ r) : (κ.cut k).nm r = none := by simp only [Kap.cut]; rw [if_neg (by omega)]
def LCalls (P : Program) (G : Nat → List PV) (k : Nat) (f : Nat) (args : List AV) (sto : List (Nat × Blk)) (next : Nat) (Q : AV → List (Nat × Blk) → Nat → Prop) : Prop :=
 Callable P f = true ∧ ∀ (κ : Kap) (vals : Array Value), SRel (ctxOf κ (fun r => lookB r sto) G) κ (fun r => lookB r sto) → (∀ r, next ≤ r → κ.nm r = none) → vals.size = args.length →
  (∀ (i : Nat) (x : AV), args[i]? = some x → ARel κ x (vals.getD i Go.undef)) →
  Calls P f vals κ.w fun e w' => ∃ u v κ' sto' next', e = .returned u ∧ κ'.w = w' ∧ Ext (κ.cut k) κ' ∧ Left (ctxOf κ (fun r => lookB r sto) G) κ.imm κ' ∧ ARel κ' v u ∧
   SRel (ctxOf κ (fun r => lookB r sto) G) κ' (fun r => lookB r sto') ∧ (∀ r, next' ≤ r → κ'.nm r = none) ∧ Q v sto' next'
section
variable {P : Program} {G : Nat → List PV}
theorem LCalls.of_code {muts : List Nat} {k f : Nat} {fn : AFn} {args : List AV} {sto : List (Nat × Blk)} {next : Nat} {R : AV → List (Nat × Blk) → Nat → Prop} (hc : cFn P muts f = some fn) (hn : args.length ≤ fn.N)
  (hv : vc P G k fn.body (FnK G fn.res R) ⟨initEnv args, sto, next⟩) : LCalls P G k f args sto next R := by
 unfold cFn at hc
 split at hc
 ·rename_i fnc hfn
  split at hc
  ·rename_i co hco
   split at hc
   ·rename_i rs hrs
    split at hc
    ·rename_i hok
     split at hc
     ·rename_i b li hb
      cases hc
      refine ⟨hok, fun κ vals hS hf hsz hargs => ?_⟩
      refine callsIn_wide.1 (callsIn_of_wp_marks (n := 0) hfn hco trivial ?_ rfl)
      let c := ctxOf κ (fun r => lookB r sto) G
      have hsize : (vals ++ Array.replicate (fnc.ntmps - vals.size) Go.undef).size = fnc.ntmps := by
       simp only at hn
       simp only [Array.size_append, Array.size_replicate]; omega
      have hR : Rel c (κ.cut k) fnc.ntmps ⟨initEnv args, sto, next⟩ ⟨vals ++ Array.replicate (fnc.ntmps - vals.size) Go.undef, []⟩ κ.w κ := by
       refine ⟨rfl, κ.cut_ext k, hS, ⟨rfl, rfl, rfl, Nat.le_refl _, fun _ _ _ => rfl, fun _ _ h => .inl h⟩, fun i => ?_, hsize, Marks.nil _ _, hf⟩
       show ARel κ (look i ((args.zipIdx 0).map fun p => (p.2, p.1))) _
       rw [look_init, if_pos (Nat.zero_le _), Nat.sub_zero]
       cases hx : args[i]? with
       | none => exact .any _
       | some x =>
         have hi : i < vals.size := by rw [hsz]; exact (List.getElem?_eq_some_iff.1 hx).1
         have := hargs i x hx
         have e : (vals ++ Array.replicate (fnc.ntmps - vals.size) Go.undef).getD i Go.undef = vals.getD i Go.undef := by
          simp only [Array.getD_eq_getD_getElem?]
          rw [Array.getElem?_append_left hi]
         rw [e]; exact this
      refine Go.wpIn_mono (vc_sound (P := P) (N := fnc.ntmps) co c (κ.cut k) k none 0 b [] (resLive rs) li (FnK G rs R) _ _ κ.w κ (.inl rfl) (fun r hr => κ.cut_none k r hr) (Nat.le_refl _) hb hR hv) ?_
      have fin : ∀ (s : St) (κ' : Kap) (a : Act) (w : World), Rel c (κ.cut k) fnc.ntmps s a w κ' → onSome (resVs G s rs) (retK R s) → ∃ v, (results fnc a.tmps).run P w = .ok v w ∧
        ∃ u v' κ'' sto' next', Ending.returned v = .returned u ∧ κ''.w = w ∧ Ext (κ.cut k) κ'' ∧ Left c κ.imm κ'' ∧ ARel κ'' v' u ∧ SRel c κ'' (fun r => lookB r sto') ∧ (∀ r, next' ≤ r → κ''.nm r = none) ∧ R v' sto' next' := by
       intro s κ' a w hR hF
       simp only [onSome] at hF
       split at hF
       ·rename_i vs hvs
        obtain ⟨us, h1, h2, h3⟩ := res_sound (P := P) hR fnc.results.toList rs vs hrs hvs
        have hrun : (results fnc a.tmps).run P w = .ok (if h : us.toArray.size = 1 then us.toArray[0] else .tuple us.toArray) w := by
         rw [results_eq, Sem.run_bind, Array.mapM_eq_mapM_toList]
         simp only [Sem.run_bind, Sem.run_map]
         rw [h1]
         simp
        refine ⟨_, hrun, _, retV vs, κ', s.sto, s.next, rfl, hR.w_eq, hR.ext0, hR.left, ?_, hR.rel, hR.fresh, hF⟩
        by_cases hl : vs.length = 1
        ·obtain ⟨v, rfl⟩ := List.length_eq_one_iff.1 hl
         obtain ⟨u, rfl⟩ := List.length_eq_one_iff.1 (h2.trans hl)
         have := h3 0 v rfl
         exact this
        ·have hul : ¬ us.toArray.size = 1 := by simpa [h2] using hl
         rw [dif_neg hul]
         have hrv : retV vs = mkTup vs := by
          unfold retV
          split
          ·simp at hl
          ·rfl
         rw [hrv]
         exact mkTup_rel (.tup _ _ (by simpa using h2) (fun i x hx => by rw [getD_toList]; simpa using h3 i x hx))
       ·exact hF.elim
      intro e a w hq
      cases e with
      | normal =>
        obtain ⟨s, κ', hR, hF⟩ := hq
        exact leaves_of (Nat.le_refl _) rfl hR fun w' κ'' hR' => fin s κ'' ⟨a.tmps, []⟩ w' hR' hF
      | ret =>
        obtain ⟨s, κ', hR, hF⟩ := hq
        exact leaves_of (Nat.le_refl _) rfl hR fun w' κ'' hR' => fin s κ'' ⟨a.tmps, []⟩ w' hR' hF
      | exit id =>
        obtain ⟨s, κ', hR, hF⟩ := hq
        exact hF.elim
      | goto l => exact hq.elim
      | panic ch => exact hq.elim
      | outgrown => exact hq.elim
     ·cases hc
    ·cases hc
   ·cases hc
  ·cases hc
 ·cases hc
def enumB : List Blk → Nat → List (Nat × Blk)
 | [], _ => []
 | b :: r, k => (k, b) :: enumB r (k + 1)
theorem lookB_enum : ∀ (bs : List Blk) (k i : Nat), lookB i (enumB bs k) = if k ≤ i then bs.getD (i - k) .none else .none
 | [], k, i => by simp [enumB, lookB]
 | b :: r, k, i => by
   simp only [enumB, lookB]
   by_cases h : k = i
   ·subst h; simp
   ·rw [if_neg h, lookB_enum r (k + 1) i]
    by_cases hk : k ≤ i
    ·rw [if_pos (by omega), if_pos hk, show i - k = (i - (k + 1)) + 1 by omega]; simp
    ·rw [if_neg (by omega), if_neg hk]
theorem lookB_enum0 (bs : List Blk) : (fun r => lookB r (enumB bs 0)) = fun r => bs.getD r .none := by
 funext r; rw [lookB_enum]; simp
def Lent (P : Program) (G : Nat → List PV) (k f : Nat) (args : List AV) (bs : List Blk) (v : AV) (bs' : List Blk) : Prop :=
 LCalls P G k f args (enumB bs 0) bs.length fun v' sto' next' => v' = v ∧ sto' = enumB bs' 0 ∧ next' = bs'.length
def lentR (k : Nat) (v : AV) (bs' : List Blk) (v' : AV) (sto' : List (Nat × Blk)) (next' : Nat) : Prop :=
 Wk k ⟨[(0, v')], sto', next'⟩ ⟨[(0, v)], enumB bs' 0, bs'.length⟩
theorem Lent.of_lcalls {k f : Nat} {args : List AV} {bs : List Blk} {v : AV} {bs' : List Blk} (h : LCalls P G k f args (enumB bs 0) bs.length (lentR k v bs')) : Lent P G k f args bs v bs' := by
 obtain ⟨hcal, h⟩ := h
 refine ⟨hcal, fun κ vals hS hf hsz hargs => (h κ vals hS hf hsz hargs).mono ?_⟩
 rintro e w' ⟨u, v', κ', sto', next', rfl, rfl, he, hL, hv, hS', hf', hw⟩
 obtain ⟨κ'', hR⟩ := hw _ (κ.cut k) κ' 1 ⟨#[u], []⟩ κ'.w (fun r hr => κ.cut_none k r hr) ⟨rfl, he, hS', hL, fun i => by
  show ARel κ' (look i [(0, v')]) _
  by_cases hi : 0 = i
  ·subst hi; simpa [look] using hv
  ·simp only [look, if_neg hi]; exact .any _, rfl, Marks.nil _ _, hf'⟩
 refine ⟨u, v, κ'', _, _, rfl, hR.w_eq, hR.ext0, hR.left, ?_, hR.rel, hR.fresh, rfl, rfl, rfl⟩
 have := hR.env 0
 simpa [St.E, look] using this
theorem Lent.intro {muts : List Nat} {k f : Nat} {fn : AFn} {args : List AV} {bs : List Blk} {v : AV} {bs' : List Blk} (hc : cFn P muts f = some fn) (hn : args.length ≤ fn.N)
  (hv : vc P G k fn.body (FnK G fn.res (lentR k v bs')) ⟨initEnv args, enumB bs 0, bs.length⟩) : Lent P G k f args bs v bs' :=
 Lent.of_lcalls (LCalls.of_code hc hn hv)
def gIn (next : Nat) : List Nat → Nat → Nat
 | [], i => next + i
 | r :: _, 0 => r
 | _ :: q, i + 1 => gIn next q i
def gSo (next : Nat) (rs : List Nat) (r : Nat) : Option Nat := some (gIn next rs r)
theorem gIn_lt (next : Nat) : ∀ (rs : List Nat) (i : Nat) (r : Nat), rs[i]? = some r → gIn next rs i = r
 | [], i, r, h => by simp at h
 | x :: q, 0, r, h => by simpa [gIn] using h
 | x :: q, i + 1, r, h => by simpa [gIn] using gIn_lt next q i r (by simpa using h)
theorem gIn_ge (next : Nat) : ∀ (rs : List Nat) (i : Nat), rs.length ≤ i → gIn next rs i = next + (i - rs.length)
 | [], i, h => by simp [gIn]
 | x :: q, 0, h => by simp at h
 | x :: q, i + 1, h => by
   simp only [List.length_cons] at h
   rw [gIn, gIn_ge next q i (by omega)]
   simp
mutual
theorem unren {κ κ' : Kap} (hw : κ'.w = κ.w) (hi : κ'.imm = κ.imm) {g : Nat → Nat} (hf : ∀ r, κ'.nm r = κ.nm (g r)) : ∀ (x : AV) (v : Value), ARel κ (x.ren fun r => some (g r)) v → ARel κ' x v
 | .pv p, v, h => by
   simp only [AV.ren] at h
   cases h with
   | pv _ _ hp => exact .pv _ _ (by rw [hw, hi]; exact hp)
 | .any, v, h => .any v
 | .ptr r o, v, h => by
   simp only [AV.ren] at h
   cases h with
   | ptr _ _ b n hn => exact .ptr _ _ b n (by rw [hf r]; exact hn)
 | .row r a b c, v, h => by
   simp only [AV.ren] at h
   cases h with
   | row _ _ _ _ bb n cap hn h1 h2 h3 h4 => exact .row _ _ _ _ bb n cap (by rw [hf r]; exact hn) h1 h2 h3 h4
   | row0 _ _ hn => exact .row0 _ _ (by rw [hf r]; exact hn)
 | .olist r a l, v, h => by
   simp only [AV.ren] at h
   cases h with
   | olist _ _ _ _ hn hp hs => exact .olist _ _ _ _ (by rw [hf r]; exact hn) (by rw [hw, hi]; exact hp) hs
 | .agg cs, v, h => by
   simp only [AV.ren] at h
   cases h with
   | agg _ vs hl hr =>
     obtain ⟨h1, h2⟩ := unrenL hw hi hf cs vs hr
     exact .agg _ _ (by rw [← h1]; exact hl) h2
 | .tup cs, v, h => by
   simp only [AV.ren] at h
   cases h with
   | tup _ vs hl hr =>
     obtain ⟨h1, h2⟩ := unrenL hw hi hf cs vs hr
     exact .tup _ _ (by rw [← h1]; exact hl) h2
 | .clo g fs cs, v, h => by
   simp only [AV.ren] at h
   cases h with
   | clo _ _ _ vs us hl hr hl' hr' =>
     obtain ⟨h1, h2⟩ := unrenL hw hi hf fs vs hr
     obtain ⟨h3, h4⟩ := unrenL hw hi hf cs us hr'
     exact .clo _ _ _ _ _ (by rw [← h1]; exact hl) h2 (by rw [← h3]; exact hl') h4
theorem unrenL {κ κ' : Kap} (hw : κ'.w = κ.w) (hi : κ'.imm = κ.imm) {g : Nat → Nat} (hf : ∀ r, κ'.nm r = κ.nm (g r)) : ∀ (xs : List AV) (vs : Array Value),
  (∀ (i : Nat) (x : AV), (AV.renL (fun r => some (g r)) xs)[i]? = some x → ARel κ x (vs.getD i Go.undef)) → (AV.renL (fun r => some (g r)) xs).length = xs.length ∧ ∀ (i : Nat) (x : AV), xs[i]? = some x → ARel κ' x (vs.getD i Go.undef)
 | [], vs, h => by simp [AV.renL]
 | x :: r, vs, h => by
   have e : ∀ i, (vs.extract 1 vs.size).getD i Go.undef = vs.getD (i + 1) Go.undef := by
    intro i
    simp only [Array.getD_eq_getD_getElem?, Array.getElem?_extract]
    by_cases hh : i < min vs.size vs.size - 1
    ·rw [if_pos hh]; congr 2; omega
    ·rw [if_neg hh, Array.getElem?_eq_none (by omega)]
   obtain ⟨h1, h2⟩ := unrenL hw hi hf r (vs.extract 1 vs.size) (fun i y hy => by
    have := h (i + 1) y (by simpa [AV.renL] using hy)
    rw [e]; exact this)
   refine ⟨by simp [AV.renL, h1], fun i y hy => ?_⟩
   cases i with
   | zero =>
     simp only [List.getElem?_cons_zero, Option.some.injEq] at hy
     subst hy
     exact unren hw hi hf x _ (h 0 _ (by simp [AV.renL]))
   | succ i =>
     simp only [List.getElem?_cons_succ] at hy
     have := h2 i y hy
     rw [e] at this; exact this
end
theorem BRel.unren {κ κ' : Kap} (hw : κ'.w = κ.w) (hi : κ'.imm = κ.imm) {g : Nat → Nat} (hf : ∀ r, κ'.nm r = κ.nm (g r)) {r : Nat} {B : Blk} (h : BRel κ (g r) (B.ren fun r => some (g r))) : BRel κ' r B := by
 cases B with
 | none => trivial
 | cells T f l =>
   simp only [Blk.ren] at h
   rcases h with ⟨h1, h2, h3⟩ | ⟨b, n, cs, h1, h2, h3, h4, h5, h6, h7⟩
   ·refine .inl ⟨h1, ?_, by rw [hf]; exact h3⟩
    cases l with
    | nil => rfl
    | cons x r => simp [AV.renL] at h2
   ·obtain ⟨q1, q2⟩ := unrenL hw hi hf l cs h6
    exact .inr ⟨b, n, cs, by rw [hf]; exact h1, by rw [hw]; exact h2, h3, by rw [← q1]; exact h4, fun hb => by rw [← q1]; exact h5 hb, q2, by rw [hi]; exact h7⟩
 | tok e sz =>
   simp only [Blk.ren] at h
   rcases h with h | ⟨g', n, cap, cur, h1, h2, h3⟩
   ·exact .inl (by rw [hf]; exact h)
   ·exact .inr ⟨g', n, cap, cur, by rw [hf]; exact h1, by rw [hw]; exact h2, by rw [hi]; exact h3⟩
theorem BRel.ren {κ κ' : Kap} (hw : κ'.w = κ.w) (hi : κ'.imm = κ.imm) {g : Nat → Nat} (hf : ∀ r, κ'.nm (g r) = κ.nm r) {r : Nat} {B : Blk} (h : BRel κ r B) : BRel κ' (g r) (B.ren fun r => some (g r)) := by
 have hf' : ∀ r r', (fun r => some (g r)) r = some r' → κ'.nm r' = κ.nm r := fun r r' h => by cases h; exact hf r
 cases B with
 | none => trivial
 | cells T f l =>
   simp only [Blk.ren]
   rcases h with ⟨h1, h2, h3⟩ | ⟨b, n, cs, h1, h2, h3, h4, h5, h6, h7⟩
   ·exact .inl ⟨h1, by rw [h2]; simp only [AV.renL], by rw [hf]; exact h3⟩
   ·obtain ⟨q1, q2⟩ := renL_rel hw hi hf' l cs h6
    exact .inr ⟨b, n, cs, by rw [hf]; exact h1, by rw [hw]; exact h2, h3, by rw [q1]; exact h4, fun hb => by rw [q1]; exact h5 hb, q2, by rw [hi]; exact h7⟩
 | tok e sz =>
   simp only [Blk.ren]
   rcases h with h | ⟨g', n, cap, cur, h1, h2, h3⟩
   ·exact .inl (by rw [hf]; exact h)
   ·exact .inr ⟨g', n, cap, cur, by rw [hf]; exact h1, by rw [hw]; exact h2, by rw [hi]; exact h3⟩
def outB (f : Nat → Option Nat) : List Blk → Nat → (Nat → Nat) → List (Nat × Blk)
 | [], _, _ => []
 | b :: r, i, g => (g i, b.ren f) :: outB f r (i + 1) g
def noneB : List Nat → List (Nat × Blk)
 | [] => []
 | r :: q => (r, .none) :: noneB q
def LentAt (sto : List (Nat × Blk)) (f : Nat → Option Nat) : List Nat → List Blk → Prop
 | [], [] => True
 | r :: rs, b :: bs => BlkZ (lookB r sto) (b.ren f) ∧ LentAt sto f rs bs
 | _, _ => False
theorem LentAt.get {sto : List (Nat × Blk)} {f : Nat → Option Nat} : ∀ {rs : List Nat} {bs : List Blk}, LentAt sto f rs bs → rs.length = bs.length ∧ ∀ (i r : Nat) (b : Blk), rs[i]? = some r → bs[i]? = some b → BlkZ (lookB r sto) (b.ren f)
 | [], [], h => ⟨rfl, by simp⟩
 | r :: rs, b :: bs, h => by
   obtain ⟨h1, h2⟩ := h
   obtain ⟨h3, h4⟩ := LentAt.get h2
   refine ⟨by simp [h3], fun i q d hq hd => ?_⟩
   cases i with
   | zero => simp at hq hd; subst hq; subst hd; exact h1
   | succ i => exact h4 i q d (by simpa using hq) (by simpa using hd)
 | [], _ :: _, h => h.elim
 | _ :: _, [], h => h.elim
end
end Go.Ab
set_option linter.unusedVariables false
set_option linter.unusedSimpArgs false
namespace Go.Ab
open Go Go.RowKit
section
variable {P : Program} {G : Nat → List PV}
theorem BRel.named {κ : Kap} {r : Nat} {B : Blk} (h : BRel κ r B) (hB : B ≠ .none) : ∃ d, κ.nm r = some d := by
 cases B with
 | none => exact absurd rfl hB
 | cells T f l =>
   rcases h with ⟨_, _, h⟩ | ⟨b, n, cs, h, _⟩
   ·exact ⟨_, h⟩
   ·exact ⟨_, h⟩
 | tok e sz =>
   rcases h with h | ⟨g, n, cap, cur, h, _⟩
   ·exact ⟨_, h⟩
   ·exact ⟨_, h⟩
theorem Blk.ren_ne {f : Nat → Option Nat} {b : Blk} : b.ren f ≠ .none ↔ b ≠ .none := by
 cases b <;> simp [Blk.ren]
theorem gIn_inj {next : Nat} {rs : List Nat} (hnd : rs.Nodup) (hlt : ∀ r ∈ rs, r < next) {i j : Nat} (h : gIn next rs i = gIn next rs j) : i = j := by
 by_cases hi : i < rs.length
 ·have ei := gIn_lt next rs i _ (List.getElem?_eq_getElem hi)
  have hi' := hlt _ (List.getElem_mem hi)
  by_cases hj : j < rs.length
  ·have ej := gIn_lt next rs j _ (List.getElem?_eq_getElem hj)
   rw [ei, ej] at h
   exact (List.getElem_inj hnd).1 h
  ·have ej := gIn_ge next rs j (by omega)
   omega
 ·have ei := gIn_ge next rs i (by omega)
  by_cases hj : j < rs.length
  ·have ej := gIn_lt next rs j _ (List.getElem?_eq_getElem hj)
   have hj' := hlt _ (List.getElem_mem hj)
   omega
  ·have ej := gIn_ge next rs j (by omega)
   omega
theorem lookB_out {f : Nat → Option Nat} {g : Nat → Nat} (hg : ∀ i j, g i = g j → i = j) (rest : List (Nat × Blk)) (r : Nat) : ∀ (bs : List Blk) (k : Nat),
  (∀ i b, bs[i]? = some b → g (k + i) = r → lookB r (outB f bs k g ++ rest) = b.ren f) ∧ ((∀ i, i < bs.length → g (k + i) ≠ r) → lookB r (outB f bs k g ++ rest) = lookB r rest)
 | [], k => ⟨by simp, fun _ => rfl⟩
 | b :: q, k => by
   obtain ⟨h1, h2⟩ := lookB_out hg rest r q (k + 1)
   refine ⟨fun i b' hi hr => ?_, fun h => ?_⟩
   ·simp only [outB, List.cons_append, lookB]
    cases i with
    | zero =>
      simp only [List.getElem?_cons_zero, Option.some.injEq] at hi
      subst hi
      rw [if_pos (by simpa using hr)]
    | succ i =>
      rw [if_neg (fun e => by have := hg _ _ (e.trans hr.symm); omega)]
      exact h1 i b' (by simpa using hi) (by rw [← hr]; congr 1; omega)
   ·simp only [outB, List.cons_append, lookB]
    rw [if_neg (by have := h 0 (by simp); simpa using this)]
    exact h2 fun i hi => by
     have := h (i + 1) (by simp; omega)
     rwa [show k + (i + 1) = k + 1 + i by omega] at this
theorem lookB_none (rest : List (Nat × Blk)) (r : Nat) : ∀ (l : List Nat), lookB r (noneB l ++ rest) = if r ∈ l then .none else lookB r rest
 | [] => by simp [noneB]
 | x :: q => by
   simp only [noneB, List.cons_append, lookB, lookB_none rest r q, List.mem_cons]
   by_cases h : x = r
   ·subst h; simp
   ·rw [if_neg h]
    by_cases hq : r ∈ q
    ·simp [hq]
    ·have : ¬ (r = x ∨ r ∈ q) := by rintro (e | e); exact h e.symm; exact hq e
     rw [if_neg hq, if_neg this]
theorem Lent.frame {k f : Nat} {args0 : List AV} {bs : List Blk} {v : AV} {bs' : List Blk} (h : Lent P G k f args0 bs v bs') {rs : List Nat} {args : List AV} {sto : List (Nat × Blk)} {next : Nat}
  (hargs : AVzL args (AV.renL (gSo next rs) args0)) (hbs : LentAt sto (gSo next rs) rs bs) (hnd : rs.Nodup) (hlt : ∀ r ∈ rs, r < next) (hk : k ≤ bs.length) (hk' : k ≤ bs'.length) (hne : ∀ b ∈ bs.take k, b ≠ .none) :
  TCalls P G f args sto next fun v' sto' next' => v' = v.ren (gSo next (rs.take k)) ∧ sto' = outB (gSo next (rs.take k)) bs' 0 (gIn next (rs.take k)) ++ (noneB (rs.drop k) ++ sto) ∧ next' = next + (bs'.length - k) := by
 obtain ⟨hcal, h⟩ := h
 refine ⟨hcal, fun κ vals hS hf hsz hvals => ?_⟩
 obtain ⟨hrl, hat⟩ := hbs.get
 let κ1 : Kap := ⟨κ.w, fun i => κ.nm (gIn next rs i), κ.imm⟩
 have hσ1 : (fun r => lookB r (enumB bs 0)) = fun r => bs.getD r .none := lookB_enum0 bs
 have hlook : ∀ i b, bs[i]? = some b → ∃ r, rs[i]? = some r ∧ gIn next rs i = r ∧ BRel κ r (b.ren (gSo next rs)) ∧ (b ≠ .none → lookB r sto ≠ .none) := by
  intro i b hb
  have hi : i < rs.length := by rw [hrl]; exact (List.getElem?_eq_some_iff.1 hb).1
  have hr := List.getElem?_eq_getElem hi
  obtain ⟨q1, q2⟩ := (hat i _ b hr hb).rel (hS.blk rs[i])
  exact ⟨rs[i], hr, gIn_lt next rs i _ hr, q1, fun hb' => q2 (Blk.ren_ne.2 hb')⟩
 have hlive : ∀ i, bs.getD i .none ≠ .none → ∃ b, bs[i]? = some b ∧ b ≠ .none := by
  intro i hi
  rw [List.getD_eq_getElem?_getD] at hi
  cases hb : bs[i]? with
  | none => rw [hb] at hi; exact absurd rfl hi
  | some b => rw [hb] at hi; exact ⟨b, rfl, hi⟩
 have hB1 : ∀ i b, bs[i]? = some b → BRel κ1 i b := by
  intro i b hb
  obtain ⟨r, hr, hgr, hB, _⟩ := hlook i b hb
  exact BRel.unren (κ := κ) (κ' := κ1) rfl rfl (g := gIn next rs) (fun _ => rfl) (by rw [hgr]; exact hB)
 have hl1 : ∀ b, (ctxOf κ1 (fun r => lookB r (enumB bs 0)) G).lent b → (ctxOf κ (fun r => lookB r sto) G).lent b := by
  rintro b ⟨i, d, h1, h2, h3⟩
  simp only [congrFun hσ1 i] at h1
  obtain ⟨b', hb, hbn⟩ := hlive i h1
  obtain ⟨r, hr, hgr, _, hn⟩ := hlook i b' hb
  exact ⟨r, d, hn hbn, by rw [← hgr]; exact h2, h3⟩
 have hm1 : ∀ b, (ctxOf κ1 (fun r => lookB r (enumB bs 0)) G).mine b → (ctxOf κ (fun r => lookB r sto) G).mine b := fun b hb => hb.elim .inl (fun h => .inr (hl1 b h))
 have hS1 : SRel (ctxOf κ1 (fun r => lookB r (enumB bs 0)) G) κ1 (fun r => lookB r (enumB bs 0)) := by
  refine ⟨fun i => ?_, fun i j d d' b h1 h2 hij hd hd' hb => ?_, fun i d b h1 hd hb => .inr ⟨i, d, h1, hd, hb⟩, hS.immLt, ?_⟩
  ·rw [congrFun hσ1 i]
   show BRel κ1 i (bs.getD i .none)
   rw [List.getD_eq_getElem?_getD]
   cases hb : bs[i]? with
   | none => trivial
   | some b => exact hB1 i b hb
  ·simp only [congrFun hσ1 i] at h1
   simp only [congrFun hσ1 j] at h2
   obtain ⟨b1, hb1, hn1⟩ := hlive i h1
   obtain ⟨b2, hb2, hn2⟩ := hlive j h2
   obtain ⟨r, hr, hgr, _, hn⟩ := hlook i b1 hb1
   obtain ⟨r', hr', hgr', _, hn'⟩ := hlook j b2 hb2
   refine hS.apart r r' d d' b (hn hn1) (hn' hn2) (fun e => hij ?_) (by rw [← hgr]; exact hd) (by rw [← hgr']; exact hd') hb
   obtain ⟨hi, ei⟩ := List.getElem?_eq_some_iff.1 hr
   obtain ⟨hj, ej⟩ := List.getElem?_eq_some_iff.1 hr'
   exact (List.getElem_inj hnd).1 (ei.trans (e.trans ej.symm))
  ·refine ⟨fun g o p hp => ?_, fun g hg => ?_⟩
   ·exact hS.glob.1 g o p hp
   ·obtain ⟨h1, h2, h3⟩ := hS.glob.2 g hg
    exact ⟨h1, fun hl => h2 (hl1 g hl), h3⟩
 have hf1 : ∀ r, bs.length ≤ r → κ1.nm r = none := fun r hr => by
  show κ.nm (gIn next rs r) = none
  rw [gIn_ge next rs r (by omega)]
  exact hf _ (by omega)
 have hlen0 : args0.length = args.length := by
  rw [hargs.length]
  have : ∀ (f : Nat → Option Nat) (l : List AV), (AV.renL f l).length = l.length := by
   intro f l
   induction l with
   | nil => simp [AV.renL]
   | cons x r ih => simp [AV.renL, ih]
  rw [this]
 have hv1 : ∀ (i : Nat) (x : AV), args0[i]? = some x → ARel κ1 x (vals.getD i Go.undef) :=
  (unrenL (κ := κ) (κ' := κ1) rfl rfl (g := gIn next rs) (fun _ => rfl) args0 vals (fun i x hx => by
   obtain ⟨y, hy, hyx⟩ := hargs.get i x hx
   exact hyx.rel (hvals i y hy))).2
 refine (h κ1 vals hS1 hf1 (by omega) hv1).mono ?_
 rintro e w' ⟨u, v', κ1', sto', next', rfl, rfl, he, hL, hv, hS', hf', rfl, rfl, rfl⟩
 obtain ⟨g, hgdef⟩ : ∃ g, g = gIn next (rs.take k) := ⟨_, rfl⟩
 have htl : (rs.take k).length = k := by rw [List.length_take]; omega
 have hg1 : ∀ i, i < k → ∃ r, rs[i]? = some r ∧ g i = r ∧ r < next := by
  intro i hi
  have hi' : i < rs.length := by omega
  have hr := List.getElem?_eq_getElem hi'
  refine ⟨rs[i], hr, ?_, hlt _ (List.getElem_mem hi')⟩
  rw [hgdef]
  exact gIn_lt next _ i _ (by rw [List.getElem?_take, if_pos hi]; exact hr)
 have hg2 : ∀ i, k ≤ i → g i = next + (i - k) := fun i hi => by rw [hgdef, gIn_ge next _ i (by omega), htl]
 have hginj : ∀ i j, g i = g j → i = j := fun i j hij => by
  rw [hgdef] at hij
  exact gIn_inj (hnd.sublist (List.take_sublist _ _)) (fun r hr => hlt r (List.mem_of_mem_take hr)) hij
 have hso : gSo next (rs.take k) = fun r => some (g r) := by rw [hgdef]; rfl
 rw [hso, ← hgdef]
 let κ' : Kap := ⟨κ1'.w, fun r => if r < next then κ.nm r else κ1'.nm (k + (r - next)), κ1'.imm⟩
 have hnmk : ∀ i, i < k → κ1'.nm i = κ1.nm i := by
  intro i hi
  have hib : i < bs.length := by omega
  have hb := List.getElem?_eq_getElem hib
  obtain ⟨d, hd⟩ := (hB1 i _ hb).named (hne _ (List.mem_take_iff_getElem.2 ⟨i, by omega, rfl⟩))
  rw [hd]
  exact he.nm i d (by simp only [Kap.cut]; rw [if_pos hi]; exact hd)
 have hnm' : ∀ i, κ'.nm (g i) = κ1'.nm i := by
  intro i
  by_cases hi : i < k
  ·obtain ⟨r, hr, hgr, hrn⟩ := hg1 i hi
   show (if g i < next then κ.nm (g i) else κ1'.nm (k + (g i - next))) = _
   rw [hgr, if_pos hrn, hnmk i hi]
   show κ.nm r = κ.nm (gIn next rs i)
   rw [gIn_lt next rs i r hr]
  ·show (if g i < next then κ.nm (g i) else κ1'.nm (k + (g i - next))) = _
   rw [hg2 i (by omega), if_neg (by omega)]
   congr 1; omega
 have hext : Ext κ κ' := ⟨fun b o hi => he.imm b o hi, fun b o v hi hc => he.cell b o v hi hc, fun r d hd => by
  have hr : r < next := by
   rcases Nat.lt_or_ge r next with h | h
   ·exact h
   ·rw [hf r h] at hd; cases hd
  show (if r < next then κ.nm r else _) = _
  rw [if_pos hr]; exact hd, fun b o ho hc => he.obj b o ho hc⟩
 have hout : ∀ r d b, lookB r sto ≠ .none → r ∉ rs → κ.nm r = some d → d.block = some b → b < κ.w.heap.size ∧ ¬ (ctxOf κ1 (fun r => lookB r (enumB bs 0)) G).lent b := by
  intro r d b h1 h2 h3 h4
  refine ⟨(hS.blk r).lt h1 h3 h4, ?_⟩
  rintro ⟨i, d', q1, q2, q3⟩
  simp only [congrFun hσ1 i] at q1
  obtain ⟨b', hb, hbn⟩ := hlive i q1
  obtain ⟨r', hr', hgr, _, hn⟩ := hlook i b' hb
  refine hS.apart r r' d d' b h1 (hn hbn) (fun e => h2 (e ▸ List.mem_of_getElem? hr')) h3 (by rw [← hgr]; exact q2) h4 q3
 have hmem : ∀ r, r ∈ rs → (∃ i, i < bs'.length ∧ g i = r) ∨ r ∈ rs.drop k := by
  intro r hr
  obtain ⟨i, hi⟩ := List.getElem?_of_mem hr
  by_cases hik : i < k
  ·obtain ⟨r', hr', hgr, _⟩ := hg1 i hik
   rw [hi] at hr'; cases hr'
   exact .inl ⟨i, by omega, hgr⟩
  ·refine .inr (List.mem_of_getElem? (i := i - k) ?_)
   rw [List.getElem?_drop, show k + (i - k) = i by omega]; exact hi
 have hσ' : ∀ r, (∃ i b, bs'[i]? = some b ∧ g i = r ∧ lookB r (outB (fun r => some (g r)) bs' 0 g ++ (noneB (rs.drop k) ++ sto)) = b.ren (fun r => some (g r))) ∨
   lookB r (outB (fun r => some (g r)) bs' 0 g ++ (noneB (rs.drop k) ++ sto)) = .none ∨ (r ∉ rs ∧ (∀ i, i < bs'.length → g i ≠ r) ∧ lookB r (outB (fun r => some (g r)) bs' 0 g ++ (noneB (rs.drop k) ++ sto)) = lookB r sto) := by
  intro r
  obtain ⟨q1, q2⟩ := lookB_out (f := fun r => some (g r)) hginj (noneB (rs.drop k) ++ sto) r bs' 0
  by_cases hi : ∃ i, i < bs'.length ∧ g i = r
  ·obtain ⟨i, hi, hgi⟩ := hi
   exact .inl ⟨i, bs'[i], List.getElem?_eq_getElem hi, hgi, q1 i _ (List.getElem?_eq_getElem hi) (by rw [Nat.zero_add]; exact hgi)⟩
  ·have hni : ∀ i, i < bs'.length → g i ≠ r := fun i h1 h2 => hi ⟨i, h1, h2⟩
   have e := q2 (fun i h1 => by rw [Nat.zero_add]; exact hni i h1)
   rw [lookB_none] at e
   by_cases hr : r ∈ rs.drop k
   ·rw [if_pos hr] at e; exact .inr (.inl e)
   ·rw [if_neg hr] at e
    exact .inr (.inr ⟨fun h => (hmem r h).elim hi hr, hni, e⟩)
 have hlive' : ∀ i b, bs'[i]? = some b → b.ren (fun r => some (g r)) ≠ .none → lookB i (enumB bs' 0) ≠ .none := by
  intro i b hb hbn
  have e2 : lookB i (enumB bs' 0) = bs'.getD i .none := congrFun (lookB_enum0 bs') i
  rw [e2, List.getD_eq_getElem?_getD, hb]
  exact Blk.ren_ne.1 hbn
 refine ⟨u, _, κ', _, _, rfl, rfl, hext, ⟨hL.os, hL.tape, hL.output, hL.size, fun b hb hl => hL.block b hb fun h => hl (hl1 b h), fun b o hi => (hL.imm b o hi).imp id (hm1 b)⟩,
  ren_rel (κ := κ1') (κ' := κ') rfl rfl (fun r r' hr => by cases hr; exact hnm' r) v' u hv, ?_, fun r hr => ?_, rfl, rfl, rfl⟩
 ·refine ⟨fun r => ?_, fun r r' d d' b h1 h2 hrr hd hd' hb => ?_, fun r d b h1 hd hb => ?_, hS'.immLt, ?_⟩
  ·show BRel κ' r (lookB r _)
   rcases hσ' r with ⟨i, b, hb, hgi, e⟩ | e | ⟨hr, hni, e⟩
   ·rw [e, ← hgi]
    refine BRel.ren (κ := κ1') (κ' := κ') rfl rfl hnm' ?_
    have := hS'.blk i
    have e2 : lookB i (enumB bs' 0) = bs'.getD i .none := congrFun (lookB_enum0 bs') i
    simp only [e2, List.getD_eq_getElem?_getD, hb] at this
    exact this
   ·rw [e]; trivial
   ·rw [e]
    refine (hS.blk r).keep hext fun hbn d b hd hb => ?_
    obtain ⟨q1, q2⟩ := hout r d b hbn hr hd hb
    refine ⟨hL.block b q1 q2, fun o ho => ?_⟩
    rcases hL.imm b o ho with h | h | h
    ·exact h
    ·exact absurd q1 (Nat.not_lt.2 h)
    ·exact absurd h q2
  ·have cal : ∀ r i b0 d, bs'[i]? = some b0 → g i = r → b0.ren (fun r => some (g r)) ≠ .none → κ'.nm r = some d → lookB i (enumB bs' 0) ≠ .none ∧ κ1'.nm i = some d := by
    intro r i b0 d hb0 hgi hbn hd
    exact ⟨hlive' i b0 hb0 hbn, by rw [← hnm' i, hgi]; exact hd⟩
   have own : ∀ r d, r ∉ rs → lookB r sto ≠ .none → κ'.nm r = some d → κ.nm r = some d := by
    intro r d hr hbn hd
    obtain ⟨d', hd'⟩ := (hS.blk r).named hbn
    have := hext.nm r d' hd'
    rw [this] at hd; cases hd; exact hd'
   have mix : ∀ r i b0 d d' b, bs'[i]? = some b0 → b0.ren (fun r => some (g r)) ≠ .none → κ1'.nm i = some d → d.block = some b → lookB i (enumB bs' 0) ≠ .none → r ∉ rs → lookB r sto ≠ .none → κ.nm r = some d' → d'.block ≠ some b := by
    intro r i b0 d d' b hb0 hbn hd hdb hl hr hrl hd' hdb'
    obtain ⟨q1, q2⟩ := hout r d' b hrl hr hd' hdb'
    rcases hS'.mine i d b hl hd hdb with h | h
    ·exact absurd q1 (Nat.not_lt.2 h)
    ·exact q2 h
   rcases hσ' r with ⟨i, b1, hb1, hgi, e⟩ | e | ⟨hr, hni, e⟩
   ·have h1' : b1.ren (fun r => some (g r)) ≠ .none := by
     intro h0; exact h1 (e.trans h0)
    obtain ⟨p1, p2⟩ := cal r i b1 d hb1 hgi h1' hd
    rcases hσ' r' with ⟨j, b2, hb2, hgj, e'⟩ | e' | ⟨hr', hni', e'⟩
    ·have h2' : b2.ren (fun r => some (g r)) ≠ .none := by
      intro h0; exact h2 (e'.trans h0)
     obtain ⟨p3, p4⟩ := cal r' j b2 d' hb2 hgj h2' hd'
     exact hS'.apart i j d d' b p1 p3 (fun hij => hrr (by rw [← hgi, ← hgj, hij])) p2 p4 hb
    ·exact absurd e' h2
    ·have h2' : lookB r' sto ≠ .none := by intro h0; exact h2 (e'.trans h0)
     exact mix r' i b1 d d' b hb1 h1' p2 hb p1 hr' h2' (own r' d' hr' h2' hd')
   ·exact absurd e h1
   ·have h1' : lookB r sto ≠ .none := by intro h0; exact h1 (e.trans h0)
    have hd0 := own r d hr h1' hd
    rcases hσ' r' with ⟨j, b2, hb2, hgj, e'⟩ | e' | ⟨hr', hni', e'⟩
    ·have h2' : b2.ren (fun r => some (g r)) ≠ .none := by
      intro h0; exact h2 (e'.trans h0)
     obtain ⟨p3, p4⟩ := cal r' j b2 d' hb2 hgj h2' hd'
     intro hb'
     exact mix r j b2 d' d b hb2 h2' p4 hb' p3 hr h1' hd0 hb
    ·exact absurd e' h2
    ·have h2' : lookB r' sto ≠ .none := by intro h0; exact h2 (e'.trans h0)
     exact hS.apart r r' d d' b h1' h2' hrr hd0 (own r' d' hr' h2' hd') hb
  ·rcases hσ' r with ⟨i, b1, hb1, hgi, e⟩ | e | ⟨hr, hni, e⟩
   ·have h1' : b1.ren (fun r => some (g r)) ≠ .none := by
     intro h0; exact h1 (e.trans h0)
    refine hm1 b (hS'.mine i d b (hlive' i b1 hb1 h1') (by rw [← hnm' i, hgi]; exact hd) hb)
   ·exact absurd e h1
   ·have h1' : lookB r sto ≠ .none := by intro h0; exact h1 (e.trans h0)
    obtain ⟨d', hd'⟩ := (hS.blk r).named h1'
    have := hext.nm r d' hd'
    rw [this] at hd; cases hd
    exact .inr ⟨r, d, h1', hd', hb⟩
  ·refine ⟨hS'.glob.1, fun g' hg' => ?_⟩
   obtain ⟨h1, h2, cs, T, fz, h3, h4⟩ := hS.glob.2 g' hg'
   exact ⟨h1, h2, cs, T, fz, (hL.block g' h1 fun h => h2 (hl1 g' h)).trans h3, h4⟩
 ·show (if r < next then κ.nm r else κ1'.nm (k + (r - next))) = none
  rw [if_neg (by omega)]
  exact hf' _ (by omega)
def lentOk (k : Nat) (rs : List Nat) (bs bs' : List Blk) (next : Nat) : Bool :=
 decide (k ≤ bs.length) && decide (k ≤ bs'.length) && (bs.take k).all (fun b => match b with | .none => false | _ => true) && rs.all (fun r => decide (r < next)) && decide rs.Nodup
theorem ACall.lentK {k f : Nat} {args0 : List AV} {bs : List Blk} {v : AV} {bs' : List Blk} (h : Lent P G k f args0 bs v bs') (rs : List Nat) {args : List AV} {env : List (Nat × AV)} {sto : List (Nat × Blk)} {next : Nat} {K : AV → St → Prop}
  (hok : lentOk k rs bs bs' next = true) (hargs : AVzL args (AV.renL (gSo next rs) args0)) (hbs : LentAt sto (gSo next rs) rs bs)
  (hK : K (v.ren (gSo next (rs.take k))) ⟨env, outB (gSo next (rs.take k)) bs' 0 (gIn next (rs.take k)) ++ (noneB (rs.drop k) ++ sto), next + (bs'.length - k)⟩) : ACall P G f args ⟨env, sto, next⟩ K := by
 simp only [lentOk, Bool.and_eq_true, decide_eq_true_eq, List.all_eq_true] at hok
 obtain ⟨⟨⟨⟨h1, h2⟩, h3⟩, h4⟩, h5⟩ := hok
 refine ACall.lent (h.frame hargs hbs h5 h4 h1 h2 (fun b hb e => ?_)) ?_
 ·have := h3 b hb
  subst e; cases this
 ·rintro v' sto' next' ⟨rfl, rfl, rfl⟩
  exact hK
theorem ACall.weak {f : Nat} {args args' : List AV} {s s' : St} {K : AV → St → Prop} (hw : WkC s args s' args') (h : ACall P G f args' s' K) : ACall P G f args s K := by
 obtain ⟨s2, args2, hw2, h2⟩ := h
 refine ⟨s2, args2, ⟨hw2.1.trans hw.1, hw2.2.1.trans hw.2.1, fun c κ0 κ N a w vals hR hv => ?_⟩, ?_⟩
 ·obtain ⟨κ1, h3, h4⟩ := hw.2.2 c κ0 κ N a w vals hR hv
  exact hw2.2.2 c κ0 κ1 N a w vals h3 h4
 ·rcases h2 with ⟨ps, r, k1, k2, k3⟩ | ⟨Q, k1, k2⟩
  ·exact .inl ⟨ps, r, k1, k2, k3⟩
  ·refine .inr ⟨Q, k1, fun v sto' next' hq => ?_⟩
   have := k2 v sto' next' hq
   rw [hw.2.1] at this
   exact this
end
end Go.Ab
set_option linter.unusedVariables false
namespace Go.Ab
open Go
theorem enumB_nil (k : Nat) : enumB [] k = [] := _root_.id rfl
theorem enumB_cons (b : Blk) (r : List Blk) (k : Nat) : enumB (b :: r) k = (k, b) :: enumB r (k + 1) := _root_.id rfl
theorem lentAt_nil (sto : List (Nat × Blk)) (f : Nat → Option Nat) : LentAt sto f [] [] = True := _root_.id rfl
theorem lentAt_cons (sto : List (Nat × Blk)) (f : Nat → Option Nat) (r : Nat) (rs : List Nat) (b : Blk) (bs : List Blk) : LentAt sto f (r :: rs) (b :: bs) = (BlkZ (lookB r sto) (b.ren f) ∧ LentAt sto f rs bs) := _root_.id rfl
theorem outB_nil (f : Nat → Option Nat) (i : Nat) (g : Nat → Nat) : outB f [] i g = [] := _root_.id rfl
theorem outB_cons (f : Nat → Option Nat) (b : Blk) (r : List Blk) (i : Nat) (g : Nat → Nat) : outB f (b :: r) i g = (g i, b.ren f) :: outB f r (i + 1) g := _root_.id rfl
theorem noneB_nil : noneB [] = [] := _root_.id rfl
theorem noneB_cons (r : Nat) (q : List Nat) : noneB (r :: q) = (r, .none) :: noneB q := _root_.id rfl
theorem gSo_eq (next : Nat) (rs : List Nat) (r : Nat) : gSo next rs r = some (gIn next rs r) := _root_.id rfl
theorem gIn_nil (next i : Nat) : gIn next [] i = next + i := _root_.id rfl
theorem gIn_0 (next r : Nat) (q : List Nat) : gIn next (r :: q) 0 = r := _root_.id rfl
theorem gIn_s (next r i : Nat) (q : List Nat) : gIn next (r :: q) (i + 1) = gIn next q i := _root_.id rfl
def elemsB (s sz off len : Nat) : Blk → Option (List PV)
 | .cells _ _ l => if s = 1 ∧ sz = 1 ∧ off + len ≤ l.length ∧ ((l.drop off).take len).all AV.one = true then pvs ((l.drop off).take len) else none
 | _ => none
theorem elemsOf_row (σ : Store) (sz r s off len : Nat) : elemsOf σ sz (.row r s off len) = elemsB s sz off len (σ r) := by
 simp only [elemsOf, elemsB]
 cases σ r <;> rfl
theorem all_one_int (k : IntKind) (l : List Int) : (l.map (PV.int k)).all PV.one = true := by
 rw [List.all_eq_true]; intro x hx; obtain ⟨n, _, rfl⟩ := List.mem_map.1 hx; rfl
theorem elemsB_pv {T : Nat} {f : Bool} {l : List PV} {n : Nat} (h : n ≤ l.length) (h1 : l.all PV.one = true) : elemsB 1 1 0 n (.cells T f (l.map .pv)) = some (l.take n) := by
 have h2 : (((l.map AV.pv).drop 0).take n) = (l.take n).map .pv := by rw [List.drop_zero, List.map_take]
 have h3 : ((l.take n).map AV.pv).all AV.one = true := by
  rw [List.all_eq_true] at h1 ⊢
  intro x hx
  obtain ⟨y, hy, rfl⟩ := List.mem_map.1 hx
  exact h1 y (List.mem_of_mem_take hy)
 have h4 : ∀ k : List PV, pvs (k.map .pv) = some k := by
  intro k
  induction k with
  | nil => rfl
  | cons a r ih => simp [pvs, AV.toPV, ih]
 simp only [elemsB]
 rw [if_pos (by refine ⟨trivial, trivial, by simp; omega, by rw [h2]; exact h3⟩), h2, h4]
theorem elemsB_int {T : Nat} {f : Bool} {k : IntKind} {p : List Int} {n : Nat} (h : n = p.length) : elemsB 1 1 0 n (.cells T f ((p.map (PV.int k)).map .pv)) = some (p.map (PV.int k)) := by
 rw [elemsB_pv (by simp; omega) (all_one_int k p), List.take_of_length_le (by simp; omega)]
theorem rSliceL_rowhi {sz r off n : Nat} {k : IntKind} {h : Int} (h0 : 0 ≤ h) (h1 : h ≤ n) (hs : 0 < sz) : rSliceL sz (.row r sz off n) none (some (.pv (.int k h))) = some (.row r sz off h.toNat) := by
 simp [rSliceL, rBound, h0, h1, hs]
theorem toNat_s1 (n : Nat) : ((n : Int) + 1).toNat = n + 1 := by omega
theorem add_sub1 (n : Int) : n + 1 - 1 = n := by omega
def revK : List Nat → List Nat → List Nat
 | [], a => a
 | x :: r, a => revK r (x :: a)
theorem revK_nil (a : List Nat) : revK [] a = a := _root_.id rfl
theorem revK_cons (x : Nat) (r a : List Nat) : revK (x :: r) a = revK r (x :: a) := _root_.id rfl
theorem revK_eq : ∀ (l a : List Nat), l.reverse ++ a = revK l a
 | [], a => rfl
 | x :: r, a => by rw [revK_cons, ← revK_eq r (x :: a)]; simp
theorem keysL_rev (l : List (Nat × Blk)) : keysL l.reverse = revK (keysL l) [] := by
 rw [← revK_eq, List.append_nil]; simp [keysL]
theorem rowT_two (ks rs : List Nat) : rowT 2 ks rs = (0 :: ks.map (· + 1), rs.map (· + 1)) := by simp [rowT]
theorem lent_z (A : List (Nat × Nat × Nat × Nat)) {k : Nat} {v v' : AV} {bs' : List Blk} {sto' : List (Nat × Blk)} {next' : Nat} (h : StZ (normA A k [0] ⟨[(0, v')], sto', next'⟩) ⟨[(0, v)], enumB bs' 0, bs'.length⟩) : lentR k v bs' v' sto' next' := Wk.head h
theorem ACall.nilB (r o e sz : Nat) {P : Program} {G : Nat → List PV} {f : Nat} {args : List AV} {s : St} {K : AV → St → Prop} (he : (accB r o e sz s (lookB r s.sto)).env = s.env) (h : ACall P G f args (accB r o e sz s (lookB r s.sto)) K) : ACall P G f args s K :=
 ACall.weak (WkC.of (wx_accB r o e sz s) he args) h
end Go.Ab
set_option linter.unusedVariables false
set_option linter.unusedSimpArgs false
namespace Go.Ab
open Go Go.RowKit
section
variable {P : Program} {G : Nat → List PV}
theorem AsgK_norm (F : St → Prop) (s : St) : AsgK F .norm s = F s := _root_.id rfl
theorem bodyK_eq (b : ACode) (Q : AExit → St → Prop) (e : List (Nat × AV)) (σ : List (Nat × Blk)) (n : Nat) : bodyK (fun m => vc P G m b) Q ⟨e, σ, n⟩ = vc P G n b Q ⟨e, σ, n⟩ := _root_.id rfl
theorem putL_nil (e : List (Nat × AV)) : putL [] [] e = e := _root_.id rfl
theorem putL_cons (p : Nat) (ps : List Nat) (x : PV) (xs : List PV) (e : List (Nat × AV)) : putL (p :: ps) (x :: xs) e = putL ps xs ((p, .pv x) :: e) := _root_.id rfl
def RngA {ι : Type} (A : List (Nat × Nat × Nat × Nat)) (S : ι → St) (Inv : Nat → ι → Prop) (i m0 : Nat) (keep : List Nat) (Q : AExit → St → Prop) (e0 : List (Nat × AV)) : AExit → St → Prop
 | .norm, s' => ∃ x', Hd A m0 keep ⟨e0, s'.sto, s'.next⟩ (S x') ∧ Inv (i + 1) x'
 | .exit j, s' => Q (.exit j) ⟨e0, s'.sto, s'.next⟩
 | .ret, s' => Q .ret ⟨e0, s'.sto, s'.next⟩
theorem RngA_norm {ι : Type} (A : List (Nat × Nat × Nat × Nat)) (S : ι → St) (Inv : Nat → ι → Prop) (i m0 : Nat) (keep : List Nat) (Q : AExit → St → Prop) (e0 e : List (Nat × AV)) (σ : List (Nat × Blk)) (n : Nat) : RngA A S Inv i m0 keep Q e0 .norm ⟨e, σ, n⟩ = ∃ x', Hd A m0 keep ⟨e0, σ, n⟩ (S x') ∧ Inv (i + 1) x' := _root_.id rfl
theorem RngA_exit {ι : Type} (A : List (Nat × Nat × Nat × Nat)) (S : ι → St) (Inv : Nat → ι → Prop) (i m0 : Nat) (keep : List Nat) (Q : AExit → St → Prop) (e0 : List (Nat × AV)) (j : Nat) (e : List (Nat × AV)) (σ : List (Nat × Blk)) (n : Nat) : RngA A S Inv i m0 keep Q e0 (.exit j) ⟨e, σ, n⟩ = Q (.exit j) ⟨e0, σ, n⟩ := _root_.id rfl
theorem RngA_ret {ι : Type} (A : List (Nat × Nat × Nat × Nat)) (S : ι → St) (Inv : Nat → ι → Prop) (i m0 : Nat) (keep : List Nat) (Q : AExit → St → Prop) (e0 e : List (Nat × AV)) (σ : List (Nat × Blk)) (n : Nat) : RngA A S Inv i m0 keep Q e0 .ret ⟨e, σ, n⟩ = Q .ret ⟨e0, σ, n⟩ := _root_.id rfl
theorem hasPv : ∀ (lb : List PV), pvs (lb.map AV.pv) = some lb
 | [] => rfl
 | p :: r => by simp [pvs, AV.toPV, hasPv r]
theorem vc_rng {ι : Type} (A : List (Nat × Nat × Nat × Nat)) (ch : ι → List (Nat × AV)) (chB : ι → List (Nat × Blk)) (Inv : Nat → ι → Prop) (x0 : ι) {gf : Nat} {lb : List PV} {xs : List (List PV)} (hs : SeqA P G gf lb xs)
  {m0 : Nat} {f : AX} {ps keep : List Nat} {a b : ACode} {Q : AExit → St → Prop} {s : St}
  (h : ∀ e0 σ0 n0, normA A m0 keep s = ⟨e0, σ0, n0⟩ → StZ ⟨e0, σ0, n0⟩ ⟨overE e0 (ch x0), overB σ0 (chB x0), n0⟩ ∧ Inv 0 x0 ∧ cloOf (f.ev (fun i => look i (overE e0 (ch x0)))) = some (gf, [], lb.map AV.pv) ∧
   (∀ i x y, xs[i]? = some y → Inv i x → y.length = ps.length ∧ vc P G n0 a (AsgK (bodyK (fun m => vc P G m b) (RngA A (fun x => ⟨overE e0 (ch x), overB σ0 (chB x), n0⟩) Inv i m0 keep Q (overE e0 (ch x))))) ⟨putL ps y (overE e0 (ch x)), overB σ0 (chB x), n0⟩) ∧
   ∀ x, Inv xs.length x → Q .norm ⟨overE e0 (ch x), overB σ0 (chB x), n0⟩) : vc P G m0 (.range f ps keep a b) Q s := by
 obtain ⟨h1, h2, h3, h4, h5⟩ := h (normA A m0 keep s).env (normA A m0 keep s).sto (normA A m0 keep s).next rfl
 let S : ι → St := fun x => ⟨overE (normA A m0 keep s).env (ch x), overB (normA A m0 keep s).sto (chB x), (normA A m0 keep s).next⟩
 refine ⟨fun i t => ∃ x, t = S x ∧ Inv i x, S x0, hd_z h1, ⟨x0, rfl, h2⟩, ?_⟩
 have e : cloOf (f.ev (S x0).E) = some (gf, [], lb.map AV.pv) := h3
 rw [e]
 refine ⟨rfl, lb, xs, hasPv lb, hs, ?_, ?_⟩
 ·rintro i y t hy ⟨x, rfl, hx⟩
  obtain ⟨k1, k2⟩ := h4 i x y hy hx
  refine ⟨k1, vc_mono a (fun e s hs => ?_) _ k2⟩
  cases e with
  | norm =>
    refine vc_mono b (fun e s hs => ?_) s hs
    cases e with
    | norm =>
      obtain ⟨x', q1, q2⟩ := hs
      exact ⟨S x', q1, x', rfl, q2⟩
    | exit j => exact hs
    | ret => exact hs
  | exit j => exact hs.elim
  | ret => exact hs.elim
 ·rintro t ⟨x, rfl, hx⟩
  exact h5 x hx
end
end Go.Ab
namespace Go.Ab
open Go
attribute [push_cast] wrap_i64 wrap_i32 wrap_u8 wrap_u64 wrap_u32 dlt_t dlt_f dle_t dle_f deq_t deq_f look_cons
 look_nil lookB_cons lookB_nil evE_t evE_c evE_m mClo_iface mCloO_some lookT_cons evO_some evO_none evL_nil evL_cons evP_nil evP_cons tRun_mv
 tRun_pick tRun_build tRun_faddr tRun_field tRun_iaddr tRun_iaddrA tRun_index tRun_indexA tRun_len tRun_lenC tRun_imin tRun_imax
 tRun_sliceL tRun_sliceS tRun_bin tRun_beq rBeqM_t rBeqM_f tRun_neg tRun_not tRun_compl tRun_conv tRun_beqS rBeqS_agg
 eqPs_nil eqPs_bool eqPs_int eqPs_str andO_some tRun_convIS rConvIS_int tRun_convS tRun_clo tRun_ext tRun_nilck rPick_t
 rPick_f rFaddr_ptr rFaddr_eptr rFaddr_gptr rField_pv rField_av partA_t partA_f rElem_nat rElem_succ rIaddr_list rIaddr_olist
 rIaddr_row rLen_str rLen_list rLen_nils rLen_olist rLen_row rBound_some rBound_none cut2_some bnd2_some rSliceS_str rBin_add
 rBin_sub rBin_mul rBin_quo rBin_rem rBin_and rBin_or rBin_xor rBin_andNot rBin_eql rBin_neq rBin_lss rBin_leq
 rBin_gtr rBin_geq rBinS_add rBinS_eql rBinS_neq rBinS_lss rBinS_leq rBinS_gtr rBinS_geq rBeq_bool rBeq_ptr rBeq_eptr
 rBeq_nilp rBeq_cons rBeq_ocons rBeq_row rBeq_nils rNeg_int rNot_bool rConv_int rConvS_str rNil_ptr rNil_eptr rNil_gptr
 rNil_pclo rNil_clo rExt_pv rExt_av omap_some map_pv_nil map_pv_cons get0 getS pvs_nil pvs2_some pvs2_none
 pvs2_none' pvs_cons toPV_pv toPV_olist toPV_ptr toPV_row toPV_agg toPV_tup toPV_clo mkAgg_o mkAggO_some mkAggO_none
 mkTup_o mkTupO_some mkTupO_none mkClo_o mkCloO_some mkCloO_none mkCloO_none' cellsA_pv cellsA_agg cellsA_tup cellsA_ptr cellsA_row
 cellsA_olist cellsA_clo cells_agg cells_bool cells_int cells_str cells_nils cells_list cells_nilp cells_nilf cells_clo cells_eptr
 cells_gptr loadB_cells loadO_some rLoad_ptr rLoad_eptr rLoad_gptr loadE_f loadE_t withD_some withV_some mRun_alloc boxD_t
 mRun_box cboxO_some mRun_cbox known_pv known_agg known_tup known_ptr known_row known_olist known_clo mRun_load mRun_store
 rClear_row mRun_clear mRun_bslice mRun_append mRun_mk rMk_nil rStore_ptr storeB_cells storeC_t room_ok updB_nil updB_cons
 cloOf_pv cloOf_av onSomeI nextT_eq nextT_no nextM_eq nextM_no nextC_eq nextC_no callC_eq vcOps_nil vcOps_cons
 wantedV_t wantedV_f wantedV_u vcOps_guard doIf_true doIf_false doIf_false' onSomeE_some onSomeE_none nilE_nil rBeq_nil doOp_t
 doOp_m doOp_call stepT_eq stepT_no stepM_eq stepM_no rowT_0 rowT_1 rowT_2 makesN_load makesN_store makesN_toStr
 makesN_clear makesN_sliceA makesN_alloc makesN_box makesN_cbox makesN_bslice makesN_append makesN_mk vcD_nil vcD_cons vcD_guard doIfD_true
 doIfD_false doIfD_false' doOpD_t mReads_mk mReads_toStr mReads_clear mReads_load mReads_box mReads_cbox mReads_alloc mReads_store mReads_append
 mReads_bslice name_pv name_ptr name_row name_olist keysL_nil keysL_cons doOpD_m doOpD_call clipE_nil clipE_cons clean_nil
 clean_cons consB_t consB_f memN_nil memN_c normK_eq SeqK_norm SeqK_exit SeqK_ret BlockK_norm BlockK_exit BlockK_ret
 vc_skip vc_ops vc_draw doOp_fz vc_seq vc_cond vc_block vc_exit vc_ret onBool_b ifB_t ifB_f
 resE_tmp resE_cell FnK_norm FnK_ret retK_eq retV_1 retV_0 retV_2 cons2_some resVs_nil resVs_cons pureR_eq
 isR_pv isR_olist isRF_some isR_agg isR_row initE_nil initE_cons initEnv_eq RoundA_norm RoundA_exit RoundA_ret pickE_nil
 pickE_cons overE_nil overE_cons pickB_nil pickB_cons overB_nil overB_cons nz_self nz_nils nz_agg nz_tup nz_bool
 nz_int nz_str nzL_nil nzL_cons rMin_min rMax_max toNat_minN toNat_minN' take_minL take_minR map_take map_drop
 omap_none rAppend_eq app_ol appOl_ok app_nil0 app_nil1 app_row appRw_ok appRw_zero elems_nils elems_list elemsChk_t
 elems_olist bsl_f bslD_t bslC_some bslC_none bsl_t0 one_bool one_int one_str one_nils one_list oneA_pv
 oneA_ptr oneA_row oneA_olist oneA_clo rSliceL_list rSliceL_olist onCutH_some onCut_zero onCut_some onElem_ite all_mapF all_tt
 beq_nn loadI_t loadE_t0 isAgg_agg fRun_n fRun_l fzO_some frzV_agg frzV_pv frzV_ol frzV_row frzC_pv
 frzC_ol frzC_row frzL_nil frzL_cons frz2_some frzD_eq names_pv names_ptr names_row names_ol names_agg names_tup
 names_clo names_any namesL_nil namesL_cons namesL_pv namesL_flat namesB_cells namesB_tok namesB_none addN_nil addN_cons addN1_t
 addN1_f geN_nil geN_cons blkNames_nil blkNames_cons reach_0 reach_s envNames_nil envNames_cons rng_0 rng_s normE_nil
 normE_cons norm_eq normO_c normO_n renSto_nil renSto_cons newName_eq idxN_nil idxN_cons ren_pv ren_any ren_ptr
 ren_row ren_ol ren_agg ren_tup ren_clo renP_some renR_some renO_some renL_nil renL_cons renL_pv renL_flat
 renB_cells renB_tok renB_none normA_eq accs_nil accs_slot accs_cell accC_nils accC_row nilAV_l nilAV_r nilBlk_l
 nilBlk_r accC_ol accP_ptr accB_cells accD_nils accD_row accD_ol set0 setS st_eq dNlt_t dNlt_f
 dNle_t dNle_f dNeq_t dNeq_f fillC_t fillA_nil fillA_cons partT_eq RoundX_norm RoundX_exit RoundX_ret avz_self
 avz_pv avz_list avzL_nil avzL_cons envz_nil envz_cons blkz_self blkz_t blkz_f blkz_n avzP_nil avzP_cons
 avzP_self avzP_app avzL_self stoz_nil stoz_cons stz_eq enumB_nil enumB_cons lentAt_nil lentAt_cons outB_nil outB_cons
 noneB_nil noneB_cons gSo_eq gIn_nil gIn_0 gIn_s elemsOf_row all_one_int elemsB_int rSliceL_rowhi toNat_s1 add_sub1
 revK_nil revK_cons keysL_rev rowT_two Nat.zero_add Nat.add_zero List.length_cons List.length_nil List.nil_append List.cons_append List.append_nil List.append_assoc
 List.getElem?_map List.length_map List.map_nil List.map_cons List.take_succ_cons List.take_zero List.drop_succ_cons List.drop_zero List.take_nil List.drop_nil List.all_cons List.all_nil
 Bool.and_true Bool.true_and Bool.and_false Bool.false_and Bool.not_true Bool.not_false decide_true decide_false Bool.not_not Int.natCast_add Int.cast_ofNat_Int Int.toNat_natCast
 Option.some.injEq and_true true_and ge_iff_le Nat.le_refl Nat.zero_le Nat.not_lt_zero and_self
attribute [push_cast] AsgK_norm bodyK_eq putL_nil putL_cons RngA_norm RngA_exit RngA_ret
attribute [push_cast high] Int.cast_ofNat_Int
end Go.Ab
set_option linter.unusedVariables false
set_option linter.unusedSimpArgs false
namespace Go.Ab
open Go Go.RowKit
abbrev CallX := Nat → List AV → List (Nat × Blk) → Nat → Option (AV × List (Nat × Blk) × Nat)
def exOp (call : CallX) (G : Nat → List PV) (s : St) (d : Option Nat) : AOp → Option St
 | .t o => match o.run s.E with
   | some v => some (s.put d v)
   | none => none
 | .m o => match o.run G s.next s.E s.σ with
   | some p => some ((s.mem p.2).put d p.1)
   | none => none
 | .call f xs => match cloOf (f.ev s.E) with
   | some p => match call p.1 (p.2.1 ++ xs.map (·.ev s.E) ++ p.2.2) s.sto s.next with
     | some r => some ((⟨s.env, r.2.1, r.2.2⟩ : St).put d r.1)
     | none => none
   | none => none
 | .fz g x => match fRun G s.σ g (x.ev s.E) with
   | some p => some ((s.mem p.2).put d p.1)
   | none => none
def exOps (call : CallX) (G : Nat → List PV) : List AOper → St → Option St
 | [], s => some s
 | o :: r, s => match wantedA s o.guard with
   | some true => match exOp call G s o.dst o.op with
     | some s' => exOps call G r s'
     | none => none
   | some false => exOps call G r (s.put o.dst (.pv .undef))
   | none => none
def pcall (call : CallX) (f : Nat) (ps : List PV) : Option PV :=
 match call f (ps.map .pv) [] 0 with
 | some r => r.1.toPV
 | none => none
def exCallD (call : CallX) (s : St) (d : Option Nat) (f : Nat) (args : List AV) : Option (St × List Nat × List Nat) :=
 match pvs args with
 | some ps => match pcall call f ps with
   | some r => some (s.put d (.pv r), [], [])
   | none => none
 | none => match call f args s.sto s.next with
   | some r => some ((⟨s.env, r.2.1, r.2.2⟩ : St).put d r.1, rowT 2 (keysL (r.2.1.take (r.2.1.length - s.sto.length)).reverse) (s.sto.map (·.1)))
   | none => none
def exOpD (call : CallX) (G : Nat → List PV) (s : St) (d : Option Nat) : AOp → Option (St × List Nat × List Nat)
 | .t o => match o.run s.E with
   | some v => some (s.put d v, [], [])
   | none => none
 | .m o => match o.run G s.next s.E s.σ with
   | some p => some ((s.mem p.2).put d p.1, rowT (makesN o) (keysL p.2) (o.reads s.E))
   | none => none
 | .call f xs => match cloOf (f.ev s.E) with
   | some p => exCallD call s d p.1 (p.2.1 ++ xs.map (·.ev s.E) ++ p.2.2)
   | none => none
 | .fz _ _ => none
def exD (call : CallX) (G : Nat → List PV) (A : List (List Nat)) : List AOper → List (List Nat × List Nat) → St → Option St
 | [], T, s => match okB A T with
   | true => some s
   | false => none
 | o :: r, T, s => match wantedA s o.guard with
   | some true => match exOpD call G s o.dst o.op with
     | some q => exD call G A r (T ++ [q.2]) q.1
     | none => none
   | some false => exD call G A r (T ++ [([], [])]) (s.put o.dst (.pv .undef))
   | none => none
def exC (call : CallX) (G : Nat → List PV) : Nat → ACode → St → Option (AExit × St)
 | 0, _, _ => none
 | _ + 1, .skip, s => some (.norm, s)
 | _ + 1, .ops l keep, s => match exOps call G l s with
   | some s' => some (.norm, clip0 keep s')
   | none => none
 | _ + 1, .draw A l l2 keep, s => match exD call G A l [] s with
   | some s1 => match exOps call G l2 s1 with
     | some s' => some (.norm, clip0 keep s')
     | none => none
   | none => none
 | n + 1, .seq a b, s => match exC call G n a s with
   | some (.norm, s') => exC call G n b s'
   | some (.exit i, s') => some (.exit i, s')
   | some (.ret, s') => some (.ret, s')
   | none => none
 | n + 1, .cond x a b, s => match x.ev s.E with
   | .pv (.bool true) => exC call G n a s
   | .pv (.bool false) => exC call G n b s
   | _ => none
 | n + 1, .block id b, s => match exC call G n b s with
   | some (.norm, s') => some (.norm, s')
   | some (.exit i, s') => if i = id then some (.norm, s') else some (.exit i, s')
   | some (.ret, s') => some (.ret, s')
   | none => none
 | n + 1, .loop keep b, s => match exC call G n b s with
   | some (.norm, s') => exC call G n (.loop keep b) s'
   | some (.exit i, s') => some (.exit i, s')
   | some (.ret, s') => some (.ret, s')
   | none => none
 | _ + 1, .range _ _ _ _ _, _ => none
 | _ + 1, .exit id, s => some (.exit id, s)
 | _ + 1, .ret, s => some (.ret, s)
structure TabRow where
 f : Nat
 muts : List Nat
 fn : AFn
def lookF (f : Nat) : List TabRow → Option AFn
 | [] => none
 | r :: q => if r.f = f then some r.fn else lookF f q
def outOf (G : Nat → List PV) (fn : AFn) (s : St) : Option (AV × List (Nat × Blk) × Nat) :=
 match resVs G s fn.res with
 | some l => some (retV l, s.sto, s.next)
 | none => none
def exF (tab : List TabRow) (O : Nat → List PV → Option PV) (G : Nat → List PV) (m : Nat) : Nat → CallX
 | 0, _, _, _, _ => none
 | n + 1, f, args, sto, next => match (pvs args).bind (O f) with
   | some r => some (.pv r, sto, next)
   | none => match lookF f tab with
     | some fn => if args.length ≤ fn.N then match exC (exF tab O G m n) G m fn.body ⟨initEnv args, sto, next⟩ with
       | some (.norm, s) => outOf G fn s
       | some (.ret, s) => outOf G fn s
       | _ => none
       else none
     | none => none
section
variable {P : Program} {G : Nat → List PV}
def Grows (sto : List (Nat × Blk)) (next : Nat) (sto' : List (Nat × Blk)) (next' : Nat) : Prop := (∃ pre, sto' = pre ++ sto) ∧ next ≤ next'
theorem Grows.refl (sto : List (Nat × Blk)) (next : Nat) : Grows sto next sto next := ⟨⟨[], rfl⟩, Nat.le_refl _⟩
theorem Grows.trans {a b c : List (Nat × Blk)} {i j k : Nat} (h : Grows a i b j) (g : Grows b j c k) : Grows a i c k := by
 obtain ⟨⟨p, rfl⟩, h2⟩ := h
 obtain ⟨⟨q, rfl⟩, g2⟩ := g
 exact ⟨⟨q ++ p, by simp⟩, Nat.le_trans h2 g2⟩
theorem updB_eq : ∀ (δ l : List (Nat × Blk)), updB l δ = δ.reverse ++ l
 | [], l => rfl
 | p :: r, l => by rw [updB, updB_eq r]; simp
theorem Grows.put {s : St} {sto' : List (Nat × Blk)} {n : Nat} {e : List (Nat × AV)} (h : Grows s.sto s.next sto' n) (d : Option Nat) (v : AV) : Grows s.sto s.next ((⟨e, sto', n⟩ : St).put d v).sto ((⟨e, sto', n⟩ : St).put d v).next := by
 cases d <;> exact h
theorem Grows.mem (s : St) (δ : List (Nat × Blk)) (d : Option Nat) (v : AV) : Grows s.sto s.next ((s.mem δ).put d v).sto ((s.mem δ).put d v).next := by
 have : Grows s.sto s.next (updB s.sto δ) (s.next + 1) := ⟨⟨δ.reverse, updB_eq δ s.sto⟩, Nat.le_succ _⟩
 cases d <;> exact this
theorem Grows.put0 (s : St) (d : Option Nat) (v : AV) : Grows s.sto s.next (s.put d v).sto (s.put d v).next := by
 cases d <;> exact Grows.refl _ _
def CallOk (P : Program) (G : Nat → List PV) (call : CallX) : Prop :=
 ∀ f args sto next v sto' next', call f args sto next = some (v, sto', next') → Grows sto next sto' next' ∧ (
   (∃ ps r, pvs args = some ps ∧ Pure P G f ps r ∧ v = .pv r ∧ sto' = sto ∧ next' = next) ∨ TCalls P G f args sto next (fun v' s' n' => v' = v ∧ s' = sto' ∧ n' = next'))
theorem TCalls.mono {f : Nat} {args : List AV} {sto : List (Nat × Blk)} {next : Nat} {Q Q' : AV → List (Nat × Blk) → Nat → Prop} (h : TCalls P G f args sto next Q) (hq : ∀ v s n, Q v s n → Q' v s n) : TCalls P G f args sto next Q' := by
 obtain ⟨h1, h2⟩ := h
 refine ⟨h1, fun κ vals a1 a2 a3 a4 => (h2 κ vals a1 a2 a3 a4).mono ?_⟩
 rintro e w' ⟨u, v, κ', sto', next', b1, b2, b3, b4, b5, b6, b7, b8⟩
 exact ⟨u, v, κ', sto', next', b1, b2, b3, b4, b5, b6, b7, hq _ _ _ b8⟩
theorem pcall_ok {call : CallX} (hc : CallOk P G call) {f : Nat} {ps : List PV} {r : PV} (h : pcall call f ps = some r) : Pure P G f ps r := by
 unfold pcall at h
 split at h
 ·rename_i q hq
  obtain ⟨v, sto', next'⟩ := q
  rcases (hc f _ _ _ v sto' next' hq).2 with ⟨ps', r', h1, h2, rfl, _, _⟩ | ht
  ·rw [pvs_map] at h1
   cases h1
   simp only [AV.toPV, Option.some.injEq] at h
   subst h; exact h2
  ·exact Pure.of_tcalls (ht.mono (by rintro v' _ _ ⟨rfl, _, _⟩; exact isR_of h))
 ·cases h
theorem exOp_ok {call : CallX} (hc : CallOk P G call) {s s' : St} {d : Option Nat} {o : AOp} {F : St → Prop} (h : exOp call G s d o = some s') (hF : F s') : doOp P G F s d o := by
 cases o with
 | t o =>
   simp only [exOp] at h
   split at h
   ·rename_i v hv
    cases h
    simp only [doOp, hv, onSomeN]; exact hF
   ·cases h
 | m o =>
   simp only [exOp] at h
   split at h
   ·rename_i v hv
    cases h
    simp only [doOp, hv, onSome]; exact hF
   ·cases h
 | fz g x =>
   simp only [exOp] at h
   split at h
   ·rename_i v hv
    cases h
    simp only [doOp, hv, onSome]; exact hF
   ·cases h
 | call f xs =>
   simp only [exOp] at h
   split at h
   ·rename_i p hp
    split at h
    ·rename_i r hr
     cases h
     obtain ⟨v, sto', next'⟩ := r
     simp only [doOp, hp, onSome, callC]
     rcases (hc _ _ _ _ v sto' next' hr).2 with ⟨ps, r, h1, h2, rfl, rfl, rfl⟩ | ht
     ·exact ACall.pure h2 h1 hF
     ·exact ACall.lent ht (by rintro v' s' n' ⟨rfl, rfl, rfl⟩; exact hF)
    ·cases h
   ·cases h
theorem exOps_ok {call : CallX} (hc : CallOk P G call) {F : St → Prop} : ∀ (l : List AOper) (s s' : St), exOps call G l s = some s' → F s' → vcOps P G l F s
 | [], s, s', h, hF => by simp only [exOps, Option.some.injEq] at h; subst h; exact hF
 | o :: r, s, s', h, hF => by
   simp only [exOps] at h
   simp only [vcOps]
   split at h
   ·rename_i hw
    rw [hw]
    split at h
    ·rename_i s1 h1
     exact exOp_ok hc h1 (exOps_ok hc r s1 s' h hF)
    ·cases h
   ·rename_i hw
    rw [hw]
    exact exOps_ok hc r _ s' h hF
   ·cases h
theorem exD_ok {call : CallX} (hc : CallOk P G call) {A : List (List Nat)} {F : St → Prop} : ∀ (l : List AOper) (T : List (List Nat × List Nat)) (s s' : St), exD call G A l T s = some s' → F s' → vcD P G A F l T s
 | [], T, s, s', h, hF => by
   simp only [exD] at h
   split at h
   ·rename_i ho
    cases h
    exact ⟨ho, hF⟩
   ·cases h
 | o :: r, T, s, s', h, hF => by
   simp only [exD] at h
   simp only [vcD]
   split at h
   ·rename_i hw
    rw [hw]
    simp only [onSome, doIfD]
    split at h
    ·rename_i q h1
     obtain ⟨d, op, g⟩ := o
     simp only at h1 ⊢
     cases op with
     | t o =>
       simp only [exOpD] at h1
       split at h1
       ·rename_i v hv
        cases h1
        simp only [doOpD, hv, onSome, stepT]
        exact exD_ok hc r _ _ s' h hF
       ·cases h1
     | m o =>
       simp only [exOpD] at h1
       split at h1
       ·rename_i v hv
        cases h1
        simp only [doOpD, hv, onSome, stepM]
        exact exD_ok hc r _ _ s' h hF
       ·cases h1
     | fz g x => simp [exOpD] at h1
     | call f xs =>
       simp only [exOpD] at h1
       split at h1
       ·rename_i p hp
        simp only [doOpD, hp, onSome]
        unfold exCallD at h1
        split at h1
        ·rename_i ps hps
         split at h1
         ·rename_i v hv
          cases h1
          exact .inl ⟨ps, v, hps, pcall_ok hc hv, exD_ok hc r _ _ s' h hF⟩
         ·cases h1
        ·rename_i hps
         split at h1
         ·rename_i v hv
          cases h1
          obtain ⟨v, sto', next'⟩ := v
          obtain ⟨⟨⟨pre, hpre⟩, hle⟩, ⟨ps', r', k1, _⟩ | ht⟩ := hc _ _ _ _ v sto' next' hv
          ·rw [hps] at k1; cases k1
          ·have e1 : updB s.sto (sto'.take (sto'.length - s.sto.length)).reverse = sto' := by
            rw [updB_eq, List.reverse_reverse, hpre]
            simp
           refine .inr ⟨v, (sto'.take (sto'.length - s.sto.length)).reverse, next', ?_, hle, ?_⟩
           ·rw [e1]; exact ht
           ·rw [e1]; exact exD_ok hc r _ _ s' h hF
         ·cases h1
       ·cases h1
    ·cases h
   ·rename_i hw
    rw [hw]
    exact exD_ok hc r _ _ s' h hF
   ·cases h
theorem exOp_grows {call : CallX} (hc : CallOk P G call) {s s' : St} {d : Option Nat} {o : AOp} (h : exOp call G s d o = some s') : Grows s.sto s.next s'.sto s'.next := by
 cases o with
 | t o =>
   simp only [exOp] at h
   split at h
   ·cases h; exact Grows.put0 _ _ _
   ·cases h
 | m o =>
   simp only [exOp] at h
   split at h
   ·cases h; exact Grows.mem _ _ _ _
   ·cases h
 | fz g x =>
   simp only [exOp] at h
   split at h
   ·cases h; exact Grows.mem _ _ _ _
   ·cases h
 | call f xs =>
   simp only [exOp] at h
   split at h
   ·split at h
    ·rename_i r hr
     cases h
     obtain ⟨v, sto', next'⟩ := r
     exact Grows.put (hc _ _ _ _ v sto' next' hr).1 _ _
    ·cases h
   ·cases h
theorem exOps_grows {call : CallX} (hc : CallOk P G call) : ∀ (l : List AOper) (s s' : St), exOps call G l s = some s' → Grows s.sto s.next s'.sto s'.next
 | [], s, s', h => by simp only [exOps, Option.some.injEq] at h; subst h; exact Grows.refl _ _
 | o :: r, s, s', h => by
   simp only [exOps] at h
   split at h
   ·split at h
    ·rename_i s1 h1
     exact (exOp_grows hc h1).trans (exOps_grows hc r s1 s' h)
    ·cases h
   ·exact (Grows.put0 s _ _).trans (exOps_grows hc r _ s' h)
   ·cases h
theorem exOpD_grows {call : CallX} (hc : CallOk P G call) {s : St} {d : Option Nat} {o : AOp} {q : St × List Nat × List Nat} (h : exOpD call G s d o = some q) : Grows s.sto s.next q.1.sto q.1.next := by
 cases o with
 | t o =>
   simp only [exOpD] at h
   split at h
   ·cases h; exact Grows.put0 _ _ _
   ·cases h
 | m o =>
   simp only [exOpD] at h
   split at h
   ·cases h; exact Grows.mem _ _ _ _
   ·cases h
 | fz g x => simp [exOpD] at h
 | call f xs =>
   simp only [exOpD] at h
   split at h
   ·unfold exCallD at h
    split at h
    ·split at h
     ·cases h; exact Grows.put0 _ _ _
     ·cases h
    ·split at h
     ·rename_i r hr
      cases h
      obtain ⟨v, sto', next'⟩ := r
      exact Grows.put (hc _ _ _ _ v sto' next' hr).1 _ _
     ·cases h
   ·cases h
theorem exD_grows {call : CallX} (hc : CallOk P G call) {A : List (List Nat)} : ∀ (l : List AOper) (T : List (List Nat × List Nat)) (s s' : St), exD call G A l T s = some s' → Grows s.sto s.next s'.sto s'.next
 | [], T, s, s', h => by
   simp only [exD] at h
   split at h
   ·cases h; exact Grows.refl _ _
   ·cases h
 | o :: r, T, s, s', h => by
   simp only [exD] at h
   split at h
   ·split at h
    ·rename_i q h1
     exact (exOpD_grows hc h1).trans (exD_grows hc r _ _ s' h)
    ·cases h
   ·exact (Grows.put0 s _ _).trans (exD_grows hc r _ _ s' h)
   ·cases h
theorem exC_grows {call : CallX} (hc : CallOk P G call) : ∀ (n : Nat) (ac : ACode) (s : St) (e : AExit) (s' : St), exC call G n ac s = some (e, s') → Grows s.sto s.next s'.sto s'.next
 | 0, _, _, _, _, h => by simp [exC] at h
 | n + 1, ac, s, e, s', h => by
   have ih := exC_grows hc n
   cases ac with
   | skip => simp only [exC, Option.some.injEq, Prod.mk.injEq] at h; obtain ⟨_, rfl⟩ := h; exact Grows.refl _ _
   | exit i => simp only [exC, Option.some.injEq, Prod.mk.injEq] at h; obtain ⟨_, rfl⟩ := h; exact Grows.refl _ _
   | ret => simp only [exC, Option.some.injEq, Prod.mk.injEq] at h; obtain ⟨_, rfl⟩ := h; exact Grows.refl _ _
   | ops l k =>
     simp only [exC] at h
     split at h
     ·rename_i s1 h1; cases h; exact exOps_grows hc l s s1 h1
     ·cases h
   | draw A l l2 k =>
     simp only [exC] at h
     split at h
     ·rename_i s1 h1
      split at h
      ·rename_i s2 h2; cases h; exact (exD_grows hc l [] s s1 h1).trans (exOps_grows hc l2 s1 s2 h2)
      ·cases h
     ·cases h
   | seq a b =>
     simp only [exC] at h
     split at h
     ·rename_i s1 h1; exact (ih _ _ _ _ h1).trans (ih _ _ _ _ h)
     ·rename_i i s1 h1; cases h; exact ih _ _ _ _ h1
     ·rename_i s1 h1; cases h; exact ih _ _ _ _ h1
     ·cases h
   | cond x a b =>
     simp only [exC] at h
     split at h
     ·exact ih _ _ _ _ h
     ·exact ih _ _ _ _ h
     ·cases h
   | block id b =>
     simp only [exC] at h
     split at h
     ·rename_i s1 h1; cases h; exact ih _ _ _ _ h1
     ·rename_i i s1 h1
      split at h
      ·cases h; exact ih _ _ _ _ h1
      ·cases h; exact ih _ _ _ _ h1
     ·rename_i s1 h1; cases h; exact ih _ _ _ _ h1
     ·cases h
   | loop k b =>
     simp only [exC] at h
     split at h
     ·rename_i s1 h1; exact (ih _ _ _ _ h1).trans (ih _ _ _ _ h)
     ·rename_i i s1 h1; cases h; exact ih _ _ _ _ h1
     ·rename_i s1 h1; cases h; exact ih _ _ _ _ h1
     ·cases h
   | range f ps k a b => simp only [exC] at h; cases h
def exitK (e : AExit) (s' : St) : AExit → St → Prop := fun e1 s1 => e1 = e ∧ s1 = s'
theorem bad_ex {call : CallX} {G : Nat → List PV} {n : Nat} {s : St} {r : AExit × St} (h : exC call G (n + 1) (.ops [⟨none, badOp, none⟩] []) s = some r) : False := by
 simp [exC, exOps, wantedA, exOp, badOp, AX.ev, cloOf] at h
theorem exC_ok {call : CallX} (hc : CallOk P G call) {c : Ctx} {κ0 : Kap} {N : Nat} {muts rl : List Nat} (hG : c.G = G) : ∀ (n : Nat) (co : Code) (ac : ACode) (ex : List (Nat × List Nat)) (out li : List Nat) (s : St) (a : Act) (w : World) (κ : Kap) (e : AExit) (s' : St),
  cCode P muts N rl co ex out = some (ac, li) → exC call G n ac s = some (e, s') → Rel c κ0 N s a w κ → co.wpIn (FR none) 0 P (lift c κ0 N (exitK e s')) a w := by
 intro n
 induction n using Nat.strongRecOn with
 | _ n ih =>
 intro co ac ex out li s a w κ e s' hcc he hR
 cases n with
 | zero => simp [exC] at he
 | succ n =>
 cases co with
 | skip =>
   simp only [cCode, Option.some.injEq, Prod.mk.injEq] at hcc
   obtain ⟨rfl, _⟩ := hcc
   simp only [exC, Option.some.injEq, Prod.mk.injEq] at he
   obtain ⟨rfl, rfl⟩ := he
   exact wpIn_skip ⟨_, κ, hR, rfl, rfl⟩
 | exit id =>
   simp only [cCode, Option.some.injEq, Prod.mk.injEq] at hcc
   obtain ⟨rfl, _⟩ := hcc
   simp only [exC, Option.some.injEq, Prod.mk.injEq] at he
   obtain ⟨rfl, rfl⟩ := he
   exact wpIn_exit ⟨_, κ, hR, rfl, rfl⟩
 | ret =>
   simp only [cCode, Option.some.injEq, Prod.mk.injEq] at hcc
   obtain ⟨rfl, _⟩ := hcc
   simp only [exC, Option.some.injEq, Prod.mk.injEq] at he
   obtain ⟨rfl, rfl⟩ := he
   exact wpIn_ret ⟨_, κ, hR, rfl, rfl⟩
 | region id ops d =>
   simp only [cCode] at hcc
   split at hcc
   ·rename_i l hl
    cases d with
    | false =>
      simp only [Option.some.injEq, Prod.mk.injEq] at hcc
      obtain ⟨rfl, _⟩ := hcc
      simp only [exC] at he
      split at he
      ·rename_i s1 h1
       cases he
       exact wpIn_region_list (vcOps_sound (F := fun s => s = s1) (fun s a w κ hR hF => by subst hF; exact ⟨_, κ, hR.clip0 _, rfl, rfl⟩) ops.toList l s a w κ hl hR (by rw [hG]; exact exOps_ok hc l s s1 h1 rfl))
      ·cases he
    | true =>
      simp only at hcc
      split at hcc
      ·rename_i hok
       simp only [Option.some.injEq, Prod.mk.injEq] at hcc
       obtain ⟨rfl, _⟩ := hcc
       simp only [exC] at he
       split at he
       ·rename_i s1 h1
        split at he
        ·rename_i s2 h2
         cases he
         exact draw_sound (F := fun s => s = s2) hl hok.1 hok.2.1 hok.2.2 hR (by rw [hG]; exact exD_ok hc _ _ s s1 h1 (exOps_ok hc _ s1 s2 h2 rfl)) (fun s a w κ hR hF => by subst hF; exact ⟨_, κ, hR.clip0 _, rfl, rfl⟩)
        ·cases he
       ·cases he
      ·cases hcc
   ·cases hcc
 | seq x y =>
   simp only [cCode] at hcc
   split at hcc
   ·rename_i b' lb hb
    split at hcc
    ·rename_i a' la ha
     simp only [Option.some.injEq, Prod.mk.injEq] at hcc
     obtain ⟨rfl, _⟩ := hcc
     simp only [exC] at he
     split at he
     ·rename_i s1 h1
      refine wpIn_seq (Go.wpIn_mono (ih n (Nat.lt_succ_self n) x a' _ _ _ s a w κ _ _ ha h1 hR) ?_)
      intro e1 a w hq
      cases e1 with
      | normal =>
        obtain ⟨s2, κ, hR, _, rfl⟩ := hq
        exact ih n (Nat.lt_succ_self n) y b' _ _ _ s2 a w κ _ _ hb he hR
      | exit id => obtain ⟨_, _, _, h, _⟩ := hq; cases h
      | ret => obtain ⟨_, _, _, h, _⟩ := hq; cases h
      | goto l => exact hq.elim
      | panic ch => exact hq.elim
      | outgrown => exact hq.elim
     ·rename_i i s1 h1
      cases he
      refine wpIn_seq (Go.wpIn_mono (ih n (Nat.lt_succ_self n) x a' _ _ _ s a w κ _ _ ha h1 hR) ?_)
      intro e1 a w hq
      cases e1 with
      | normal => obtain ⟨_, _, _, h, _⟩ := hq; cases h
      | exit id => exact hq
      | ret => exact hq
      | goto l => exact hq.elim
      | panic ch => exact hq.elim
      | outgrown => exact hq.elim
     ·rename_i s1 h1
      cases he
      refine wpIn_seq (Go.wpIn_mono (ih n (Nat.lt_succ_self n) x a' _ _ _ s a w κ _ _ ha h1 hR) ?_)
      intro e1 a w hq
      cases e1 with
      | normal => obtain ⟨_, _, _, h, _⟩ := hq; cases h
      | exit id => exact hq
      | ret => exact hq
      | goto l => exact hq.elim
      | panic ch => exact hq.elim
      | outgrown => exact hq.elim
     ·cases he
    ·cases hcc
   ·cases hcc
 | cond x y z =>
   simp only [cCode] at hcc
   split at hcc
   ·rename_i ax a' la b' lb hx hy hz
    simp only [Option.some.injEq, Prod.mk.injEq] at hcc
    obtain ⟨rfl, _⟩ := hcc
    have hrel := cX_rel (κ := κ) (E := s.E) (a := a) hx (fun i _ => hR.env i)
    simp only [exC] at he
    split at he
    ·rename_i hv
     rw [hv] at hrel
     exact wpIn_cond_true (bool_inv hrel) (ih n (Nat.lt_succ_self n) y a' _ _ _ s a w κ _ _ hy he hR)
    ·rename_i hv
     rw [hv] at hrel
     exact wpIn_cond_false (bool_inv hrel) (ih n (Nat.lt_succ_self n) z b' _ _ _ s a w κ _ _ hz he hR)
    ·cases he
   ·cases hcc
 | block id b =>
   simp only [cCode] at hcc
   split at hcc
   ·rename_i b' lb hb
    simp only [Option.some.injEq, Prod.mk.injEq] at hcc
    obtain ⟨rfl, _⟩ := hcc
    simp only [exC] at he
    have main : ∀ e1 s1, exC call G n b' s = some (e1, s1) → ((e1 = .norm ∧ e = .norm ∧ s' = s1) ∨ (∃ i, e1 = .exit i ∧ s' = s1 ∧ e = if i = id then .norm else .exit i) ∨ (e1 = .ret ∧ e = .ret ∧ s' = s1)) → (Code.block id b).wpIn (FR none) 0 P (lift c κ0 N (exitK e s')) a w := by
     intro e1 s1 h1 hcase
     refine wpIn_block (Go.wpIn_mono (ih n (Nat.lt_succ_self n) b b' _ _ _ s a w κ _ _ hb h1 hR) ?_)
     intro e2 a w hq
     cases e2 with
     | normal =>
       obtain ⟨s2, κ, hR, rfl, rfl⟩ := hq
       rcases hcase with ⟨_, rfl, rfl⟩ | ⟨i, h, _⟩ | ⟨h, _⟩
       ·exact ⟨_, κ, hR, rfl, rfl⟩
       ·cases h
       ·cases h
     | ret =>
       obtain ⟨s2, κ, hR, rfl, rfl⟩ := hq
       rcases hcase with ⟨h, _⟩ | ⟨i, h, _⟩ | ⟨_, rfl, rfl⟩
       ·cases h
       ·cases h
       ·exact ⟨_, κ, hR, rfl, rfl⟩
     | exit i =>
       obtain ⟨s2, κ, hR, rfl, rfl⟩ := hq
       rcases hcase with ⟨h, _⟩ | ⟨i', h, rfl, rfl⟩ | ⟨h, _⟩
       ·cases h
       ·cases h
        simp only [Exit.inBlock]
        split
        ·rename_i hid
         exact ⟨_, κ, hR, by simp [hid], rfl⟩
        ·rename_i hid
         exact ⟨_, κ, hR, by simp [hid], rfl⟩
       ·cases h
     | goto l => exact hq.elim
     | panic ch => exact hq.elim
     | outgrown => exact hq.elim
    split at he
    ·rename_i s1 h1
     cases he
     exact main _ _ h1 (.inl ⟨rfl, rfl, rfl⟩)
    ·rename_i i s1 h1
     split at he
     ·rename_i hid
      cases he
      exact main _ _ h1 (.inr (.inl ⟨i, rfl, rfl, by simp [hid]⟩))
     ·rename_i hid
      cases he
      exact main _ _ h1 (.inr (.inl ⟨i, rfl, rfl, by simp [hid]⟩))
    ·rename_i s1 h1
     cases he
     exact main _ _ h1 (.inr (.inr ⟨rfl, rfl, rfl⟩))
    ·cases he
   ·cases hcc
 | loop b =>
   simp only [cCode] at hcc
   split at hcc
   ·rename_i x1 l1 hb1
    split at hcc
    ·rename_i x2 l2 hb2
     split at hcc
     ·rename_i b' l3 hb
      simp only [Option.some.injEq, Prod.mk.injEq] at hcc
      obtain ⟨rfl, _⟩ := hcc
      refine wpIn_loop_n (fun m a w => ∃ s κ, m ≤ n + 1 ∧ Rel c κ0 N s a w κ ∧ exC call G m (.loop (sortN l2) b') s = some (e, s')) ⟨n + 1, s, κ, Nat.le_refl _, hR, he⟩ fun m a w hJ => ?_
      obtain ⟨s, κ, hm, hR, he⟩ := hJ
      cases m with
      | zero => simp [exC] at he
      | succ m =>
        simp only [exC] at he
        split at he
        ·rename_i s1 h1
         refine Go.wpIn_mono (ih m (by omega) b b' _ _ _ s a w κ _ _ hb h1 hR) ?_
         intro e1 a w hq
         cases e1 with
         | normal =>
           obtain ⟨s2, κ, hR, _, rfl⟩ := hq
           exact ⟨m, Nat.lt_succ_self m, _, κ, by omega, hR, he⟩
         | exit id => obtain ⟨_, _, _, h, _⟩ := hq; cases h
         | ret => obtain ⟨_, _, _, h, _⟩ := hq; cases h
         | goto l => exact hq.elim
         | panic ch => exact hq.elim
         | outgrown => exact hq.elim
        ·rename_i i s1 h1
         cases he
         refine Go.wpIn_mono (ih m (by omega) b b' _ _ _ s a w κ _ _ hb h1 hR) ?_
         intro e1 a w hq
         cases e1 with
         | normal => obtain ⟨_, _, _, h, _⟩ := hq; cases h
         | exit id => exact hq
         | ret => exact hq
         | goto l => exact hq.elim
         | panic ch => exact hq.elim
         | outgrown => exact hq.elim
        ·rename_i s1 h1
         cases he
         refine Go.wpIn_mono (ih m (by omega) b b' _ _ _ s a w κ _ _ hb h1 hR) ?_
         intro e1 a w hq
         cases e1 with
         | normal => obtain ⟨_, _, _, h, _⟩ := hq; cases h
         | exit id => exact hq
         | ret => exact hq
         | goto l => exact hq.elim
         | panic ch => exact hq.elim
         | outgrown => exact hq.elim
        ·cases he
     ·cases hcc
    ·cases hcc
   ·cases hcc
 | rangeFunc f ps x y =>
   simp only [cCode] at hcc
   split at hcc
   ·split at hcc
    ·simp only [Option.some.injEq, Prod.mk.injEq] at hcc
     obtain ⟨rfl, _⟩ := hcc
     simp only [exC] at he
     cases he
    ·cases hcc
   ·simp only [Option.some.injEq, Prod.mk.injEq] at hcc; obtain ⟨rfl, rfl⟩ := hcc; exact (bad_ex he).elim
 | scope b => simp only [cCode, Option.some.injEq, Prod.mk.injEq] at hcc; obtain ⟨rfl, rfl⟩ := hcc; exact (bad_ex he).elim
 | label l => simp only [cCode, Option.some.injEq, Prod.mk.injEq] at hcc; obtain ⟨rfl, rfl⟩ := hcc; exact (bad_ex he).elim
 | goto l => simp only [cCode, Option.some.injEq, Prod.mk.injEq] at hcc; obtain ⟨rfl, rfl⟩ := hcc; exact (bad_ex he).elim
 | refuse y => simp only [cCode, Option.some.injEq, Prod.mk.injEq] at hcc; obtain ⟨rfl, rfl⟩ := hcc; exact (bad_ex he).elim
theorem lookF_ok {tab : List TabRow} (ht : ∀ r ∈ tab, cFn P r.muts r.f = some r.fn) {f : Nat} {fn : AFn} (h : lookF f tab = some fn) : ∃ muts, cFn P muts f = some fn := by
 induction tab with
 | nil => cases h
 | cons r q ih =>
   simp only [lookF] at h
   split at h
   ·rename_i hf
    cases h
    exact ⟨r.muts, hf ▸ ht r (by simp)⟩
   ·exact ih (fun r hr => ht r (by simp [hr])) h
theorem exF_ok {tab : List TabRow} {O : Nat → List PV → Option PV} {m : Nat} (ht : ∀ r ∈ tab, cFn P r.muts r.f = some r.fn) (hO : ∀ f ps r, O f ps = some r → Pure P G f ps r) : ∀ n, CallOk P G (exF tab O G m n)
 | 0 => by intro f args sto next v sto' next' h; simp [exF] at h
 | n + 1 => by
   intro f args sto next v sto' next' h
   simp only [exF] at h
   split at h
   ·rename_i r hr
    cases h
    simp only [Option.bind_eq_some_iff] at hr
    obtain ⟨ps, h1, h2⟩ := hr
    refine ⟨Grows.refl _ _, ?_⟩
    exact .inl ⟨ps, r, h1, hO f ps r h2, rfl, rfl, rfl⟩
   ·split at h
    ·rename_i fn hfn
     obtain ⟨muts, hcf⟩ := lookF_ok ht hfn
     split at h
     ·rename_i hl
      have grow : ∀ (e : AExit) (s : St), exC (exF tab O G m n) G m fn.body ⟨initEnv args, sto, next⟩ = some (e, s) → outOf G fn s = some (v, sto', next') → Grows sto next sto' next' := by
       intro e s h1 h2
       have := exC_grows (exF_ok ht hO n) m fn.body _ e s h1
       unfold outOf at h2
       split at h2
       ·cases h2; exact this
       ·cases h2
      have fin : ∀ (e : AExit) (s : St), (e = .norm ∨ e = .ret) → exC (exF tab O G m n) G m fn.body ⟨initEnv args, sto, next⟩ = some (e, s) → outOf G fn s = some (v, sto', next') → TCalls P G f args sto next (fun v' s' n' => v' = v ∧ s' = sto' ∧ n' = next') := by
       intro e s he h1 h2
       refine TCalls.of_code hcf hl fun c κ N a w co rl li hG hk hf hb hR => ?_
       refine Go.wpIn_mono (exC_ok (exF_ok ht hO n) hG m co fn.body _ _ _ _ a w κ e s hb h1 hR) ?_
       have hout : ∀ s1, s1 = s → onSome (resVs G s1 fn.res) (retK (fun v' s' n' => v' = v ∧ s' = sto' ∧ n' = next') s1) := by
        rintro s1 rfl
        unfold outOf at h2
        split at h2
        ·rename_i l hl2
         cases h2
         rw [hl2]
         exact ⟨rfl, rfl, rfl⟩
        ·cases h2
       intro e1 a w hq
       cases e1 with
       | normal =>
         obtain ⟨s1, κ1, hR1, he1, hs1⟩ := hq
         exact ⟨s1, κ1, hR1, hout s1 hs1⟩
       | ret =>
         obtain ⟨s1, κ1, hR1, he1, hs1⟩ := hq
         exact ⟨s1, κ1, hR1, hout s1 hs1⟩
       | exit id =>
         obtain ⟨s1, κ1, hR1, he1, hs1⟩ := hq
         rcases he with rfl | rfl <;> cases he1
       | goto l => exact hq.elim
       | panic ch => exact hq.elim
       | outgrown => exact hq.elim
      split at h
      ·rename_i s1 h1; exact ⟨grow _ _ h1 h, .inr (fin _ _ (.inl rfl) h1 h)⟩
      ·rename_i s1 h1; exact ⟨grow _ _ h1 h, .inr (fin _ _ (.inr rfl) h1 h)⟩
      ·cases h
     ·cases h
    ·cases h
theorem Pure.of_ex {tab : List TabRow} {O : Nat → List PV → Option PV} {m n : Nat} {f : Nat} {ps : List PV} {r : PV} (ht : ∀ r ∈ tab, cFn P r.muts r.f = some r.fn) (hO : ∀ f ps r, O f ps = some r → Pure P G f ps r)
  (h : pcall (exF tab O G m n) f ps = some r) : Pure P G f ps r :=
 pcall_ok (exF_ok ht hO n) h
end
end Go.Ab
set_option linter.unusedVariables false
set_option linter.unusedSimpArgs false
namespace Go.Ab
open Go Go.RowKit Go.Sort
theorem pure_of_calls {P : Program} {G : Nat → List PV} {f : Nat} {args : List PV} {r : PV} (hc : Callable P f = true)
  (h : ∀ (w : World) (imm : Nat → Nat → Prop) (vals : Array Value), GlobOk G w imm → vals.size = args.length → (∀ (i : Nat) (x : PV), args[i]? = some x → PRel w imm x (vals.getD i Go.undef)) →
   Calls P f vals w fun e w' => ∃ u, e = .returned u ∧ Below w.heap.size w w' ∧ PRel w' imm r u) : Pure P G f args r := by
 refine ⟨hc, fun w imm vals hG hlt hsz hargs => (h w imm vals hG hsz hargs).mono ?_⟩
 rintro e w' ⟨u, rfl, hb, hr⟩
 exact ⟨u, imm, rfl, hb, fun _ _ h => h, fun _ _ h => .inl h, fun b o h => Nat.lt_of_lt_of_le (hlt b o h) hb.size, hr⟩
theorem str_toArray {w : World} {imm : Nat → Nat → Prop} {l : List UInt8} (h : l.length ≤ maxLen) : PRel w imm (.str l) (.string ⟨l.toArray⟩) := by
 have := PRel.str (w := w) (imm := imm) ⟨l.toArray⟩ (by show l.toArray.size ≤ maxLen; simpa using h)
 simpa using this
theorem str_val {w : World} {imm : Nat → Nat → Prop} {l : List UInt8} {v : Value} (h : PRel w imm (.str l) v) : v = .string ⟨l.toArray⟩ ∧ l.length ≤ maxLen := by
 cases h with
 | str s hs => exact ⟨by simp, hs⟩
theorem vals_1 {vals : Array Value} (h : vals.size = 1) : vals = #[vals.getD 0 Go.undef] := by
 apply Array.ext
 ·simp [h]
 ·intro i h1 h2
  have : i = 0 := by omega
  subst this
  simp [Array.getD_eq_getD_getElem?, h]
theorem vals_2 {vals : Array Value} (h : vals.size = 2) : vals = #[vals.getD 0 Go.undef, vals.getD 1 Go.undef] := by
 apply Array.ext
 ·simp [h]
 ·intro i h1 h2
  have : i = 0 ∨ i = 1 := by omega
  rcases this with rfl | rfl <;> simp [Array.getD_eq_getD_getElem?, h]
def digits : Nat → Nat → List UInt8
 | 0, _ => []
 | n + 1, k => if k < 10 then [UInt8.ofNat (48 + k)] else digits n (k / 10) ++ [UInt8.ofNat (48 + k % 10)]
def itoaT (n : Int) : List UInt8 := if n < 0 then 45 :: digits 20 n.natAbs else digits 20 n.toNat
theorem digits_eq : ∀ (f k : Nat), k < 10 ^ f → 0 < f → digits f k = Lib.decDigits k
 | 0, k, _, h => absurd h (by simp)
 | f + 1, k, hk, _ => by
   rw [digits, Lib.decDigits]
   by_cases h : k < 10
   ·simp [h]
   ·rw [if_neg h, dif_neg h]
    have h10 : k / 10 < 10 ^ f := by
     rw [Nat.pow_succ] at hk
     exact Nat.div_lt_of_lt_mul (by rw [Nat.mul_comm]; exact hk)
    rw [digits_eq f (k / 10) h10 (by
     rcases Nat.eq_zero_or_pos f with h0 | h0
     ·subst h0
      simp at hk
      omega
     ·exact h0)]
theorem digits_len : ∀ (f k : Nat), (digits f k).length ≤ f
 | 0, k => by simp [digits]
 | f + 1, k => by
   rw [digits]
   split
   ·simp
   ·have := digits_len f (k / 10)
    simp; omega
theorem itoaT_eq {n : Int} (h0 : -9223372036854775808 ≤ n) (h1 : n ≤ 9223372036854775807) : itoaT n = Lib.itoa n := by
 have e : (10 : Nat) ^ 20 = 100000000000000000000 := by decide
 unfold itoaT Lib.itoa
 split
 ·rw [digits_eq 20 n.natAbs (by rw [e]; omega) (by decide)]
 ·rw [digits_eq 20 n.toNat (by rw [e]; omega) (by decide)]
theorem itoaT_len (n : Int) : (itoaT n).length ≤ 21 := by
 unfold itoaT
 split
 ·have := digits_len 20 n.natAbs
  simp; omega
 ·have := digits_len 20 n.toNat
  omega
theorem tabIs_of {P : Program} {G : Nat → List PV} {w : World} {imm : Nat → Nat → Prop} {name : String} {k : IntKind} {zs : List Int} {g : Nat} (hn : P.globalNamed name = some g) (hG : G g = zs.map (PV.int k)) (hz : zs ≠ []) (h : GlobOk G w imm) :
  Lib.TabIs P w name k zs := by
 obtain ⟨cs, T, fz, h1, h2⟩ := h.2 g (by rw [hG]; simpa using hz)
 have hcs : cs = (zs.map fun z => Value.int k z).toArray := by
  rw [hG] at h2
  simp only [List.length_map] at h2
  apply Array.ext
  ·simp [h2]
  ·intro i hi hi'
   have hiz : i < zs.length := by omega
   obtain ⟨_, v, h3, _, h4⟩ := h.1 g i (.int k zs[i]) (by rw [hG]; simp [hiz])
   have hv : v = .int k zs[i] := by cases h4; rfl
   have hc := cell_of_row w g i cs T fz h1
   rw [h3, hv] at hc
   have := (Array.getElem?_eq_some_iff.1 hc.symm).2
   simp [this]
 unfold Lib.TabIs World.var?
 rw [hn]
 simp only [Option.bind_some, h1]
 rw [hcs]
theorem itoa_pure {P : Program} {G : Nat → List PV} {f g : Nat} {name : String} (hc : Callable P f = true) (hn : P.globalNamed name = some g) (hG : G g = Lib.pow10Tab.map (PV.int .u64))
  (h : ∀ (n : Int) (h0 : -9223372036854775808 ≤ n) (h1 : n ≤ 9223372036854775807) (w : World) (htab : Lib.TabIs P w name .u64 Lib.pow10Tab),
   Calls P f #[.int .i64 n] w fun e w' => e = .returned (.string ⟨(Lib.itoa n).toArray⟩) ∧ ∃ k os, w' = Sort.grow (w.drewN k) os)
  (n : Int) (h0 : -9223372036854775808 ≤ n) (h1 : n ≤ 9223372036854775807) : Pure P G f [.int .i64 n] (.str (itoaT n)) := by
 refine pure_of_calls hc fun w imm vals hGl hsz hargs => ?_
 have hv := vals_1 hsz
 have h2 := hargs 0 (.int .i64 n) rfl
 have h3 : vals.getD 0 Go.undef = .int .i64 n := by
  generalize vals.getD 0 Go.undef = x at h2
  cases h2; rfl
 rw [hv, h3]
 refine (h n h0 h1 w (tabIs_of hn hG (by
  intro e
  have := congrArg List.length e
  rw [Lib.pow10Tab_length] at this
  simp at this) hGl)).mono ?_
 rintro e w' ⟨rfl, k, os, rfl⟩
 refine ⟨_, rfl, Lib.below_grow _ w (Nat.le_refl _) k os, ?_⟩
 rw [itoaT_eq h0 h1, ← itoaT_eq h0 h1]
 refine str_toArray ?_
 have := itoaT_len n
 unfold maxLen; omega
theorem compare_pure {P : Program} {G : Nat → List PV} {f : Nat} (hc : Callable P f = true)
  (h : ∀ (a b : ByteArray) (w : World), Calls P f #[.string a, .string b] w fun e w' => e = .returned (.int .i64 (Lib.compareBytes a.data.toList b.data.toList)) ∧ w' = w) (a b : List UInt8) :
  Pure P G f [.str a, .str b] (.int .i64 (Lib.compareBytes a b)) := by
 refine pure_of_calls hc fun w imm vals hGl hsz hargs => ?_
 have hv := vals_2 hsz
 obtain ⟨ha, _⟩ := str_val (hargs 0 (.str a) rfl)
 obtain ⟨hb, _⟩ := str_val (hargs 1 (.str b) rfl)
 rw [hv, ha, hb]
 refine (h _ _ w).mono ?_
 rintro e w' ⟨rfl, rfl⟩
 refine ⟨_, rfl, Below.refl _ _, ?_⟩
 simpa using PRel.int (w := w') (imm := imm) .i64 (Lib.compareBytes a b)
end Go.Ab
set_option linter.unusedVariables false
namespace Go.Ab
open Go
section
variable {P : Program} {G : Nat → List PV}
end
end Go.Ab
set_option linter.unusedVariables false
set_option linter.unusedSimpArgs false
namespace Go.Ab
open Go
def flatC : List AV → List AV
 | [] => []
 | x :: r => x.cells ++ flatC r
theorem flatC_nil : flatC [] = [] := _root_.id rfl
theorem flatC_cons (x : AV) (r : List AV) : flatC (x :: r) = x.cells ++ flatC r := _root_.id rfl
theorem flatC_eq : ∀ l : List AV, l.flatMap AV.cells = flatC l
 | [] => rfl
 | x :: r => by rw [List.flatMap_cons, flatC_eq r]; rfl
section
variable {P : Program} {G : Nat → List PV}
theorem chk_of {b : Bool} (h : b = true) : Chk b := h
theorem bsl_t {e sz len new : Nat} {vs : List AV} (h : Chk (decide (vs.length = len) && decide (len ≤ 9223372036854775807) && vs.all (fun v => v.known && v.cells.length == sz && v.cells.all AV.one))) : rBslice true e sz len new vs = some (.row new sz 0 len, [(new, .cells e true (flatC vs))]) := by
 have h' := h
 simp only [Chk, Bool.and_eq_true, decide_eq_true_eq] at h'
 obtain ⟨⟨h1, h2⟩, h3⟩ := h'
 simp only [rBslice]
 rw [if_pos ⟨h1, h2⟩, if_pos h3, flatC_eq]
end
attribute [push_cast] bsl_t flatC_nil flatC_cons
end Go.Ab
set_option linter.unusedVariables false
set_option linter.unusedSimpArgs false
namespace Go.Ab
open Go
section
variable {α β : Type}
theorem drop_at {l : List α} {m : Nat} {x : α} (h : l[m]? = some x) : l.drop m = x :: l.drop (m + 1) := by
 obtain ⟨h1, h2⟩ := List.getElem?_eq_some_iff.1 h
 rw [List.drop_eq_getElem_cons h1, h2]
theorem drop_end {l : List α} {m : Nat} (h : ¬ m < l.length) : l.drop m = [] := List.drop_eq_nil_of_le (by omega)
def fstI (p : α → Bool) : List α → Nat → Int
 | [], _ => -1
 | x :: r, m => if p x = true then (m : Int) else fstI p r (m + 1)
theorem fst_hit {l : List α} {m : Nat} {x : α} {p : α → Bool} (h : l[m]? = some x) (hp : p x = true) : fstI p (l.drop m) m = m := by
 rw [drop_at h, fstI, if_pos hp]
theorem fst_miss {l : List α} {m : Nat} {x : α} {p : α → Bool} (h : l[m]? = some x) (hp : p x = false) : fstI p (l.drop m) m = fstI p (l.drop (m + 1)) (m + 1) := by
 rw [drop_at h, fstI, if_neg (by rw [hp]; simp)]
theorem fst_end {l : List α} {m : Nat} {p : α → Bool} (h : ¬ m < l.length) : fstI p (l.drop m) m = -1 := by rw [drop_end h]; rfl
theorem fst_find {p : α → Bool} : ∀ (l : List α) (m : Nat), (l.find? p = none ∧ fstI p l m = -1) ∨ ∃ (k : Nat) (x : α), l[k]? = some x ∧ l.find? p = some x ∧ fstI p l m = ((m + k : Nat) : Int)
 | [], m => .inl ⟨rfl, rfl⟩
 | x :: r, m => by
   cases hx : p x with
   | true => exact .inr ⟨0, x, rfl, by rw [List.find?_cons, hx], by rw [fstI, if_pos hx]; rfl⟩
   | false =>
     rw [List.find?_cons, hx, fstI, if_neg (by rw [hx]; simp)]
     rcases fst_find r (m + 1) with ⟨h1, h2⟩ | ⟨k, y, h1, h2, h3⟩
     ·exact .inl ⟨h1, h2⟩
     ·exact .inr ⟨k + 1, y, by simpa using h1, h2, by rw [h3]; congr 1; omega⟩
theorem find_any {p : α → Bool} (l : List α) : (l.find? p).isSome = l.any p := by
 induction l with
 | nil => rfl
 | cons x r ih => rw [List.find?_cons, List.any_cons]; cases p x <;> simp [ih]
def onU8 : Option (List UInt8) → Option AV
 | some l => some (.pv (.str l))
 | none => none
def consU8 (n : Int) : Option (List UInt8) → Option (List UInt8)
 | some l => some (UInt8.ofNat n.toNat :: l)
 | none => none
theorem onU8_some (l : List UInt8) : onU8 (some l) = some (.pv (.str l)) := _root_.id rfl
theorem consU8_some (n : Int) (l : List UInt8) : consU8 n (some l) = some (UInt8.ofNat n.toNat :: l) := _root_.id rfl
theorem u8s_nil : u8s [] = some [] := _root_.id rfl
theorem u8s_cons (n : Int) (r : List PV) : u8s (.int .u8 n :: r) = consU8 n (u8s r) := by
 simp only [u8s]; cases u8s r <;> rfl
theorem u8s_bytes : ∀ l : List UInt8, u8s (l.map fun b => PV.int .u8 (b.toNat : Int)) = some l
 | [] => rfl
 | b :: r => by rw [List.map_cons, u8s_cons, u8s_bytes r, consU8_some]; simp
theorem toStr_ol (σ : Store) (r : Nat) (l : List PV) : rToStr σ (.olist r 1 l) = onU8 (u8s l) := by
 simp only [rToStr, elemsOf, if_true]; cases u8s l <;> rfl
theorem toStr_nils (σ : Store) : rToStr σ (.pv .nils) = some (.pv (.str [])) := _root_.id rfl
theorem toStr_pv (σ : Store) (l : List PV) : rToStr σ (.pv (.list l)) = onU8 (u8s l) := by
 simp only [rToStr, elemsOf]
 cases h : u8s l with
 | none => by_cases hh : (l.all (fun y => y.cells.length == 1)) = true <;> simp [hh, h, onU8]
 | some s =>
   obtain ⟨ns, rfl, rfl⟩ := u8s_ints h
   rw [if_pos (by simp [PV.cells])]
   simp [h, onU8]
end
theorem mRun_toStr (G : Nat → List PV) (e : List (Nat × AV)) (σ : List (Nat × Blk)) (new : Nat) (x : AX) : mRun G e σ new (.toStr x) = withD [] (rToStr (fun r => lookB r σ) (evE e x)) := by
 simp only [mRun]; cases rToStr (fun r => lookB r σ) (evE e x) <;> rfl
theorem tdiv_n {a b : Int} (h : 0 ≤ a) : a.tdiv b = a / b := Int.tdiv_eq_ediv_of_nonneg h
theorem tmod_n {a b : Int} (h : 0 ≤ a) : a.tmod b = a % b := Int.tmod_eq_emod_of_nonneg h
def byteO : Option UInt8 → Option AV
 | some b => some (.pv (.int .u8 (b.toNat : Int)))
 | none => none
theorem byteO_some (b : UInt8) : byteO (some b) = some (.pv (.int .u8 (b.toNat : Int))) := _root_.id rfl
theorem rIndex_nat (l : List UInt8) (k : IntKind) (i : Nat) : rIndex (.pv (.str l)) (.pv (.int k (i : Int))) = byteO l[i]? := by
 simp only [rIndex, Int.toNat_natCast]
 rw [if_pos (by omega)]
 cases l[i]? <;> rfl
theorem rIndex_zero (l : List UInt8) (k : IntKind) : rIndex (.pv (.str l)) (.pv (.int k 0)) = byteO l[0]? := rIndex_nat l k 0
theorem rIndex_succ (l : List UInt8) (k : IntKind) (i : Nat) : rIndex (.pv (.str l)) (.pv (.int k ((i : Int) + 1))) = byteO l[i + 1]? := rIndex_nat l k (i + 1)
attribute [push_cast] byteO_some rIndex_nat rIndex_zero rIndex_succ mRun_toStr tdiv_n tmod_n onU8_some consU8_some u8s_nil u8s_cons u8s_bytes toStr_ol toStr_nils toStr_pv
end Go.Ab
set_option linter.unusedVariables false
set_option linter.unusedSimpArgs false
namespace Go.Ab
open Go
end Go.Ab
