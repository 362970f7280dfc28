/- A program logic over the model: part 4 (a proof is built on it; nothing of the statement is said here). -/
import Derived.Test.YtikmckfppnmlnaaDoorCore3
set_option linter.unusedVariables false
set_option linter.unusedSimpArgs false
namespace Go.Ab
open Go Go.RowKit
theorem wrap_i64 {n : Int} (h1 : -9223372036854775808 ≤ n) (h2 : n ≤ 9223372036854775807) : IntKind.i64.wrap n = n := by
  show (if (true && decide (n % 18446744073709551616 ≥ 9223372036854775808)) = true then n % 18446744073709551616 - 18446744073709551616 else n % 18446744073709551616) = n
  simp only [Bool.true_and, decide_eq_true_eq]
  split <;> omega
theorem wrap_i32 {n : Int} (h1 : -2147483648 ≤ n) (h2 : n ≤ 2147483647) : IntKind.i32.wrap n = n := by
  show (if (true && decide (n % 4294967296 ≥ 2147483648)) = true then n % 4294967296 - 4294967296 else n % 4294967296) = n
  simp only [Bool.true_and, decide_eq_true_eq]
  split <;> omega
theorem wrap_u8 {n : Int} (h1 : 0 ≤ n) (h2 : n ≤ 255) : IntKind.u8.wrap n = n := by
  show (if (false && decide (n % 256 ≥ 128)) = true then n % 256 - 256 else n % 256) = n
  simp only [Bool.false_and]
  simp; omega
theorem wrap_u64 {n : Int} (h1 : 0 ≤ n) (h2 : n ≤ 18446744073709551615) : IntKind.u64.wrap n = n := by
  show (if (false && decide (n % 18446744073709551616 ≥ 9223372036854775808)) = true then n % 18446744073709551616 - 18446744073709551616 else n % 18446744073709551616) = n
  simp only [Bool.false_and]
  simp; omega
theorem wrap_u32 {n : Int} (h1 : 0 ≤ n) (h2 : n ≤ 4294967295) : IntKind.u32.wrap n = n := by
  show (if (false && decide (n % 4294967296 ≥ 2147483648)) = true then n % 4294967296 - 4294967296 else n % 4294967296) = n
  simp only [Bool.false_and]
  simp; omega
theorem dlt_t {a b : Int} (h : a < b) : decide (a < b) = true := decide_eq_true h
theorem dlt_f {a b : Int} (h : ¬ a < b) : decide (a < b) = false := decide_eq_false h
theorem dle_t {a b : Int} (h : a ≤ b) : decide (a ≤ b) = true := decide_eq_true h
theorem dle_f {a b : Int} (h : ¬ a ≤ b) : decide (a ≤ b) = false := decide_eq_false h
theorem deq_t {a b : Int} (h : a = b) : decide (a = b) = true := decide_eq_true h
theorem deq_f {a b : Int} (h : ¬ a = b) : decide (a = b) = false := decide_eq_false h
def Chk (b : Bool) : Prop := b = true
theorem chk_rfl : Chk true := _root_.id rfl
theorem look_cons (i k : Nat) (x : AV) (r : List (Nat × AV)) : look i ((k, x) :: r) = if k = i then x else look i r := _root_.id rfl
theorem look_nil (i : Nat) : look i [] = .any := _root_.id rfl
theorem lookB_cons (i k : Nat) (x : Blk) (r : List (Nat × Blk)) : lookB i ((k, x) :: r) = if k = i then x else lookB i r := _root_.id rfl
theorem lookB_nil (i : Nat) : lookB i [] = .none := _root_.id rfl
def evE (e : List (Nat × AV)) : AX → AV
  | .t i => look i e
  | .c p => .pv p
theorem evE_t (e : List (Nat × AV)) (i : Nat) : evE e (.t i) = look i e := _root_.id rfl
theorem evE_c (e : List (Nat × AV)) (p : PV) : evE e (.c p) = .pv p := _root_.id rfl
def evO (e : List (Nat × AV)) : Option AX → Option AV
  | some x => some (evE e x)
  | none => none
theorem evO_some (e : List (Nat × AV)) (x : AX) : evO e (some x) = some (evE e x) := _root_.id rfl
theorem evO_none (e : List (Nat × AV)) : evO e none = none := _root_.id rfl
def evL (e : List (Nat × AV)) : List AX → List AV
  | [] => []
  | x :: r => evE e x :: evL e r
theorem evL_nil (e : List (Nat × AV)) : evL e [] = [] := _root_.id rfl
theorem evL_cons (e : List (Nat × AV)) (x : AX) (r : List AX) : evL e (x :: r) = evE e x :: evL e r := _root_.id rfl
theorem ev_eq (e : List (Nat × AV)) (σ : List (Nat × Blk)) (n : Nat) (x : AX) : x.ev (St.E ⟨e, σ, n⟩) = evE e x := by cases x <;> rfl
theorem evs_eq (e : List (Nat × AV)) (σ : List (Nat × Blk)) (n : Nat) : ∀ (l : List AX), l.map (·.ev (St.E ⟨e, σ, n⟩)) = evL e l
  | [] => rfl
  | x :: r => by rw [List.map_cons, evs_eq e σ n r, ev_eq]; rfl
def evP (e : List (Nat × AV)) : List (Nat × Nat × AX) → List (Nat × Nat × AV)
  | [] => []
  | (a, b, x) :: r => (a, b, evE e x) :: evP e r
theorem evP_nil (e : List (Nat × AV)) : evP e [] = [] := _root_.id rfl
theorem evP_cons (e : List (Nat × AV)) (a b : Nat) (x : AX) (r : List (Nat × Nat × AX)) : evP e ((a, b, x) :: r) = (a, b, evE e x) :: evP e r := _root_.id rfl
def tRun (e : List (Nat × AV)) : TOp → Option AV
  | .mv x => some (evE e x)
  | .pick c a b => rPick (evE e c) (evE e a) (evE e b)
  | .build zs ps => (fillA (zs.map .pv) (evP e ps)).map mkAgg
  | .faddr off x => rFaddr off (evE e x)
  | .field g sz off x => rField g sz off (evE e x)
  | .iaddr sz x i => rIaddr sz (evE e x) (evE e i)
  | .iaddrA n sz x i => rIaddrA n sz (evE e x) (evE e i)
  | .index x i => rIndex (evE e x) (evE e i)
  | .indexA g n sz x i => rIndexA g n sz (evE e x) (evE e i)
  | .len st x => rLen st (evE e x)
  | .lenC n => some (.pv (.int .i64 n))
  | .imin x y => rMin (evE e x) (evE e y)
  | .imax x y => rMax (evE e x) (evE e y)
  | .sliceL sz x lo hi => rSliceL sz (evE e x) (evO e lo) (evO e hi)
  | .sliceS x lo hi => rSliceS (evE e x) (evO e lo) (evO e hi)
  | .bin op x y => rBin op (evE e x) (evE e y)
  | .beq kd ng x y => (rBeq kd (evE e x) (evE e y)).map fun b => .pv (.bool (if ng then !b else b))
  | .neg x => rNeg (evE e x)
  | .not x => rNot (evE e x)
  | .compl x => rCompl (evE e x)
  | .conv k x => rConv k (evE e x)
  | .convS x => rConvS (evE e x)
  | .convIS x => rConvIS (evE e x)
  | .beqS ng ks x y => (rBeqS ks (evE e x) (evE e y)).map fun b => .pv (.bool (if ng then !b else b))
  | .clo f fs cs => some (mkClo f (evL e fs) (evL e cs))
  | .ext x i => rExt i (evE e x)
  | .nilck x => rNil (evE e x)
theorem evL_m (e : List (Nat × AV)) : ∀ (l : List AX), l.map (fun x => evE e x) = evL e l
  | [] => rfl
  | x :: r => by rw [List.map_cons, evL_m e r]; rfl
theorem evO_m (e : List (Nat × AV)) (l : Option AX) : l.map (fun x => evE e x) = evO e l := by cases l <;> rfl
theorem evP_m (e : List (Nat × AV)) : ∀ (l : List (Nat × Nat × AX)), (l.map fun p => (p.1, p.2.1, evE e p.2.2)) = evP e l
  | [] => rfl
  | (a, b, x) :: r => by rw [List.map_cons, evP_m e r]; rfl
theorem tRun_eq (e : List (Nat × AV)) (σ : List (Nat × Blk)) (n : Nat) (o : TOp) : o.run (St.E ⟨e, σ, n⟩) = tRun e o := by
  cases o <;> simp only [TOp.run, tRun, ev_eq, evL_m, evO_m, evP_m]
theorem tRun_mv (e : List (Nat × AV)) (x : AX) : tRun e (.mv x) = some (evE e x) := _root_.id rfl
theorem tRun_pick (e : List (Nat × AV)) (c a b : AX) : tRun e (.pick c a b) = rPick (evE e c) (evE e a) (evE e b) := _root_.id rfl
theorem tRun_build (e : List (Nat × AV)) (zs : List PV) (ps : List (Nat × Nat × AX)) : tRun e (.build zs ps) = (fillA (zs.map .pv) (evP e ps)).map mkAgg := _root_.id rfl
theorem tRun_faddr (e : List (Nat × AV)) (off : Nat) (x : AX) : tRun e (.faddr off x) = rFaddr off (evE e x) := _root_.id rfl
theorem tRun_field (e : List (Nat × AV)) (g : Bool) (sz off : Nat) (x : AX) : tRun e (.field g sz off x) = rField g sz off (evE e x) := _root_.id rfl
theorem tRun_iaddr (e : List (Nat × AV)) (sz : Nat) (x i : AX) : tRun e (.iaddr sz x i) = rIaddr sz (evE e x) (evE e i) := _root_.id rfl
theorem tRun_iaddrA (e : List (Nat × AV)) (n sz : Nat) (x i : AX) : tRun e (.iaddrA n sz x i) = rIaddrA n sz (evE e x) (evE e i) := _root_.id rfl
theorem tRun_index (e : List (Nat × AV)) (x i : AX) : tRun e (.index x i) = rIndex (evE e x) (evE e i) := _root_.id rfl
theorem tRun_indexA (e : List (Nat × AV)) (g : Bool) (n sz : Nat) (x i : AX) : tRun e (.indexA g n sz x i) = rIndexA g n sz (evE e x) (evE e i) := _root_.id rfl
theorem tRun_len (e : List (Nat × AV)) (st : Bool) (x : AX) : tRun e (.len st x) = rLen st (evE e x) := _root_.id rfl
theorem tRun_lenC (e : List (Nat × AV)) (n : Nat) : tRun e (.lenC n) = some (.pv (.int .i64 n)) := _root_.id rfl
theorem tRun_imin (e : List (Nat × AV)) (x y : AX) : tRun e (.imin x y) = rMin (evE e x) (evE e y) := _root_.id rfl
theorem tRun_imax (e : List (Nat × AV)) (x y : AX) : tRun e (.imax x y) = rMax (evE e x) (evE e y) := _root_.id rfl
theorem tRun_sliceL (e : List (Nat × AV)) (sz : Nat) (x : AX) (lo hi : Option AX) : tRun e (.sliceL sz x lo hi) = rSliceL sz (evE e x) (evO e lo) (evO e hi) := _root_.id rfl
theorem tRun_sliceS (e : List (Nat × AV)) (x : AX) (lo hi : Option AX) : tRun e (.sliceS x lo hi) = rSliceS (evE e x) (evO e lo) (evO e hi) := _root_.id rfl
theorem tRun_bin (e : List (Nat × AV)) (op : BinOp) (x y : AX) : tRun e (.bin op x y) = rBin op (evE e x) (evE e y) := _root_.id rfl
def rBeqM (ng : Bool) : Option Bool → Option AV
  | some b => some (.pv (.bool (if ng then !b else b)))
  | none => none
theorem tRun_beq (e : List (Nat × AV)) (kd : Nat) (ng : Bool) (x y : AX) : tRun e (.beq kd ng x y) = rBeqM ng (rBeq kd (evE e x) (evE e y)) := by
  simp only [tRun]; cases rBeq kd (evE e x) (evE e y) <;> rfl
theorem rBeqM_t (b : Bool) : rBeqM true (some b) = some (.pv (.bool (!b))) := _root_.id rfl
theorem rBeqM_f (b : Bool) : rBeqM false (some b) = some (.pv (.bool b)) := _root_.id rfl
theorem tRun_neg (e : List (Nat × AV)) (x : AX) : tRun e (.neg x) = rNeg (evE e x) := _root_.id rfl
theorem tRun_not (e : List (Nat × AV)) (x : AX) : tRun e (.not x) = rNot (evE e x) := _root_.id rfl
theorem tRun_compl (e : List (Nat × AV)) (x : AX) : tRun e (.compl x) = rCompl (evE e x) := _root_.id rfl
theorem tRun_conv (e : List (Nat × AV)) (k : IntKind) (x : AX) : tRun e (.conv k x) = rConv k (evE e x) := _root_.id rfl
theorem tRun_beqS (e : List (Nat × AV)) (ng : Bool) (ks : List Nat) (x y : AX) : tRun e (.beqS ng ks x y) = rBeqM ng (rBeqS ks (evE e x) (evE e y)) := by
  simp only [tRun]; cases rBeqS ks (evE e x) (evE e y) <;> rfl
theorem rBeqS_agg (ks : List Nat) (ps qs : List PV) : rBeqS ks (.pv (.agg ps)) (.pv (.agg qs)) = eqPs ks ps qs := _root_.id rfl
theorem eqPs_nil : eqPs [] [] [] = some true := _root_.id rfl
theorem eqPs_bool (l : List Nat) (a b : Bool) (r s : List PV) : eqPs (0 :: l) (.bool a :: r) (.bool b :: s) = andO (some (a == b)) (eqPs l r s) := _root_.id rfl
theorem eqPs_int (l : List Nat) (k : IntKind) (a b : Int) (r s : List PV) : eqPs (1 :: l) (.int k a :: r) (.int k b :: s) = andO (some (decide (a = b))) (eqPs l r s) := by
  simp only [eqPs, eqP1, if_true]; congr 2
theorem eqPs_str (l : List Nat) (a b : List UInt8) (r s : List PV) : eqPs (2 :: l) (.str a :: r) (.str b :: s) = andO (some (a == b)) (eqPs l r s) := _root_.id rfl
theorem andO_some (a b : Bool) : andO (some a) (some b) = some (a && b) := _root_.id rfl
theorem tRun_convIS (e : List (Nat × AV)) (x : AX) : tRun e (.convIS x) = rConvIS (evE e x) := _root_.id rfl
theorem rConvIS_int (k : IntKind) (n : Int) : rConvIS (.pv (.int k n)) = some (.pv (.str (Utf8.encode n).data.toList)) := _root_.id rfl
theorem tRun_convS (e : List (Nat × AV)) (x : AX) : tRun e (.convS x) = rConvS (evE e x) := _root_.id rfl
theorem tRun_clo (e : List (Nat × AV)) (f : Nat) (fs cs : List AX) : tRun e (.clo f fs cs) = some (mkClo f (evL e fs) (evL e cs)) := _root_.id rfl
theorem tRun_ext (e : List (Nat × AV)) (x : AX) (i : Nat) : tRun e (.ext x i) = rExt i (evE e x) := _root_.id rfl
theorem tRun_nilck (e : List (Nat × AV)) (x : AX) : tRun e (.nilck x) = rNil (evE e x) := _root_.id rfl
theorem rPick_t (x y : AV) : rPick (.pv (.bool true)) x y = some x := _root_.id rfl
theorem rPick_f (x y : AV) : rPick (.pv (.bool false)) x y = some y := _root_.id rfl
theorem rFaddr_ptr (off r o : Nat) : rFaddr off (.ptr r o) = some (.ptr r (o + off)) := _root_.id rfl
theorem rFaddr_eptr (off : Nat) (l : List PV) (i o : Nat) : rFaddr off (.pv (.eptr l i o)) = some (.pv (.eptr l i (o + off))) := _root_.id rfl
theorem rFaddr_gptr (off g o : Nat) : rFaddr off (.pv (.gptr g o)) = some (.pv (.gptr g (o + off))) := _root_.id rfl
theorem rField_pv (g : Bool) (sz off : Nat) (ps : List PV) : rField g sz off (.pv (.agg ps)) = partA g sz off (ps.map .pv) := _root_.id rfl
theorem rField_av (g : Bool) (sz off : Nat) (ps : List AV) : rField g sz off (.agg ps) = partA g sz off ps := _root_.id rfl
def partT (sz off : Nat) (cs : List AV) : Option AV := if off + sz ≤ cs.length then some (mkAgg ((cs.drop off).take sz)) else none
theorem partA_t (sz off : Nat) (cs : List AV) : partA true sz off cs = partT sz off cs := _root_.id rfl
theorem partA_f (sz off : Nat) (cs : List AV) : partA false sz off cs = cs[off]? := _root_.id rfl
def onElem (sz : Nat) (l : List PV) (i : Nat) : Option PV → Option AV
  | some y => if y.cells.length = sz then some (.pv (.eptr l i 0)) else none
  | none => none
theorem rElem_nat (sz : Nat) (l : List PV) (i : Nat) : rElem sz l (i : Int) = onElem sz l i l[i]? := by
  unfold rElem onElem
  rw [if_pos (by omega)]
  simp only [Int.toNat_natCast]
  cases l[i]? <;> rfl
theorem rElem_zero (sz : Nat) (l : List PV) : rElem sz l 0 = onElem sz l 0 l[0]? := _root_.id rfl
theorem rElem_succ (sz : Nat) (l : List PV) (i : Nat) : rElem sz l ((i : Int) + 1) = onElem sz l (i + 1) l[i + 1]? := rElem_nat sz l (i + 1)
theorem rIaddr_list (sz : Nat) (l : List PV) (k : IntKind) (n : Int) : rIaddr sz (.pv (.list l)) (.pv (.int k n)) = rElem sz l n := _root_.id rfl
theorem rIaddr_olist (sz r s : Nat) (l : List PV) (k : IntKind) (n : Int) : rIaddr sz (.olist r s l) (.pv (.int k n)) = rElem sz l n := _root_.id rfl
theorem rIaddr_row (sz r off len : Nat) (k : IntKind) {n : Int} (h : 0 ≤ n) (h' : n.toNat < len) : rIaddr sz (.row r sz off len) (.pv (.int k n)) = some (.ptr r (off + n.toNat * sz)) := by
  simp [rIaddr, h, h']
theorem rLen_str (l : List UInt8) : rLen true (.pv (.str l)) = some (.pv (.int .i64 l.length)) := _root_.id rfl
theorem rLen_list (l : List PV) : rLen false (.pv (.list l)) = some (.pv (.int .i64 l.length)) := _root_.id rfl
theorem rLen_nils : rLen false (.pv .nils) = some (.pv (.int .i64 0)) := _root_.id rfl
theorem rLen_olist (r s : Nat) (l : List PV) : rLen false (.olist r s l) = some (.pv (.int .i64 l.length)) := _root_.id rfl
theorem rLen_row (r s o n : Nat) : rLen false (.row r s o n) = some (.pv (.int .i64 n)) := _root_.id rfl
theorem rBound_some {d top : Nat} {k : IntKind} {n : Int} (h0 : 0 ≤ n) (h1 : n ≤ top) : rBound d top (some (.pv (.int k n))) = some n.toNat := by
  simp [rBound, h0, h1]
theorem rBound_none {d top : Nat} : rBound d top none = some d := _root_.id rfl
def cut2 {α : Type} (l : List α) (f : List α → AV) : Option Nat → Option Nat → Option AV
  | some h, some a => some (f ((l.take h).drop a))
  | _, _ => none
theorem cut2_some {α : Type} (l : List α) (f : List α → AV) (h a : Nat) : cut2 l f (some h) (some a) = some (f ((l.take h).drop a)) := _root_.id rfl
def bnd2 (l : Nat) (lo : Option AV) : Option Nat → Option Nat
  | some h => rBound 0 h lo
  | none => none
theorem bnd2_some (l : Nat) (lo : Option AV) (h : Nat) : bnd2 l lo (some h) = rBound 0 h lo := _root_.id rfl
theorem rSliceS_str (l : List UInt8) (lo hi : Option AV) : rSliceS (.pv (.str l)) lo hi = cut2 l (fun x => .pv (.str x)) (rBound l.length l.length hi) (bnd2 l.length lo (rBound l.length l.length hi)) := by
  unfold rSliceS cut2 bnd2
  simp only
  split <;> rename_i h
  · rw [h]; simp only; cases rBound 0 _ lo <;> rfl
  · rw [h]
theorem rBin_add (k : IntKind) (a b : Int) : rBin .add (.pv (.int k a)) (.pv (.int k b)) = some (.pv (.int k (k.wrap (a + b)))) := by simp [rBin, rInt]
theorem rBin_sub (k : IntKind) (a b : Int) : rBin .sub (.pv (.int k a)) (.pv (.int k b)) = some (.pv (.int k (k.wrap (a - b)))) := by simp [rBin, rInt]
theorem rBin_mul (k : IntKind) (a b : Int) : rBin .mul (.pv (.int k a)) (.pv (.int k b)) = some (.pv (.int k (k.wrap (a * b)))) := by simp [rBin, rInt]
theorem rBin_quo {k : IntKind} {a b : Int} (h : ¬ b = 0) : rBin .quo (.pv (.int k a)) (.pv (.int k b)) = some (.pv (.int k (k.wrap (a.tdiv b)))) := by simp [rBin, rInt, h]
theorem rBin_rem {k : IntKind} {a b : Int} (h : ¬ b = 0) : rBin .rem (.pv (.int k a)) (.pv (.int k b)) = some (.pv (.int k (a.tmod b))) := by simp [rBin, rInt, h]
theorem rBin_and (k : IntKind) (a b : Int) : rBin .and (.pv (.int k a)) (.pv (.int k b)) = some (.pv (.int k (bits .and k a b))) := by simp [rBin, rInt]
theorem rBin_or (k : IntKind) (a b : Int) : rBin .or (.pv (.int k a)) (.pv (.int k b)) = some (.pv (.int k (bits .or k a b))) := by simp [rBin, rInt]
theorem rBin_xor (k : IntKind) (a b : Int) : rBin .xor (.pv (.int k a)) (.pv (.int k b)) = some (.pv (.int k (bits .xor k a b))) := by simp [rBin, rInt]
theorem rBin_andNot (k : IntKind) (a b : Int) : rBin .andNot (.pv (.int k a)) (.pv (.int k b)) = some (.pv (.int k (bits .andNot k a b))) := by simp [rBin, rInt]
theorem rBin_eql (k : IntKind) (a b : Int) : rBin .eql (.pv (.int k a)) (.pv (.int k b)) = some (.pv (.bool (decide (a = b)))) := by simp [rBin, rInt]; rfl
theorem rBin_neq (k : IntKind) (a b : Int) : rBin .neq (.pv (.int k a)) (.pv (.int k b)) = some (.pv (.bool (!decide (a = b)))) := by simp [rBin, rInt]; rfl
theorem rBin_lss (k : IntKind) (a b : Int) : rBin .lss (.pv (.int k a)) (.pv (.int k b)) = some (.pv (.bool (decide (a < b)))) := by simp [rBin, rInt]
theorem rBin_leq (k : IntKind) (a b : Int) : rBin .leq (.pv (.int k a)) (.pv (.int k b)) = some (.pv (.bool (decide (a ≤ b)))) := by simp [rBin, rInt]
theorem rBin_gtr (k : IntKind) (a b : Int) : rBin .gtr (.pv (.int k a)) (.pv (.int k b)) = some (.pv (.bool (decide (b < a)))) := by simp [rBin, rInt]
theorem rBin_geq (k : IntKind) (a b : Int) : rBin .geq (.pv (.int k a)) (.pv (.int k b)) = some (.pv (.bool (decide (b ≤ a)))) := by simp [rBin, rInt]
theorem rBinS_add {a b : List UInt8} (h : a.length + b.length ≤ 9223372036854775807) : rBin .add (.pv (.str a)) (.pv (.str b)) = some (.pv (.str (a ++ b))) := by
  have : a.length + b.length ≤ maxLen := by unfold maxLen; omega
  simp [rBin, rStr, this]
theorem rBinS_eql (a b : List UInt8) : rBin .eql (.pv (.str a)) (.pv (.str b)) = some (.pv (.bool (decide (a = b)))) := by
  simp [rBin, rStr]; rw [Bool.eq_iff_iff]; simp
theorem rBinS_neq (a b : List UInt8) : rBin .neq (.pv (.str a)) (.pv (.str b)) = some (.pv (.bool (!decide (a = b)))) := by
  simp [rBin, rStr]; rw [Bool.eq_iff_iff]; simp
theorem rBinS_lss (a b : List UInt8) : rBin .lss (.pv (.str a)) (.pv (.str b)) = some (.pv (.bool (bytesLt a b))) := _root_.id rfl
theorem rBinS_leq (a b : List UInt8) : rBin .leq (.pv (.str a)) (.pv (.str b)) = some (.pv (.bool (bytesLt a b || a == b))) := _root_.id rfl
theorem rBinS_gtr (a b : List UInt8) : rBin .gtr (.pv (.str a)) (.pv (.str b)) = some (.pv (.bool (!(bytesLt a b || a == b)))) := _root_.id rfl
theorem rBinS_geq (a b : List UInt8) : rBin .geq (.pv (.str a)) (.pv (.str b)) = some (.pv (.bool (!(bytesLt a b)))) := _root_.id rfl
theorem rBeq_bool (a b : Bool) : rBeq 0 (.pv (.bool a)) (.pv (.bool b)) = some (a == b) := _root_.id rfl
theorem rBeq_ptr (r o : Nat) : rBeq 1 (.ptr r o) (.pv .nilp) = some false := _root_.id rfl
theorem rBeq_eptr (l : List PV) (i o : Nat) : rBeq 1 (.pv (.eptr l i o)) (.pv .nilp) = some false := _root_.id rfl
theorem rBeq_nilp : rBeq 1 (.pv .nilp) (.pv .nilp) = some true := _root_.id rfl
theorem rBeq_cons (x : PV) (l : List PV) : rBeq 2 (.pv (.list (x :: l))) (.pv .nils) = some false := _root_.id rfl
theorem rBeq_ocons (r s : Nat) (x : PV) (l : List PV) : rBeq 2 (.olist r s (x :: l)) (.pv .nils) = some false := _root_.id rfl
theorem rBeq_row {r s o n : Nat} (h : 0 < n) : rBeq 2 (.row r s o n) (.pv .nils) = some false := by
  cases n with
  | zero => exact absurd h (Nat.lt_irrefl _)
  | succ n => rfl
theorem rBeq_nils : rBeq 2 (.pv .nils) (.pv .nils) = some true := _root_.id rfl
theorem rNeg_int (k : IntKind) (n : Int) : rNeg (.pv (.int k n)) = some (.pv (.int k (k.wrap (0 - n)))) := _root_.id rfl
theorem rNot_bool (b : Bool) : rNot (.pv (.bool b)) = some (.pv (.bool (!b))) := _root_.id rfl
theorem rConv_int (k k' : IntKind) (n : Int) : rConv k (.pv (.int k' n)) = some (.pv (.int k (k.wrap n))) := _root_.id rfl
theorem rConvS_str (s : List UInt8) : rConvS (.pv (.str s)) = some (.pv (.str s)) := _root_.id rfl
theorem rNil_ptr (r o : Nat) : rNil (.ptr r o) = some (.ptr r o) := _root_.id rfl
theorem rNil_eptr (l : List PV) (i o : Nat) : rNil (.pv (.eptr l i o)) = some (.pv (.eptr l i o)) := _root_.id rfl
theorem rNil_gptr (g o : Nat) : rNil (.pv (.gptr g o)) = some (.pv (.gptr g o)) := _root_.id rfl
theorem rNil_pclo (f : Nat) (a b : List PV) : rNil (.pv (.clo f a b)) = some (.pv (.clo f a b)) := _root_.id rfl
theorem rNil_clo (f : Nat) (a b : List AV) : rNil (.clo f a b) = some (.clo f a b) := _root_.id rfl
theorem rExt_pv (i : Nat) (ps : List PV) : rExt i (.pv (.tup ps)) = (ps[i]?).map .pv := _root_.id rfl
theorem rExt_av (i : Nat) (ps : List AV) : rExt i (.tup ps) = ps[i]? := _root_.id rfl
theorem omap_some {α β : Type} (f : α → β) (a : α) : (some a).map f = some (f a) := _root_.id rfl
theorem map_pv_nil : [].map AV.pv = [] := _root_.id rfl
theorem map_pv_cons (x : PV) (r : List PV) : (x :: r).map AV.pv = .pv x :: r.map AV.pv := _root_.id rfl
theorem get0 {α : Type} (x : α) (r : List α) : (x :: r)[0]? = some x := _root_.id rfl
theorem getS {α : Type} (x : α) (r : List α) (n : Nat) : (x :: r)[n + 1]? = r[n]? := _root_.id rfl
theorem pvs_nil : pvs [] = some [] := _root_.id rfl
def pvs2 : Option PV → Option (List PV) → Option (List PV)
  | some p, some ps => some (p :: ps)
  | _, _ => none
theorem pvs2_some (p : PV) (ps : List PV) : pvs2 (some p) (some ps) = some (p :: ps) := _root_.id rfl
theorem pvs2_none (x : Option (List PV)) : pvs2 none x = none := _root_.id rfl
theorem pvs2_none' (x : Option PV) : pvs2 x none = none := by cases x <;> rfl
theorem pvs_cons (x : AV) (r : List AV) : pvs (x :: r) = pvs2 x.toPV (pvs r) := by
  show (match x.toPV, pvs r with | some p, some ps => some (p :: ps) | _, _ => none) = _
  cases x.toPV <;> cases pvs r <;> rfl
theorem pvs_map : ∀ (ps : List PV), pvs (ps.map .pv) = some ps
  | [] => rfl
  | x :: r => by rw [List.map_cons, pvs_cons, pvs_map r]; rfl
theorem toPV_pv (p : PV) : (AV.pv p).toPV = some p := _root_.id rfl
theorem toPV_olist (r s : Nat) (l : List PV) : (AV.olist r s l).toPV = some (.list l) := _root_.id rfl
theorem toPV_ptr (r o : Nat) : (AV.ptr r o).toPV = none := _root_.id rfl
theorem toPV_row (r s o n : Nat) : (AV.row r s o n).toPV = none := _root_.id rfl
theorem toPV_agg (cs : List AV) : (AV.agg cs).toPV = none := _root_.id rfl
theorem toPV_tup (cs : List AV) : (AV.tup cs).toPV = none := _root_.id rfl
theorem toPV_clo (f : Nat) (a b : List AV) : (AV.clo f a b).toPV = none := _root_.id rfl
def mkAggO (cs : List AV) : Option (List PV) → AV
  | some ps => .pv (.agg ps)
  | none => .agg cs
theorem mkAgg_o (cs : List AV) : mkAgg cs = mkAggO cs (pvs cs) := by unfold mkAgg; cases pvs cs <;> rfl
theorem mkAggO_some (cs : List AV) (ps : List PV) : mkAggO cs (some ps) = .pv (.agg ps) := _root_.id rfl
theorem mkAggO_none (cs : List AV) : mkAggO cs none = .agg cs := _root_.id rfl
def mkTupO (cs : List AV) : Option (List PV) → AV
  | some ps => .pv (.tup ps)
  | none => .tup cs
theorem mkTup_o (cs : List AV) : mkTup cs = mkTupO cs (pvs cs) := by unfold mkTup; cases pvs cs <;> rfl
theorem mkTupO_some (cs : List AV) (ps : List PV) : mkTupO cs (some ps) = .pv (.tup ps) := _root_.id rfl
theorem mkTupO_none (cs : List AV) : mkTupO cs none = .tup cs := _root_.id rfl
def mkCloO (f : Nat) (fs cs : List AV) : Option (List PV) → Option (List PV) → AV
  | some a, some b => .pv (.clo f a b)
  | _, _ => .clo f fs cs
theorem mkClo_o (f : Nat) (fs cs : List AV) : mkClo f fs cs = mkCloO f fs cs (pvs fs) (pvs cs) := by unfold mkClo mkCloO; cases pvs fs <;> cases pvs cs <;> rfl
theorem mkCloO_some (f : Nat) (fs cs : List AV) (a b : List PV) : mkCloO f fs cs (some a) (some b) = .pv (.clo f a b) := _root_.id rfl
theorem mkCloO_none (f : Nat) (fs cs : List AV) (a : Option (List PV)) : mkCloO f fs cs a none = .clo f fs cs := by cases a <;> rfl
theorem mkCloO_none' (f : Nat) (fs cs : List AV) (a : Option (List PV)) : mkCloO f fs cs none a = .clo f fs cs := by cases a <;> rfl
theorem cellsA_pv (p : PV) : (AV.pv p).cells = p.cells.map .pv := _root_.id rfl
theorem cellsA_agg (cs : List AV) : (AV.agg cs).cells = cs := _root_.id rfl
theorem cellsA_tup (cs : List AV) : (AV.tup cs).cells = [.tup cs] := _root_.id rfl
theorem cellsA_ptr (r o : Nat) : (AV.ptr r o).cells = [.ptr r o] := _root_.id rfl
theorem cellsA_row (r s o n : Nat) : (AV.row r s o n).cells = [.row r s o n] := _root_.id rfl
theorem cellsA_olist (r s : Nat) (l : List PV) : (AV.olist r s l).cells = [.olist r s l] := _root_.id rfl
theorem cellsA_clo (f : Nat) (a b : List AV) : (AV.clo f a b).cells = [.clo f a b] := _root_.id rfl
theorem cells_agg (cs : List PV) : (PV.agg cs).cells = cs := _root_.id rfl
theorem cells_bool (b : Bool) : (PV.bool b).cells = [.bool b] := _root_.id rfl
theorem cells_int (k : IntKind) (n : Int) : (PV.int k n).cells = [.int k n] := _root_.id rfl
theorem cells_str (s : List UInt8) : (PV.str s).cells = [.str s] := _root_.id rfl
theorem cells_nils : PV.nils.cells = [.nils] := _root_.id rfl
theorem cells_list (l : List PV) : (PV.list l).cells = [.list l] := _root_.id rfl
theorem cells_nilp : PV.nilp.cells = [.nilp] := _root_.id rfl
theorem cells_nilf : PV.nilf.cells = [.nilf] := _root_.id rfl
theorem cells_clo (f : Nat) (a b : List PV) : (PV.clo f a b).cells = [.clo f a b] := _root_.id rfl
theorem cells_eptr (l : List PV) (i o : Nat) : (PV.eptr l i o).cells = [.eptr l i o] := _root_.id rfl
theorem cells_gptr (g o : Nat) : (PV.gptr g o).cells = [.gptr g o] := _root_.id rfl
def loadB (g : Bool) (sz o : Nat) : Blk → Option AV
  | .cells _ _ l => partA g sz o l
  | _ => none
theorem loadB_cells (g : Bool) (sz o T : Nat) (f : Bool) (l : List AV) : loadB g sz o (.cells T f l) = partA g sz o l := _root_.id rfl
def loadO (g : Bool) (sz o : Nat) : Option PV → Option AV
  | some e => loadE g sz o e
  | none => none
theorem loadO_some (g : Bool) (sz o : Nat) (e : PV) : loadO g sz o (some e) = loadE g sz o e := _root_.id rfl
theorem rLoad_ptr (G : Nat → List PV) (g : Bool) (sz : Nat) (σ : Store) (r o : Nat) : rLoad G g sz σ (.ptr r o) = loadB g sz o (σ r) := by
  simp only [rLoad, loadB]; cases σ r <;> rfl
theorem rLoad_eptr (G : Nat → List PV) (g : Bool) (sz : Nat) (σ : Store) (l : List PV) (i o : Nat) : rLoad G g sz σ (.pv (.eptr l i o)) = loadO g sz o l[i]? := by
  simp only [rLoad, loadO]; cases l[i]? <;> rfl
theorem rLoad_gptr (G : Nat → List PV) (g : Bool) (sz : Nat) (σ : Store) (b o : Nat) : rLoad G g sz σ (.pv (.gptr b o)) = partA g sz o ((G b).map .pv) := _root_.id rfl
theorem loadE_f (sz o : Nat) (e : PV) : loadE false sz o e = partA false sz o (e.cells.map .pv) := by simp [loadE]
theorem loadE_t {sz o : Nat} {cs : List PV} (h : 0 < o) : loadE true sz o (.agg cs) = partA true sz o (cs.map .pv) := by
  simp [loadE, PV.cells]; omega
def xRun (e : List (Nat × AV)) (σ : List (Nat × Blk)) (new : Nat) : XOp → Option (AV × List (Nat × Blk))
  | .cap sz x => (rCap sz (fun r => lookB r σ) (evE e x)).map fun v => (v, [])
  | .resl sz x h => (rResl sz (fun r => lookB r σ) (evE e x) (evE e h)).map fun v => (v, [])
  | .copy sz x y => rCopy sz (fun r => lookB r σ) (evE e x) (evE e y)
  | .apart x y => (rApart (fun r => lookB r σ) (evE e x) (evE e y)).map fun v => (v, [])
  | .appz t sz by_ zs x k => rAppz t sz by_ zs new (fun r => lookB r σ) (evE e x) (evE e k)
theorem xRun_eq (e : List (Nat × AV)) (σ : List (Nat × Blk)) (n new : Nat) (o : XOp) : o.run new (St.E ⟨e, σ, n⟩) (St.σ ⟨e, σ, n⟩) = xRun e σ new o := by
  cases o <;> simp only [XOp.run, xRun, ev_eq] <;> rfl
def mRun (G : Nat → List PV) (e : List (Nat × AV)) (σ : List (Nat × Blk)) (new : Nat) : MOp → Option (AV × List (Nat × Blk))
  | .alloc T zs => some (.ptr new 0, [(new, .cells T true (zs.map .pv))])
  | .box T x => if (evE e x).known = true then some (.ptr new 0, [(new, .cells T true (evE e x).cells)]) else none
  | .cbox T x => match (evE e x).toPV with
    | some p => if p.cells.all PV.one = true then some (.pv (.eptr [p] 0 0), [(new, .none)]) else none
    | none => none
  | .load g sz x => (rLoad G g sz (fun r => lookB r σ) (evE e x)).map fun v => (v, [])
  | .store sz x v => (rStore sz (fun r => lookB r σ) (evE e x) (evE e v)).map fun d => (.pv .undef, d)
  | .clear sz zs x => (rClear sz zs (fun r => lookB r σ) (evE e x)).map fun d => (.pv (.tup []), d)
  | .toStr x => (rToStr (fun r => lookB r σ) (evE e x)).map fun v => (v, [])
  | .xop o => xRun e σ new o
  | .bslice mu t sz len xs => rBslice mu t sz len new (evL e xs)
  | .append mu t sz by_ x y => rAppend mu t sz by_ new (fun r => lookB r σ) (evE e x) (evE e y)
  | .mk mu t sz by_ zs x y => rMk mu t sz by_ zs new (evE e x) (evE e y)
  | .sliceA n sz x lo hi => match evE e x with
    | .ptr r o => match lookB r σ with
      | .cells _ f l => if f = true ∧ o + n * sz ≤ l.length ∧ (o = 0 → n * sz = l.length) ∧ n ≤ 9223372036854775807 then (rSliceL sz (.row r sz o n) (evO e lo) (evO e hi)).map fun v => (v, []) else none
      | _ => none
    | _ => none
theorem mRun_eq (G : Nat → List PV) (e : List (Nat × AV)) (σ : List (Nat × Blk)) (n new : Nat) (o : MOp) : o.run G new (St.E ⟨e, σ, n⟩) (St.σ ⟨e, σ, n⟩) = mRun G e σ new o := by
  cases o <;> first | (simp only [MOp.run, mRun, ev_eq, evL_m, evO_m] <;> rfl) | exact xRun_eq e σ n new _
def withD (δ : List (Nat × Blk)) : Option AV → Option (AV × List (Nat × Blk))
  | some v => some (v, δ)
  | none => none
theorem withD_some (δ : List (Nat × Blk)) (v : AV) : withD δ (some v) = some (v, δ) := _root_.id rfl
def withV (v : AV) : Option (List (Nat × Blk)) → Option (AV × List (Nat × Blk))
  | some δ => some (v, δ)
  | none => none
theorem withV_some (δ : List (Nat × Blk)) (v : AV) : withV v (some δ) = some (v, δ) := _root_.id rfl
theorem mRun_alloc (G : Nat → List PV) (e : List (Nat × AV)) (σ : List (Nat × Blk)) (new T : Nat) (zs : List PV) : mRun G e σ new (.alloc T zs) = some (.ptr new 0, [(new, .cells T true (zs.map .pv))]) := _root_.id rfl
def boxD (new T : Nat) (v : AV) : Bool → Option (AV × List (Nat × Blk))
  | true => some (.ptr new 0, [(new, .cells T true v.cells)])
  | false => none
theorem boxD_t (new T : Nat) (v : AV) : boxD new T v true = some (.ptr new 0, [(new, .cells T true v.cells)]) := _root_.id rfl
theorem mRun_box (G : Nat → List PV) (e : List (Nat × AV)) (σ : List (Nat × Blk)) (new T : Nat) (x : AX) : mRun G e σ new (.box T x) = boxD new T (evE e x) (evE e x).known := by
  simp only [mRun]; cases (evE e x).known <;> rfl
def cboxO (new : Nat) : Option PV → Option (AV × List (Nat × Blk))
  | some p => if p.cells.all PV.one = true then some (.pv (.eptr [p] 0 0), [(new, .none)]) else none
  | none => none
theorem cboxO_some (new : Nat) (p : PV) : cboxO new (some p) = if p.cells.all PV.one = true then some (.pv (.eptr [p] 0 0), [(new, .none)]) else none := _root_.id rfl
theorem mRun_cbox (G : Nat → List PV) (e : List (Nat × AV)) (σ : List (Nat × Blk)) (new T : Nat) (x : AX) : mRun G e σ new (.cbox T x) = cboxO new (evE e x).toPV := by
  simp only [mRun, cboxO]
theorem known_pv (p : PV) : (AV.pv p).known = true := _root_.id rfl
theorem known_agg (cs : List AV) : (AV.agg cs).known = true := _root_.id rfl
theorem known_tup (cs : List AV) : (AV.tup cs).known = true := _root_.id rfl
theorem known_ptr (r o : Nat) : (AV.ptr r o).known = true := _root_.id rfl
theorem known_row (r s o n : Nat) : (AV.row r s o n).known = true := _root_.id rfl
theorem known_olist (r s : Nat) (l : List PV) : (AV.olist r s l).known = true := _root_.id rfl
theorem known_clo (f : Nat) (a b : List AV) : (AV.clo f a b).known = true := _root_.id rfl
theorem mRun_load (G : Nat → List PV) (e : List (Nat × AV)) (σ : List (Nat × Blk)) (new : Nat) (g : Bool) (sz : Nat) (x : AX) : mRun G e σ new (.load g sz x) = withD [] (rLoad G g sz (fun r => lookB r σ) (evE e x)) := by
  simp only [mRun]; cases rLoad G g sz (fun r => lookB r σ) (evE e x) <;> rfl
theorem mRun_store (G : Nat → List PV) (e : List (Nat × AV)) (σ : List (Nat × Blk)) (new sz : Nat) (x v : AX) : mRun G e σ new (.store sz x v) = withV (.pv .undef) (rStore sz (fun r => lookB r σ) (evE e x) (evE e v)) := by
  simp only [mRun]; cases rStore sz (fun r => lookB r σ) (evE e x) (evE e v) <;> rfl
def clearB (sz : Nat) (zs : List PV) (r s off len : Nat) : Blk → Option (List (Nat × Blk))
  | .cells T f l => if s = sz ∧ 0 < len ∧ zs.length = sz ∧ off + len * sz ≤ l.length ∧ zs.all PV.one = true then some [(r, .cells T f (l.take off ++ (List.replicate len zs).flatten.map .pv ++ l.drop (off + len * sz)))] else none
  | _ => none
theorem rClear_row (sz : Nat) (zs : List PV) (σ : Store) (r s off len : Nat) : rClear sz zs σ (.row r s off len) = clearB sz zs r s off len (σ r) := by
  simp only [rClear, clearB]; cases σ r <;> rfl
theorem mRun_clear (G : Nat → List PV) (e : List (Nat × AV)) (σ : List (Nat × Blk)) (new sz : Nat) (zs : List PV) (x : AX) : mRun G e σ new (.clear sz zs x) = withV (.pv (.tup [])) (rClear sz zs (fun r => lookB r σ) (evE e x)) := by
  simp only [mRun, withV]; cases rClear sz zs (fun r => lookB r σ) (evE e x) <;> rfl
theorem mRun_bslice (G : Nat → List PV) (e : List (Nat × AV)) (σ : List (Nat × Blk)) (new : Nat) (mu : Bool) (t sz len : Nat) (xs : List AX) : mRun G e σ new (.bslice mu t sz len xs) = rBslice mu t sz len new (evL e xs) := _root_.id rfl
theorem mRun_append (G : Nat → List PV) (e : List (Nat × AV)) (σ : List (Nat × Blk)) (new : Nat) (mu : Bool) (t sz by_ : Nat) (x y : AX) : mRun G e σ new (.append mu t sz by_ x y) = rAppend mu t sz by_ new (fun r => lookB r σ) (evE e x) (evE e y) := _root_.id rfl
theorem mRun_mk (G : Nat → List PV) (e : List (Nat × AV)) (σ : List (Nat × Blk)) (new : Nat) (mu : Bool) (t sz by_ : Nat) (zs : List PV) (x y : AX) : mRun G e σ new (.mk mu t sz by_ zs x y) = rMk mu t sz by_ zs new (evE e x) (evE e y) := _root_.id rfl
theorem rMk_nil {e sz by_ : Nat} {zs : List PV} {new : Nat} {k k' : IntKind} {c : Int} (h : 0 ≤ c) (h1 : (by_ : Int) * c ≤ 281474976710656) (h2 : c ≤ 9223372036854775807) : rMk false e sz by_ zs new (.pv (.int k 0)) (.pv (.int k' c)) = some (.olist new sz [], [(new, .tok e sz)]) := by
  simp [rMk, h, h1, h2]
def storeB (sz r o : Nat) (v : AV) : Blk → Option (List (Nat × Blk))
  | .cells T f l => if v.known = true ∧ v.cells.length = sz ∧ v.cells.all AV.one = true ∧ o + sz ≤ l.length then some [(r, .cells T f (l.take o ++ v.cells ++ l.drop (o + sz)))] else none
  | _ => none
theorem rStore_ptr (sz : Nat) (σ : Store) (r o : Nat) (v : AV) : rStore sz σ (.ptr r o) v = storeB sz r o v (σ r) := by
  simp only [rStore, storeB]; cases σ r <;> rfl
def storeC (r T : Nat) (f : Bool) (l : List AV) (sz o : Nat) (cs : List AV) : Bool → Option (List (Nat × Blk))
  | true => some [(r, .cells T f (l.take o ++ cs ++ l.drop (o + sz)))]
  | false => none
theorem storeB_cells (sz r o : Nat) (v : AV) (T : Nat) (f : Bool) (l : List AV) : storeB sz r o v (.cells T f l) = storeC r T f l sz o v.cells (v.known && decide (v.cells.length = sz) && v.cells.all AV.one && decide (o + sz ≤ l.length)) := by
  simp only [storeB]
  by_cases h : v.known = true ∧ v.cells.length = sz ∧ v.cells.all AV.one = true ∧ o + sz ≤ l.length
  · rw [if_pos h]
    have : (v.known && decide (v.cells.length = sz) && v.cells.all AV.one && decide (o + sz ≤ l.length)) = true := by simp only [Bool.and_eq_true, decide_eq_true_eq]; exact ⟨⟨⟨h.1, h.2.1⟩, h.2.2.1⟩, h.2.2.2⟩
    rw [this]; rfl
  · rw [if_neg h]
    have : (v.known && decide (v.cells.length = sz) && v.cells.all AV.one && decide (o + sz ≤ l.length)) = false := by
      rw [Bool.eq_false_iff]
      intro hh
      simp only [Bool.and_eq_true, decide_eq_true_eq] at hh
      exact h ⟨hh.1.1.1, hh.1.1.2, hh.1.2, hh.2⟩
    rw [this]; rfl
theorem storeC_t (r T : Nat) (f : Bool) (l : List AV) (sz o : Nat) (cs : List AV) : storeC r T f l sz o cs true = some [(r, .cells T f (l.take o ++ cs ++ l.drop (o + sz)))] := _root_.id rfl
theorem room_ok {n m by_ : Nat} (h1 : n + m ≤ 9223372036854775807) (h2 : (n + m) * by_ ≤ 140737488355328) : room n m by_ = true := by
  simp [room, h1, h2]
theorem updB_nil (l : List (Nat × Blk)) : updB l [] = l := _root_.id rfl
theorem updB_cons (l : List (Nat × Blk)) (p : Nat × Blk) (r : List (Nat × Blk)) : updB l (p :: r) = updB (p :: l) r := _root_.id rfl
theorem cloOf_pv (f : Nat) (a b : List PV) : cloOf (.pv (.clo f a b)) = some (f, a.map .pv, b.map .pv) := _root_.id rfl
theorem cloOf_av (f : Nat) (a b : List AV) : cloOf (.clo f a b) = some (f, a, b) := _root_.id rfl
theorem onSomeI {α : Type} (a : α) (k : α → Prop) : onSome (some a) k = k a := _root_.id rfl
section
variable {P : Program} {G : Nat → List PV}
theorem nextT_eq (F : St → Prop) (e : List (Nat × AV)) (σ : List (Nat × Blk)) (n d : Nat) (v : AV) : nextT F ⟨e, σ, n⟩ (some d) v = F ⟨(d, v) :: e, σ, n⟩ := _root_.id rfl
theorem nextT_no (F : St → Prop) (e : List (Nat × AV)) (σ : List (Nat × Blk)) (n : Nat) (v : AV) : nextT F ⟨e, σ, n⟩ none v = F ⟨e, σ, n⟩ := _root_.id rfl
theorem nextM_eq (F : St → Prop) (e : List (Nat × AV)) (σ : List (Nat × Blk)) (n d : Nat) (v : AV) (δ : List (Nat × Blk)) : nextM F ⟨e, σ, n⟩ (some d) (v, δ) = F ⟨(d, v) :: e, updB σ δ, n + 1⟩ := _root_.id rfl
theorem nextM_no (F : St → Prop) (e : List (Nat × AV)) (σ : List (Nat × Blk)) (n : Nat) (v : AV) (δ : List (Nat × Blk)) : nextM F ⟨e, σ, n⟩ none (v, δ) = F ⟨e, updB σ δ, n + 1⟩ := _root_.id rfl
theorem nextC_eq (F : St → Prop) (e : List (Nat × AV)) (σ : List (Nat × Blk)) (n d : Nat) (v : AV) : nextC F (some d) v ⟨e, σ, n⟩ = F ⟨(d, v) :: e, σ, n⟩ := _root_.id rfl
theorem nextC_no (F : St → Prop) (e : List (Nat × AV)) (σ : List (Nat × Blk)) (n : Nat) (v : AV) : nextC F none v ⟨e, σ, n⟩ = F ⟨e, σ, n⟩ := _root_.id rfl
theorem callC_eq (args : List AV) (s : St) (K : AV → St → Prop) (f : Nat) (a b : List AV) : callC P G args s K (f, a, b) = ACall P G f (a ++ args ++ b) s K := _root_.id rfl
theorem vcOps_nil (F : St → Prop) (s : St) : vcOps P G [] F s = F s := _root_.id rfl
theorem vcOps_cons (d : Option Nat) (o : AOp) (r : List AOper) (F : St → Prop) (s : St) : vcOps P G (⟨d, o, none⟩ :: r) F s = doOp P G (vcOps P G r F) s d o := _root_.id rfl
def wantedV (b : Bool) : AV → Option Bool
  | .pv (.bool x) => some (x == b)
  | .pv .undef => some false
  | _ => none
theorem wantedV_t (x : Bool) : wantedV true (.pv (.bool x)) = some x := by cases x <;> rfl
theorem wantedV_f (x : Bool) : wantedV false (.pv (.bool x)) = some (!x) := by cases x <;> rfl
theorem wantedV_u (b : Bool) : wantedV b (.pv .undef) = some false := _root_.id rfl
theorem vcOps_guard (d : Option Nat) (o : AOp) (i : Nat) (b : Bool) (r : List AOper) (F : St → Prop) (e : List (Nat × AV)) (σ : List (Nat × Blk)) (n : Nat) :
    vcOps P G (⟨d, o, some (i, b)⟩ :: r) F ⟨e, σ, n⟩ = onSome (wantedV b (look i e)) (doIf P G (vcOps P G r F) ⟨e, σ, n⟩ d o) := _root_.id rfl
theorem doIf_true (F : St → Prop) (s : St) (d : Option Nat) (o : AOp) : doIf P G F s d o true = doOp P G F s d o := _root_.id rfl
theorem doIf_false (F : St → Prop) (e : List (Nat × AV)) (σ : List (Nat × Blk)) (n : Nat) (d : Nat) (o : AOp) : doIf P G F ⟨e, σ, n⟩ (some d) o false = F ⟨(d, .pv .undef) :: e, σ, n⟩ := _root_.id rfl
theorem doIf_false' (F : St → Prop) (s : St) (o : AOp) : doIf P G F s none o false = F s := _root_.id rfl
def nilE (k : AV → Prop) : AV → Prop
  | .pv (.list []) => ∀ b : Bool, k (.pv (.bool b))
  | _ => False
def onSomeE (x : Option AV) (k : AV → Prop) (e : List (Nat × AV)) (o : TOp) : Prop :=
  match x with
  | some v => k v
  | none => match o with
    | .beq 2 _ y (.c .nils) => nilE k (evE e y)
    | _ => False
theorem onSomeE_some (v : AV) (k : AV → Prop) (e : List (Nat × AV)) (o : TOp) : onSomeE (some v) k e o = k v := _root_.id rfl
theorem onSomeE_none (k : AV → Prop) (e : List (Nat × AV)) (ng : Bool) (y : AX) : onSomeE none k e (.beq 2 ng y (.c .nils)) = nilE k (evE e y) := _root_.id rfl
theorem nilE_nil (k : AV → Prop) : nilE k (.pv (.list [])) = ∀ b : Bool, k (.pv (.bool b)) := _root_.id rfl
theorem rBeq_nil (ng : Bool) : rBeqM ng (rBeq 2 (.pv (.list [])) (.pv .nils)) = none := _root_.id rfl
theorem doOp_t (F : St → Prop) (e : List (Nat × AV)) (σ : List (Nat × Blk)) (n : Nat) (d : Option Nat) (o : TOp) : doOp P G F ⟨e, σ, n⟩ d (.t o) = onSomeE (tRun e o) (nextT F ⟨e, σ, n⟩ d) e o := by
  rw [← tRun_eq e σ n]
  show onSomeN (o.run (St.E ⟨e, σ, n⟩)) _ _ = _
  cases hr : o.run (St.E ⟨e, σ, n⟩) with
  | some v => rfl
  | none =>
    simp only [onSomeN, onSomeE]
    refine propext ⟨fun h => ?_, fun h => ?_⟩
    · obtain ⟨h1, h2⟩ := h
      unfold nilB at h1
      split at h1
      · split at h1
        · rename_i hev
          rw [ev_eq] at hev
          show nilE _ _
          rw [hev]; exact h2
        · cases h1
      · cases h1
    · split at h
      · rename_i y
        unfold nilE at h
        split at h
        · rename_i hev
          refine ⟨?_, h⟩
          simp only [nilB]
          rw [ev_eq, hev]
        · exact h.elim
      · exact h.elim
theorem doOp_m (F : St → Prop) (e : List (Nat × AV)) (σ : List (Nat × Blk)) (n : Nat) (d : Option Nat) (o : MOp) : doOp P G F ⟨e, σ, n⟩ d (.m o) = onSome (mRun G e σ n o) (nextM F ⟨e, σ, n⟩ d) := by
  rw [← mRun_eq G e σ n]; rfl
theorem doOp_call (F : St → Prop) (e : List (Nat × AV)) (σ : List (Nat × Blk)) (n : Nat) (d : Option Nat) (f : AX) (xs : List AX) : doOp P G F ⟨e, σ, n⟩ d (.call f xs) = onSome (cloOf (evE e f)) (callC P G (evL e xs) ⟨e, σ, n⟩ (nextC F d)) := by
  rw [← ev_eq e σ n, ← evs_eq e σ n]; rfl
theorem stepT_eq (F : List (List Nat × List Nat) → St → Prop) (T : List (List Nat × List Nat)) (e : List (Nat × AV)) (σ : List (Nat × Blk)) (n d : Nat) (v : AV) : stepT F T ⟨e, σ, n⟩ (some d) v = F (T ++ [([], [])]) ⟨(d, v) :: e, σ, n⟩ := _root_.id rfl
theorem stepT_no (F : List (List Nat × List Nat) → St → Prop) (T : List (List Nat × List Nat)) (e : List (Nat × AV)) (σ : List (Nat × Blk)) (n : Nat) (v : AV) : stepT F T ⟨e, σ, n⟩ none v = F (T ++ [([], [])]) ⟨e, σ, n⟩ := _root_.id rfl
theorem stepM_eq (F : List (List Nat × List Nat) → St → Prop) (T : List (List Nat × List Nat)) (e : List (Nat × AV)) (σ : List (Nat × Blk)) (n d k : Nat) (rd : List Nat) (v : AV) (δ : List (Nat × Blk)) : stepM F T ⟨e, σ, n⟩ (some d) k rd (v, δ) = F (T ++ [rowT k (keysL δ) rd]) ⟨(d, v) :: e, updB σ δ, n + 1⟩ := _root_.id rfl
theorem stepM_no (F : List (List Nat × List Nat) → St → Prop) (T : List (List Nat × List Nat)) (e : List (Nat × AV)) (σ : List (Nat × Blk)) (n k : Nat) (rd : List Nat) (v : AV) (δ : List (Nat × Blk)) : stepM F T ⟨e, σ, n⟩ none k rd (v, δ) = F (T ++ [rowT k (keysL δ) rd]) ⟨e, updB σ δ, n + 1⟩ := _root_.id rfl
theorem callDL_pure {F : List (List Nat × List Nat) → St → Prop} {T : List (List Nat × List Nat)} {e : List (Nat × AV)} {σ : List (Nat × Blk)} {n d : Nat} {f : Nat} {a b args : List AV} {ps : List PV} {r : PV} (h : Pure P G f ps r) (he : pvs (a ++ args ++ b) = some ps)
    (hk : F (T ++ [([], [])]) ⟨(d, .pv r) :: e, σ, n⟩) : callDL P G F T ⟨e, σ, n⟩ (some d) args (f, a, b) := .inl ⟨ps, r, he, h, hk⟩
theorem rowT_0 (ks rs : List Nat) : rowT 0 ks rs = (ks.map (· + 1), rs.map (· + 1)) := _root_.id rfl
theorem rowT_1 (ks rs : List Nat) : rowT 1 ks rs = (ks.map (· + 1), 0 :: rs.map (· + 1)) := _root_.id rfl
theorem rowT_2 (ks rs : List Nat) : rowT 2 ks rs = (0 :: ks.map (· + 1), rs.map (· + 1)) := _root_.id rfl
theorem makesN_load (g : Bool) (sz : Nat) (x : AX) : makesN (.load g sz x) = 0 := _root_.id rfl
theorem makesN_store (sz : Nat) (x v : AX) : makesN (.store sz x v) = 0 := _root_.id rfl
theorem makesN_toStr (x : AX) : makesN (.toStr x) = 0 := _root_.id rfl
theorem makesN_clear (sz : Nat) (zs : List PV) (x : AX) : makesN (.clear sz zs x) = 0 := _root_.id rfl
theorem makesN_sliceA (n sz : Nat) (x : AX) (l h : Option AX) : makesN (.sliceA n sz x l h) = 0 := _root_.id rfl
theorem makesN_alloc (T : Nat) (z : List PV) : makesN (.alloc T z) = 1 := _root_.id rfl
theorem makesN_box (T : Nat) (x : AX) : makesN (.box T x) = 1 := _root_.id rfl
theorem makesN_cbox (T : Nat) (x : AX) : makesN (.cbox T x) = 1 := _root_.id rfl
theorem makesN_bslice (m : Bool) (e s l : Nat) (x : List AX) : makesN (.bslice m e s l x) = 1 := _root_.id rfl
theorem makesN_append (m : Bool) (e s l : Nat) (x y : AX) : makesN (.append m e s l x y) = 1 := _root_.id rfl
theorem makesN_mk (m : Bool) (e s l : Nat) (z : List PV) (x y : AX) : makesN (.mk m e s l z x y) = 1 := _root_.id rfl
theorem vcD_nil {A : List (List Nat)} {F : St → Prop} {T : List (List Nat × List Nat)} {s : St} (h : Chk (okB A T)) : vcD P G A F [] T s = F s := by
  show (okB A T = true ∧ F s) = F s
  rw [eq_iff_iff]
  exact ⟨fun x => x.2, fun x => ⟨h, x⟩⟩
theorem vcD_cons (A : List (List Nat)) (F : St → Prop) (d : Option Nat) (o : AOp) (r : List AOper) (T : List (List Nat × List Nat)) (s : St) : vcD P G A F (⟨d, o, none⟩ :: r) T s = doOpD P G (vcD P G A F r) T s d o := _root_.id rfl
theorem vcD_guard (A : List (List Nat)) (F : St → Prop) (d : Option Nat) (o : AOp) (i : Nat) (b : Bool) (r : List AOper) (T : List (List Nat × List Nat)) (e : List (Nat × AV)) (σ : List (Nat × Blk)) (n : Nat) :
    vcD P G A F (⟨d, o, some (i, b)⟩ :: r) T ⟨e, σ, n⟩ = onSome (wantedV b (look i e)) (doIfD P G (vcD P G A F r) T ⟨e, σ, n⟩ d o) := _root_.id rfl
theorem doIfD_true (F : List (List Nat × List Nat) → St → Prop) (T : List (List Nat × List Nat)) (s : St) (d : Option Nat) (o : AOp) : doIfD P G F T s d o true = doOpD P G F T s d o := _root_.id rfl
theorem doIfD_false (F : List (List Nat × List Nat) → St → Prop) (T : List (List Nat × List Nat)) (e : List (Nat × AV)) (σ : List (Nat × Blk)) (n : Nat) (d : Nat) (o : AOp) : doIfD P G F T ⟨e, σ, n⟩ (some d) o false = F (T ++ [([], [])]) ⟨(d, .pv .undef) :: e, σ, n⟩ := _root_.id rfl
theorem doIfD_false' (F : List (List Nat × List Nat) → St → Prop) (T : List (List Nat × List Nat)) (s : St) (o : AOp) : doIfD P G F T s none o false = F (T ++ [([], [])]) s := _root_.id rfl
theorem doOpD_t (F : List (List Nat × List Nat) → St → Prop) (T : List (List Nat × List Nat)) (e : List (Nat × AV)) (σ : List (Nat × Blk)) (n : Nat) (d : Option Nat) (o : TOp) : doOpD P G F T ⟨e, σ, n⟩ d (.t o) = onSome (tRun e o) (stepT F T ⟨e, σ, n⟩ d) := by
  rw [← tRun_eq e σ n]; rfl
def xReads (e : List (Nat × AV)) : XOp → List Nat
  | .cap _ x => (evE e x).name
  | .resl _ x _ => (evE e x).name
  | .copy _ x y | .apart x y => (evE e x).name ++ (evE e y).name
  | .appz _ _ _ _ x _ => (evE e x).name
def mReads (e : List (Nat × AV)) : MOp → List Nat
  | .xop o => xReads e o
  | .load _ _ x | .sliceA _ _ x _ _ | .clear _ _ x | .toStr x => (evE e x).name
  | .append _ _ _ _ x y => (evE e x).name ++ (evE e y).name
  | .store _ x _ => (evE e x).name
  | .alloc _ _ | .box _ _ | .cbox _ _ | .bslice _ _ _ _ _ | .mk _ _ _ _ _ _ _ => []
theorem mReads_mk (e : List (Nat × AV)) (mu : Bool) (t sz b : Nat) (zs : List PV) (x y : AX) : mReads e (.mk mu t sz b zs x y) = [] := _root_.id rfl
theorem mReads_toStr (e : List (Nat × AV)) (x : AX) : mReads e (.toStr x) = (evE e x).name := _root_.id rfl
theorem mReads_clear (e : List (Nat × AV)) (sz : Nat) (zs : List PV) (x : AX) : mReads e (.clear sz zs x) = (evE e x).name := _root_.id rfl
theorem mReads_load (e : List (Nat × AV)) (g : Bool) (sz : Nat) (x : AX) : mReads e (.load g sz x) = (evE e x).name := _root_.id rfl
theorem mReads_box (e : List (Nat × AV)) (T : Nat) (x : AX) : mReads e (.box T x) = [] := _root_.id rfl
theorem mReads_cbox (e : List (Nat × AV)) (T : Nat) (x : AX) : mReads e (.cbox T x) = [] := _root_.id rfl
theorem mReads_alloc (e : List (Nat × AV)) (T : Nat) (x : List PV) : mReads e (.alloc T x) = [] := _root_.id rfl
theorem mReads_store (e : List (Nat × AV)) (sz : Nat) (x v : AX) : mReads e (.store sz x v) = (evE e x).name := _root_.id rfl
theorem mReads_append (e : List (Nat × AV)) (mu : Bool) (t sz b : Nat) (x y : AX) : mReads e (.append mu t sz b x y) = (evE e x).name ++ (evE e y).name := _root_.id rfl
theorem mReads_bslice (e : List (Nat × AV)) (mu : Bool) (t sz b : Nat) (x : List AX) : mReads e (.bslice mu t sz b x) = [] := _root_.id rfl
theorem name_pv (p : PV) : (AV.pv p).name = [] := _root_.id rfl
theorem name_ptr (r o : Nat) : (AV.ptr r o).name = [r] := _root_.id rfl
theorem name_row (r s o n : Nat) : (AV.row r s o n).name = [r] := _root_.id rfl
theorem name_olist (r s : Nat) (l : List PV) : (AV.olist r s l).name = [r] := _root_.id rfl
theorem keysL_nil : keysL ([] : List (Nat × Blk)) = [] := _root_.id rfl
theorem keysL_cons (r : Nat) (B : Blk) (q : List (Nat × Blk)) : keysL ((r, B) :: q) = r :: keysL q := _root_.id rfl
theorem doOpD_m (F : List (List Nat × List Nat) → St → Prop) (T : List (List Nat × List Nat)) (e : List (Nat × AV)) (σ : List (Nat × Blk)) (n : Nat) (d : Option Nat) (o : MOp) : doOpD P G F T ⟨e, σ, n⟩ d (.m o) = onSome (mRun G e σ n o) (stepM F T ⟨e, σ, n⟩ d (makesN o) (mReads e o)) := by
  have : mReads e o = o.reads (St.E ⟨e, σ, n⟩) := by
    cases o <;> simp only [mReads, MOp.reads, ev_eq]
    rename_i o
    cases o <;> simp only [xReads, XOp.reads, ev_eq]
  rw [← mRun_eq G e σ n, this]; rfl
theorem doOpD_call (F : List (List Nat × List Nat) → St → Prop) (T : List (List Nat × List Nat)) (e : List (Nat × AV)) (σ : List (Nat × Blk)) (n : Nat) (d : Option Nat) (f : AX) (xs : List AX) : doOpD P G F T ⟨e, σ, n⟩ d (.call f xs) = onSome (cloOf (evE e f)) (callDL P G F T ⟨e, σ, n⟩ d (evL e xs)) := by
  rw [← ev_eq e σ n, ← evs_eq e σ n]; rfl
def clipE (e : List (Nat × AV)) : List Nat → List (Nat × AV)
  | [] => []
  | k :: r => (k, look k e) :: clipE e r
theorem clipE_nil (e : List (Nat × AV)) : clipE e [] = [] := _root_.id rfl
theorem clipE_cons (e : List (Nat × AV)) (k : Nat) (r : List Nat) : clipE e (k :: r) = (k, look k e) :: clipE e r := _root_.id rfl
theorem clipE_eq (e : List (Nat × AV)) (σ : List (Nat × Blk)) (n : Nat) : ∀ (l : List Nat), l.map (fun i => (i, St.E ⟨e, σ, n⟩ i)) = clipE e l
  | [] => rfl
  | k :: r => by rw [List.map_cons, clipE_eq e σ n r]; rfl
theorem clean_nil (seen : List Nat) : cleanB seen [] = [] := _root_.id rfl
theorem clean_cons (seen : List Nat) (k : Nat) (b : Blk) (r : List (Nat × Blk)) : cleanB seen ((k, b) :: r) = consB k b (cleanB (k :: seen) r) (memN k seen) := _root_.id rfl
theorem consB_t (k : Nat) (b : Blk) (r : List (Nat × Blk)) : consB k b r true = r := _root_.id rfl
theorem consB_f (k : Nat) (b : Blk) (r : List (Nat × Blk)) : consB k b r false = (k, b) :: r := _root_.id rfl
theorem memN_nil (k : Nat) : memN k [] = false := _root_.id rfl
theorem memN_c (k j : Nat) (r : List Nat) : memN k (j :: r) = if j = k then true else memN k r := _root_.id rfl
theorem normK_eq (Q : AExit → St → Prop) (keep : List Nat) (e : List (Nat × AV)) (σ : List (Nat × Blk)) (n : Nat) : normK Q keep ⟨e, σ, n⟩ = Q .norm ⟨clipE e keep, cleanB [] σ, n⟩ := by
  rw [← clipE_eq e σ n]; rfl
theorem SeqK_norm (F : St → Prop) (Q : AExit → St → Prop) (s : St) : SeqK F Q .norm s = F s := _root_.id rfl
theorem SeqK_exit (F : St → Prop) (Q : AExit → St → Prop) (i : Nat) (s : St) : SeqK F Q (.exit i) s = Q (.exit i) s := _root_.id rfl
theorem SeqK_ret (F : St → Prop) (Q : AExit → St → Prop) (s : St) : SeqK F Q .ret s = Q .ret s := _root_.id rfl
theorem BlockK_norm (id : Nat) (Q : AExit → St → Prop) (s : St) : BlockK id Q .norm s = Q .norm s := _root_.id rfl
theorem BlockK_exit (id : Nat) (Q : AExit → St → Prop) (i : Nat) (s : St) : BlockK id Q (.exit i) s = if i = id then Q .norm s else Q (.exit i) s := _root_.id rfl
theorem BlockK_ret (id : Nat) (Q : AExit → St → Prop) (s : St) : BlockK id Q .ret s = Q .ret s := _root_.id rfl
theorem vc_skip (m0 : Nat) (Q : AExit → St → Prop) (s : St) : vc P G m0 .skip Q s = Q .norm s := _root_.id rfl
theorem vc_ops (m0 : Nat) (l : List AOper) (keep : List Nat) (Q : AExit → St → Prop) (s : St) : vc P G m0 (.ops l keep) Q s = vcOps P G l (normK Q keep) s := _root_.id rfl
theorem vc_draw (m0 : Nat) (A : List (List Nat)) (l l2 : List AOper) (keep : List Nat) (Q : AExit → St → Prop) (s : St) : vc P G m0 (.draw A l l2 keep) Q s = vcD P G A (vcOps P G l2 (normK Q keep)) l [] s := _root_.id rfl
theorem doOp_fz (F : St → Prop) (e : List (Nat × AV)) (σ : List (Nat × Blk)) (n : Nat) (d : Option Nat) (g : Option (Bool × Nat)) (x : AX) : doOp P G F ⟨e, σ, n⟩ d (.fz g x) = onSome (fRun G (fun r => lookB r σ) g (evE e x)) (nextM F ⟨e, σ, n⟩ d) := by
  rw [← ev_eq e σ n]; rfl
theorem vc_seq (m0 : Nat) (a b : ACode) (Q : AExit → St → Prop) (s : St) : vc P G m0 (.seq a b) Q s = vc P G m0 a (SeqK (vc P G m0 b Q) Q) s := _root_.id rfl
theorem vc_cond (m0 : Nat) (x : AX) (a b : ACode) (Q : AExit → St → Prop) (e : List (Nat × AV)) (σ : List (Nat × Blk)) (n : Nat) : vc P G m0 (.cond x a b) Q ⟨e, σ, n⟩ = onBool (evE e x) (vc P G m0 a Q) (vc P G m0 b Q) ⟨e, σ, n⟩ := by
  rw [← ev_eq e σ n]; rfl
theorem vc_block (m0 id : Nat) (b : ACode) (Q : AExit → St → Prop) (s : St) : vc P G m0 (.block id b) Q s = vc P G m0 b (BlockK id Q) s := _root_.id rfl
theorem vc_exit (m0 id : Nat) (Q : AExit → St → Prop) (s : St) : vc P G m0 (.exit id) Q s = Q (.exit id) s := _root_.id rfl
theorem vc_ret (m0 : Nat) (Q : AExit → St → Prop) (s : St) : vc P G m0 .ret Q s = Q .ret s := _root_.id rfl
theorem onBool_b (b : Bool) (F H : St → Prop) (s : St) : onBool (.pv (.bool b)) F H s = ifB b F H s := by cases b <;> rfl
theorem ifB_t (F H : St → Prop) (s : St) : ifB true F H s = F s := _root_.id rfl
theorem ifB_f (F H : St → Prop) (s : St) : ifB false F H s = H s := _root_.id rfl
def resE (G : Nat → List PV) (e : List (Nat × AV)) (σ : List (Nat × Blk)) : ARes → Option AV
  | .tmp t => some (look t e)
  | .cell t g sz => rLoad G g sz (fun r => lookB r σ) (look t e)
theorem resE_tmp (e : List (Nat × AV)) (σ : List (Nat × Blk)) (t : Nat) : resE G e σ (.tmp t) = some (look t e) := _root_.id rfl
theorem resE_cell (e : List (Nat × AV)) (σ : List (Nat × Blk)) (t : Nat) (g : Bool) (sz : Nat) : resE G e σ (.cell t g sz) = rLoad G g sz (fun r => lookB r σ) (look t e) := _root_.id rfl
theorem FnK_norm (res : List ARes) (R : AV → List (Nat × Blk) → Nat → Prop) (s : St) : FnK G res R .norm s = onSome (resVs G s res) (retK R s) := _root_.id rfl
theorem FnK_ret (res : List ARes) (R : AV → List (Nat × Blk) → Nat → Prop) (s : St) : FnK G res R .ret s = onSome (resVs G s res) (retK R s) := _root_.id rfl
theorem retK_eq (R : AV → List (Nat × Blk) → Nat → Prop) (e : List (Nat × AV)) (σ : List (Nat × Blk)) (n : Nat) (l : List AV) : retK R ⟨e, σ, n⟩ l = R (retV l) σ n := _root_.id rfl
theorem retV_1 (x : AV) : retV [x] = x := _root_.id rfl
theorem retV_0 : retV [] = .pv (.tup []) := _root_.id rfl
theorem retV_2 (x y : AV) (r : List AV) : retV (x :: y :: r) = mkTup (x :: y :: r) := _root_.id rfl
def cons2 : Option AV → Option (List AV) → Option (List AV)
  | some a, some b => some (a :: b)
  | _, _ => none
theorem cons2_some (a : AV) (b : List AV) : cons2 (some a) (some b) = some (a :: b) := _root_.id rfl
theorem resVs_nil (s : St) : resVs G s [] = some [] := _root_.id rfl
theorem resVs_cons (e : List (Nat × AV)) (σ : List (Nat × Blk)) (n : Nat) (r : ARes) (q : List ARes) : resVs G ⟨e, σ, n⟩ (r :: q) = cons2 (resE G e σ r) (resVs G ⟨e, σ, n⟩ q) := by
  have : resV G ⟨e, σ, n⟩ r = resE G e σ r := by cases r <;> rfl
  show (match resV G ⟨e, σ, n⟩ r, resVs G ⟨e, σ, n⟩ q with | some a, some b => some (a :: b) | _, _ => none) = _
  rw [this]
  cases resE G e σ r <;> cases resVs G ⟨e, σ, n⟩ q <;> rfl
theorem pureR_eq (r : PV) (v : AV) (σ : List (Nat × Blk)) (n : Nat) : pureR r v σ n = isR r σ v := _root_.id rfl
theorem isR_pv (r p : PV) (σ : List (Nat × Blk)) : isR r σ (.pv p) = Nz p r := propext ⟨fun ⟨q, h, g⟩ => by cases h; exact g, fun h => ⟨(p, []), rfl, h⟩⟩
theorem isR_olist (r : PV) (k sz : Nat) (l : List PV) (σ : List (Nat × Blk)) : isR r σ (.olist k sz l) = Nz (.list l) r := propext ⟨fun ⟨q, h, g⟩ => by cases h; exact g, fun h => ⟨(.list l, []), rfl, h⟩⟩
def isRF (r : PV) : Option (PV × List Nat) → Prop
  | some q => Nz q.1 r
  | none => False
theorem isRF_some (r p : PV) (l : List Nat) : isRF r (some (p, l)) = Nz p r := _root_.id rfl
theorem isR_frz (r : PV) (σ : List (Nat × Blk)) (v : AV) : isR r σ v = isRF r (frzV (fun r => lookB r σ) v) := by
  unfold isR isRF
  cases frzV (fun r => lookB r σ) v with
  | none => simp
  | some q => simp
theorem isR_agg (r : PV) (cs : List AV) (σ : List (Nat × Blk)) : isR r σ (.agg cs) = isRF r ((frzL (fun r => lookB r σ) cs).map fun p => (.agg p.1, p.2)) := isR_frz _ _ _
theorem isR_row (r : PV) (k sz len : Nat) (σ : List (Nat × Blk)) : isR r σ (.row k sz 0 len) = isRF r (frzB sz len k (lookB k σ)) := isR_frz _ _ _
def initE : List AV → Nat → List (Nat × AV)
  | [], _ => []
  | x :: r, k => (k, x) :: initE r (k + 1)
theorem initE_nil (k : Nat) : initE [] k = [] := _root_.id rfl
theorem initE_cons (x : AV) (r : List AV) (k : Nat) : initE (x :: r) k = (k, x) :: initE r (k + 1) := _root_.id rfl
theorem initE_z : ∀ (args : List AV) (k : Nat), ((args.zipIdx k).map fun p => (p.2, p.1)) = initE args k
  | [], k => rfl
  | x :: r, k => by rw [List.zipIdx_cons, List.map_cons, initE_z r (k + 1)]; rfl
theorem initEnv_eq (args : List AV) : initEnv args = initE args 0 := initE_z args 0
theorem vc_wk {ι : Type} (S : ι → St) (Inv : ι → Prop) (μ : ι → Nat) (x0 : ι) {m0 : Nat} {keep : List Nat} {b : ACode} {Q : AExit → St → Prop} {s : St} (h0 : Wk m0 s (S x0)) (hi : Inv x0)
    (h : ∀ x, Inv x → vc P G m0 b (fun e s' => match e with
      | .norm => ∃ x', Wk m0 s' (S x') ∧ Inv x' ∧ μ x' < μ x
      | .exit i => Q (.exit i) s'
      | .ret => Q .ret s') (S x)) : vc P G m0 (.loop keep b) Q s := by
  refine ⟨fun n s => ∃ x, s = S x ∧ Inv x ∧ μ x = n, ⟨μ x0, S x0, h0, x0, rfl, hi, rfl⟩, ?_⟩
  rintro n s ⟨x, rfl, hx, rfl⟩
  refine vc_mono b (fun e s' hs => ?_) _ (h x hx)
  cases e with
  | norm =>
    obtain ⟨x', h1, h2, h3⟩ := hs
    exact ⟨_, _, h3, h1, x', rfl, h2, rfl⟩
  | exit i => exact ⟨s', Wk.of (Wx.refl s') m0, hs⟩
  | ret => exact hs
def Hd (A : List (Nat × Nat × Nat × Nat)) (m0 : Nat) (keep : List Nat) (s t : St) : Prop := Wk m0 s t
theorem hd_z {A : List (Nat × Nat × Nat × Nat)} {m0 : Nat} {keep : List Nat} {s t : St} (h : StZ (normA A m0 keep s) t) : Hd A m0 keep s t := Wk.head h
def RoundA {ι : Type} (A : List (Nat × Nat × Nat × Nat)) (S : ι → St) (Inv : ι → Prop) (μ : ι → Nat) (x : ι) (m0 : Nat) (keep : List Nat) (Q : AExit → St → Prop) : AExit → St → Prop
  | .norm, s' => ∃ x', Hd A m0 keep s' (S x') ∧ Inv x' ∧ μ x' < μ x
  | .exit i, s' => Q (.exit i) s'
  | .ret, s' => Q .ret s'
theorem RoundA_norm {ι : Type} (A : List (Nat × Nat × Nat × Nat)) (S : ι → St) (Inv : ι → Prop) (μ : ι → Nat) (x : ι) (m0 : Nat) (keep : List Nat) (Q : AExit → St → Prop) (s : St) : RoundA A S Inv μ x m0 keep Q .norm s = ∃ x', Hd A m0 keep s (S x') ∧ Inv x' ∧ μ x' < μ x := _root_.id rfl
theorem RoundA_exit {ι : Type} (A : List (Nat × Nat × Nat × Nat)) (S : ι → St) (Inv : ι → Prop) (μ : ι → Nat) (x : ι) (m0 : Nat) (keep : List Nat) (Q : AExit → St → Prop) (i : Nat) (s : St) : RoundA A S Inv μ x m0 keep Q (.exit i) s = Q (.exit i) s := _root_.id rfl
theorem RoundA_ret {ι : Type} (A : List (Nat × Nat × Nat × Nat)) (S : ι → St) (Inv : ι → Prop) (μ : ι → Nat) (x : ι) (m0 : Nat) (keep : List Nat) (Q : AExit → St → Prop) (s : St) : RoundA A S Inv μ x m0 keep Q .ret s = Q .ret s := _root_.id rfl
theorem vc_roundA {ι : Type} (A : List (Nat × Nat × Nat × Nat)) (S : ι → St) (Inv : ι → Prop) (μ : ι → Nat) (x0 : ι) {m0 : Nat} {keep : List Nat} {b : ACode} {Q : AExit → St → Prop} {s : St} (h0 : Hd A m0 keep s (S x0)) (hi : Inv x0)
    (h : ∀ x, Inv x → vc P G m0 b (RoundA A S Inv μ x m0 keep Q) (S x)) : vc P G m0 (.loop keep b) Q s := by
  refine vc_wk S Inv μ x0 h0 hi fun x hx => ?_
  have e : (fun (e : AExit) (s' : St) => match e with
      | .norm => ∃ x', Wk m0 s' (S x') ∧ Inv x' ∧ μ x' < μ x
      | .exit i => Q (.exit i) s'
      | .ret => Q .ret s') = RoundA A S Inv μ x m0 keep Q := by
    funext e s'
    cases e <;> rfl
  rw [e]; exact h x hx
def pickE (k : Nat) (x : AV) : List (Nat × AV) → AV
  | [] => x
  | p :: r => if p.1 = k then p.2 else pickE k x r
def overE : List (Nat × AV) → List (Nat × AV) → List (Nat × AV)
  | [], _ => []
  | p :: r, ch => (p.1, pickE p.1 p.2 ch) :: overE r ch
def pickB (k : Nat) (x : Blk) : List (Nat × Blk) → Blk
  | [] => x
  | p :: r => if p.1 = k then p.2 else pickB k x r
def overB : List (Nat × Blk) → List (Nat × Blk) → List (Nat × Blk)
  | [], _ => []
  | p :: r, ch => (p.1, pickB p.1 p.2 ch) :: overB r ch
theorem pickE_nil (k : Nat) (x : AV) : pickE k x [] = x := _root_.id rfl
theorem pickE_cons (k j : Nat) (x y : AV) (r : List (Nat × AV)) : pickE k x ((j, y) :: r) = if j = k then y else pickE k x r := _root_.id rfl
theorem overE_nil (ch : List (Nat × AV)) : overE [] ch = [] := _root_.id rfl
theorem overE_cons (k : Nat) (x : AV) (r ch : List (Nat × AV)) : overE ((k, x) :: r) ch = (k, pickE k x ch) :: overE r ch := _root_.id rfl
theorem pickB_nil (k : Nat) (x : Blk) : pickB k x [] = x := _root_.id rfl
theorem pickB_cons (k j : Nat) (x y : Blk) (r : List (Nat × Blk)) : pickB k x ((j, y) :: r) = if j = k then y else pickB k x r := _root_.id rfl
theorem overB_nil (ch : List (Nat × Blk)) : overB [] ch = [] := _root_.id rfl
theorem overB_cons (k : Nat) (x : Blk) (r ch : List (Nat × Blk)) : overB ((k, x) :: r) ch = (k, pickB k x ch) :: overB r ch := _root_.id rfl
theorem vc_over {ι : Type} (A : List (Nat × Nat × Nat × Nat)) (ch : ι → List (Nat × AV)) (chB : ι → List (Nat × Blk)) (Inv : ι → Prop) (μ : ι → Nat) (x0 : ι) {m0 : Nat} {keep : List Nat} {b : ACode} {Q : AExit → St → Prop} {s : St}
    (h : ∀ e0 σ0 n0, normA A m0 keep s = ⟨e0, σ0, n0⟩ → StZ ⟨e0, σ0, n0⟩ ⟨overE e0 (ch x0), overB σ0 (chB x0), n0⟩ ∧ Inv x0 ∧
      ∀ x, Inv x → vc P G m0 b (RoundA A (fun x => ⟨overE e0 (ch x), overB σ0 (chB x), n0⟩) Inv μ x m0 keep Q) ⟨overE e0 (ch x), overB σ0 (chB x), n0⟩) : vc P G m0 (.loop keep b) Q s := by
  obtain ⟨h1, h2, h3⟩ := h (normA A m0 keep s).env (normA A m0 keep s).sto (normA A m0 keep s).next rfl
  exact vc_roundA A (fun x => ⟨overE (normA A m0 keep s).env (ch x), overB (normA A m0 keep s).sto (chB x), (normA A m0 keep s).next⟩) Inv μ x0 (hd_z h1) h2 h3
end
end Go.Ab
set_option linter.unusedVariables false
set_option linter.unusedSimpArgs false
namespace Go.Ab
open Go Go.RowKit
theorem rMin_min (k k' : IntKind) (x y : Int) : rMin (.pv (.int k x)) (.pv (.int k' y)) = some (.pv (.int k (min x y))) := by
  simp only [rMin, Option.some.injEq, AV.pv.injEq, PV.int.injEq, true_and]
  split <;> omega
theorem rMax_max (k k' : IntKind) (x y : Int) : rMax (.pv (.int k x)) (.pv (.int k' y)) = some (.pv (.int k (max x y))) := by
  simp only [rMax, Option.some.injEq, AV.pv.injEq, PV.int.injEq, true_and]
  split <;> omega
theorem toNat_minN (a : Nat) (b : Int) : (min (a : Int) b).toNat = min a b.toNat := by omega
theorem toNat_minN' (a : Nat) (b : Int) : (min b (a : Int)).toNat = min b.toNat a := by omega
theorem take_minL {α : Type} (l : List α) (n : Nat) : l.take (min l.length n) = l.take n := by
  rcases Nat.le_total l.length n with h | h
  · rw [Nat.min_eq_left h, List.take_length, List.take_of_length_le h]
  · rw [Nat.min_eq_right h]
theorem take_minR {α : Type} (l : List α) (n : Nat) : l.take (min n l.length) = l.take n := by rw [Nat.min_comm, take_minL]
theorem map_take {α β : Type} (f : α → β) (l : List α) (n : Nat) : (l.map f).take n = (l.take n).map f := List.map_take.symm
theorem map_drop {α β : Type} (f : α → β) (l : List α) (n : Nat) : (l.map f).drop n = (l.drop n).map f := List.map_drop.symm
theorem omap_none {α β : Type} (f : α → β) : (none : Option α).map f = none := _root_.id rfl
def appRow (mu : Bool) (e sz by_ new : Nat) (σ : Store) (x : AV) : Option (List PV) → Option (AV × List (Nat × Blk))
  | some ys => match mu, x with
    | false, .pv .nils => match ys with
      | [] => some (.pv .nils, [])
      | y :: r => if room 0 (r.length + 1) by_ = true then some (.olist new sz (y :: r), [(new, .tok e sz)]) else none
    | false, .olist q s l => match σ q with
      | .tok e' sz' => if e' = e ∧ sz' = sz ∧ s = sz ∧ room l.length ys.length by_ = true then some (.olist new sz (l ++ ys), [(q, .none), (new, .tok e sz)]) else none
      | _ => none
    | true, .pv .nils => match ys with
      | [] => some (.pv .nils, [])
      | y :: r => if room 0 (r.length + 1) by_ = true then some (.row new sz 0 (r.length + 1), [(new, .cells e false (flat (y :: r)))]) else none
    | true, .row q s off len => match σ q with
      | .cells e' _ l => if e' = e ∧ s = sz ∧ off = 0 ∧ len * sz ≤ l.length ∧ room len ys.length by_ = true then some (.row new sz 0 (len + ys.length), [(q, .none), (new, .cells e false (l.take (len * sz) ++ flat ys))]) else none
      | _ => none
    | _, _ => none
  | none => none
def appOl (e sz by_ new q s : Nat) (l ys : List PV) : Blk → Option (AV × List (Nat × Blk))
  | .tok e' sz' => if e' = e ∧ sz' = sz ∧ s = sz ∧ room l.length ys.length by_ = true then some (.olist new sz (l ++ ys), [(q, .none), (new, .tok e sz)]) else none
  | _ => none
def appRw (e sz by_ new q s off len : Nat) (ys : List PV) : Blk → Option (AV × List (Nat × Blk))
  | .cells e' _ l => if e' = e ∧ s = sz ∧ off = 0 ∧ len * sz ≤ l.length ∧ room len ys.length by_ = true then some (.row new sz 0 (len + ys.length), [(q, .none), (new, .cells e false (l.take (len * sz) ++ flat ys))]) else none
  | _ => none
theorem rAppend_eq (mu : Bool) (e sz by_ new : Nat) (σ : Store) (x y : AV) : rAppend mu e sz by_ new σ x y = appRow mu e sz by_ new σ x (elemsOf σ sz y) := by
  unfold rAppend appRow
  cases elemsOf σ sz y <;> rfl
theorem app_ol (e sz by_ new : Nat) (σ : Store) (q s : Nat) (l ys : List PV) : appRow false e sz by_ new σ (.olist q s l) (some ys) = appOl e sz by_ new q s l ys (σ q) := by
  simp only [appRow, appOl]
theorem appOl_ok {e sz by_ new q : Nat} {l ys : List PV} (h1 : l.length + ys.length ≤ 9223372036854775807) (h2 : (l.length + ys.length) * by_ ≤ 140737488355328) : appOl e sz by_ new q sz l ys (.tok e sz) = some (.olist new sz (l ++ ys), [(q, .none), (new, .tok e sz)]) := by
  simp [appOl, room_ok h1 h2]
theorem app_nil0 (e sz by_ new : Nat) (σ : Store) : appRow false e sz by_ new σ (.pv .nils) (some []) = some (.pv .nils, []) := _root_.id rfl
theorem app_nil1 {e sz by_ new : Nat} {σ : Store} {y : PV} {r : List PV} (h1 : r.length + 1 ≤ 9223372036854775807) (h2 : (r.length + 1) * by_ ≤ 140737488355328) : appRow false e sz by_ new σ (.pv .nils) (some (y :: r)) = some (.olist new sz (y :: r), [(new, .tok e sz)]) := by
  simp only [appRow]; rw [if_pos (room_ok (by omega) (by simpa using h2))]
theorem app_row (e sz by_ new : Nat) (σ : Store) (q s off len : Nat) (ys : List PV) : appRow true e sz by_ new σ (.row q s off len) (some ys) = appRw e sz by_ new q s off len ys (σ q) := by
  simp only [appRow, appRw]
theorem appRw_ok {e sz by_ new q len : Nat} {f : Bool} {l : List AV} {ys : List PV} (h0 : len * sz ≤ l.length) (h1 : len + ys.length ≤ 9223372036854775807) (h2 : (len + ys.length) * by_ ≤ 140737488355328) :
    appRw e sz by_ new q sz 0 len ys (.cells e f l) = some (.row new sz 0 (len + ys.length), [(q, .none), (new, .cells e false (l.take (len * sz) ++ flat ys))]) := by
  simp [appRw, h0, room_ok h1 h2]
theorem appRw_zero {e sz by_ new q : Nat} {f : Bool} {l : List AV} {ys : List PV} (h1 : ys.length ≤ 9223372036854775807) (h2 : ys.length * by_ ≤ 140737488355328) :
    appRw e sz by_ new q sz 0 0 ys (.cells e f l) = some (.row new sz 0 ys.length, [(q, .none), (new, .cells e false (flat ys))]) := by
  have := room_ok (n := 0) (m := ys.length) (by_ := by_) (by omega) (by simpa using h2)
  simp [appRw, this]
def elemsChk (l : List PV) : Bool → Option (List PV)
  | true => some l
  | false => none
theorem elems_nils (σ : Store) (sz : Nat) : elemsOf σ sz (.pv .nils) = some [] := _root_.id rfl
theorem elems_list (σ : Store) (sz : Nat) (l : List PV) : elemsOf σ sz (.pv (.list l)) = elemsChk l (l.all fun y => y.cells.length == sz) := by
  simp only [elemsOf]
  cases l.all (fun y => y.cells.length == sz) <;> rfl
theorem elemsChk_t (l : List PV) : elemsChk l true = some l := _root_.id rfl
theorem elems_olist (σ : Store) (sz r : Nat) (l : List PV) : elemsOf σ sz (.olist r sz l) = some l := by simp [elemsOf]
def bslC (e sz new : Nat) : Option (List PV) → Option (AV × List (Nat × Blk))
  | some ps => if ps.all (fun p => p.cells.length == sz && p.cells.all PV.one) = true then some (.olist new sz ps, [(new, .tok e sz)]) else none
  | none => none
theorem bsl_f {e sz len new : Nat} {vs : List AV} (h : vs.length = len) (h2 : len ≤ 9223372036854775807) : rBslice false e sz len new vs = bslC e sz new (pvs vs) := by
  simp only [rBslice, h, h2, true_and, if_true, bslC]
  cases pvs vs <;> rfl
def bslD (e sz new : Nat) (ps : List PV) : Bool → Option (AV × List (Nat × Blk))
  | true => some (.olist new sz ps, [(new, .tok e sz)])
  | false => none
theorem bslD_t (e sz new : Nat) (ps : List PV) : bslD e sz new ps true = some (.olist new sz ps, [(new, .tok e sz)]) := _root_.id rfl
theorem bslC_some (e sz new : Nat) (ps : List PV) : bslC e sz new (some ps) = bslD e sz new ps (ps.all fun p => p.cells.length == sz && p.cells.all PV.one) := by
  simp only [bslC]
  cases ps.all (fun p => p.cells.length == sz && p.cells.all PV.one) <;> rfl
theorem bslC_none (e sz new : Nat) : bslC e sz new none = none := _root_.id rfl
theorem bsl_t0 {e sz new : Nat} : rBslice true e sz 0 new [] = some (.row new sz 0 0, [(new, .cells e true [])]) := by
  simp [rBslice]
theorem one_bool (b : Bool) : PV.one (.bool b) = true := _root_.id rfl
theorem one_int (k : IntKind) (n : Int) : PV.one (.int k n) = true := _root_.id rfl
theorem one_str (s : List UInt8) : PV.one (.str s) = true := _root_.id rfl
theorem one_nils : PV.one .nils = true := _root_.id rfl
theorem one_list (l : List PV) : PV.one (.list l) = true := _root_.id rfl
theorem oneA_pv (p : PV) : AV.one (.pv p) = p.one := _root_.id rfl
theorem oneA_ptr (r o : Nat) : AV.one (.ptr r o) = true := _root_.id rfl
theorem oneA_row (r s o n : Nat) : AV.one (.row r s o n) = true := _root_.id rfl
theorem oneA_olist (r s : Nat) (l : List PV) : AV.one (.olist r s l) = true := _root_.id rfl
theorem oneA_clo (f : Nat) (a b : List AV) : AV.one (.clo f a b) = true := _root_.id rfl
def onCut (sz : Nat) (l : List PV) (h : Nat) : Option Nat → Option AV
  | some a => if szOk sz l a = true then some (.pv (.list ((l.take h).drop a))) else none
  | none => none
def onCutH (sz : Nat) (l : List PV) (lo : Option AV) : Option Nat → Option AV
  | some h => onCut sz l h (rBound 0 h lo)
  | none => none
theorem rSliceL_list (sz : Nat) (l : List PV) (lo hi : Option AV) : rSliceL sz (.pv (.list l)) lo hi = onCutH sz l lo (rBound l.length l.length hi) := by
  show rCut sz l lo hi = _
  unfold rCut onCutH onCut
  cases rBound l.length l.length hi with
  | none => rfl
  | some h => simp only; cases rBound 0 h lo <;> rfl
theorem rSliceL_olist (sz r s : Nat) (l : List PV) (lo hi : Option AV) : rSliceL sz (.olist r s l) lo hi = onCutH sz l lo (rBound l.length l.length hi) := by
  show rCut sz l lo hi = _
  unfold rCut onCutH onCut
  cases rBound l.length l.length hi with
  | none => rfl
  | some h => simp only; cases rBound 0 h lo <;> rfl
theorem onCutH_some (sz : Nat) (l : List PV) (lo : Option AV) (h : Nat) : onCutH sz l lo (some h) = onCut sz l h (rBound 0 h lo) := _root_.id rfl
theorem onCut_zero (sz : Nat) (l : List PV) (h : Nat) : onCut sz l h (some 0) = some (.pv (.list (l.take h))) := by
  simp [onCut, szOk]
theorem onCut_some {sz : Nat} {l : List PV} {h a : Nat} (hs : szOk sz l a = true) : onCut sz l h (some a) = some (.pv (.list ((l.take h).drop a))) := if_pos hs
theorem onElem_ite (sz : Nat) (l : List PV) (i : Nat) (y : PV) : onElem sz l i (some y) = if y.cells.length = sz then some (.pv (.eptr l i 0)) else none := _root_.id rfl
theorem all_mapF {α β : Type} (f : α → β) (p : β → Bool) (l : List α) : (l.map f).all p = l.all fun x => p (f x) := by
  rw [List.all_map]; rfl
theorem all_tt {α : Type} (l : List α) : (l.all fun _ => true) = true := by simp
theorem beq_nn (n : Nat) : (n == n) = true := by simp
def loadI (sz : Nat) (e : PV) : Bool → Option AV
  | true => some (.pv e)
  | false => partA true sz 0 (e.cells.map .pv)
theorem loadI_t (sz : Nat) (e : PV) : loadI sz e true = some (.pv e) := _root_.id rfl
theorem loadE_t0 (sz : Nat) (e : PV) : loadE true sz 0 e = loadI sz e (e.isAgg && decide (e.cells.length = sz)) := by
  simp only [loadE, true_and]
  by_cases h : e.isAgg = true ∧ e.cells.length = sz
  · rw [if_pos h, h.1, decide_eq_true h.2]; rfl
  · rw [if_neg h]
    have : (e.isAgg && decide (e.cells.length = sz)) = false := by
      rw [Bool.eq_false_iff]
      intro hh
      simp only [Bool.and_eq_true, decide_eq_true_eq] at hh
      exact h hh
    rw [this]; rfl
theorem isAgg_agg (cs : List PV) : (PV.agg cs).isAgg = true := _root_.id rfl
theorem flat_map_len {α : Type} {sz : Nat} {f : α → PV} (hf : ∀ x, (f x).cells.length = sz) (l : List α) : (flat (l.map f)).length = l.length * sz := by
  have := flat_len (sz := sz) ((l.map f).map PV.cells) (by
    intro y hy
    simp only [List.mem_map] at hy
    obtain ⟨p, ⟨s, _, rfl⟩, rfl⟩ := hy
    exact hf s)
  simp only [flat, List.length_map, List.flatMap_def] at this ⊢
  exact this
def fzO (σ : Store) : Option AV → Option (AV × List (Nat × Blk))
  | some v => (frzV σ v).map frzD
  | none => none
theorem fRun_n (G : Nat → List PV) (σ : Store) (v : AV) : fRun G σ none v = (frzV σ v).map frzD := _root_.id rfl
theorem fRun_l (G : Nat → List PV) (σ : Store) (g : Bool) (sz : Nat) (v : AV) : fRun G σ (some (g, sz)) v = fzO σ (rLoad G g sz σ v) := by
  simp only [fRun, fzO]; cases rLoad G g sz σ v <;> rfl
theorem fzO_some (σ : Store) (v : AV) : fzO σ (some v) = (frzV σ v).map frzD := _root_.id rfl
theorem frzV_agg (σ : Store) (cs : List AV) : frzV σ (.agg cs) = (frzL σ cs).map fun p => (.agg p.1, p.2) := _root_.id rfl
theorem frzV_pv (σ : Store) (p : PV) : frzV σ (.pv p) = some (p, []) := _root_.id rfl
theorem frzV_ol (σ : Store) (r s : Nat) (l : List PV) : frzV σ (.olist r s l) = some (.list l, []) := _root_.id rfl
theorem frzV_row (σ : Store) (r s n : Nat) : frzV σ (.row r s 0 n) = frzB s n r (σ r) := _root_.id rfl
theorem frzC_pv (σ : Store) (p : PV) : frzC σ (.pv p) = some (p, []) := _root_.id rfl
theorem frzC_ol (σ : Store) (r s : Nat) (l : List PV) : frzC σ (.olist r s l) = some (.list l, []) := _root_.id rfl
theorem frzC_row (σ : Store) (r s n : Nat) : frzC σ (.row r s 0 n) = frzB s n r (σ r) := _root_.id rfl
theorem frzL_nil (σ : Store) : frzL σ [] = some ([], []) := _root_.id rfl
theorem frzL_cons (σ : Store) (x : AV) (r : List AV) : frzL σ (x :: r) = frz2 (frzC σ x) (frzL σ r) := _root_.id rfl
theorem frz2_some (p : PV) (a : List Nat) (q : List PV) (b : List Nat) : frz2 (some (p, a)) (some (q, b)) = some (p :: q, a ++ b) := _root_.id rfl
theorem frzD_eq (p : PV) (l : List Nat) : frzD (p, l) = (.pv p, l.map fun r => (r, .none)) := _root_.id rfl
theorem frzB_map {α : Type} {sz : Nat} {f : α → PV} (hf : ∀ x, ∃ cs, f x = .agg cs ∧ cs.length = sz ∧ ∀ p ∈ cs, p.one = true) (hsz : 2 ≤ sz) (l : List α) {n r T : Nat} {b : Bool} (hn : n = l.length) :
    frzB sz n r (.cells T b (flat (l.map f))) = some (.list (l.map f), [r]) := by
  have hlen := flat_map_len (sz := sz) (f := f) (fun x => by obtain ⟨cs, h1, h2, _⟩ := hf x; rw [h1]; exact h2) l
  subst hn
  have hone : (flat (l.map f)).all AV.one = true := by
    rw [List.all_eq_true]
    intro x hx
    simp only [flat, List.mem_map, List.mem_flatMap] at hx
    obtain ⟨p, ⟨q, ⟨s, _, rfl⟩, hq⟩, rfl⟩ := hx
    obtain ⟨cs, h1, h2, h3⟩ := hf s
    rw [h1] at hq
    exact h3 p hq
  have hpv : pvs (flat (l.map f)) = some ((l.map f).flatMap PV.cells) := pvs_map _
  have hch : ∀ l : List α, chunk sz l.length ((l.map f).flatMap PV.cells) = l.map f := by
    intro l
    induction l with
    | nil => rfl
    | cons x r ih =>
      obtain ⟨cs, h1, h2, _⟩ := hf x
      simp only [List.length_cons, chunk, List.map_cons, List.flatMap_cons, h1, cells_agg]
      rw [if_neg (by omega), List.take_left' h2, List.drop_left' h2, ih]
  simp only [frzB]
  rw [if_pos ⟨by omega, by omega, by rw [List.take_of_length_le (by omega)]; exact hone⟩, List.take_of_length_le (by omega), hpv]
  simp [hch]
theorem names_pv (p : PV) : (AV.pv p).names = [] := _root_.id rfl
theorem names_ptr (r o : Nat) : (AV.ptr r o).names = [r] := _root_.id rfl
theorem names_row (r a b c : Nat) : (AV.row r a b c).names = [r] := _root_.id rfl
theorem names_ol (r a : Nat) (l : List PV) : (AV.olist r a l).names = [r] := _root_.id rfl
theorem names_agg (cs : List AV) : (AV.agg cs).names = AV.namesL cs := by simp only [AV.names]
theorem names_tup (cs : List AV) : (AV.tup cs).names = AV.namesL cs := by simp only [AV.names]
theorem names_clo (f : Nat) (fs cs : List AV) : (AV.clo f fs cs).names = AV.namesL fs ++ AV.namesL cs := by simp only [AV.names]
theorem names_any : AV.any.names = [] := _root_.id rfl
theorem namesL_nil : AV.namesL [] = [] := _root_.id rfl
theorem namesL_cons (x : AV) (r : List AV) : AV.namesL (x :: r) = x.names ++ AV.namesL r := by simp only [AV.namesL]
theorem namesL_pv : ∀ l : List PV, AV.namesL (l.map .pv) = []
  | [] => rfl
  | x :: r => by rw [List.map_cons, namesL_cons, namesL_pv r]; rfl
theorem namesL_flat (l : List PV) : AV.namesL (flat l) = [] := namesL_pv _
theorem namesB_cells (T : Nat) (f : Bool) (l : List AV) : (Blk.cells T f l).names = AV.namesL l := _root_.id rfl
theorem namesB_tok (e s : Nat) : (Blk.tok e s).names = [] := _root_.id rfl
theorem namesB_none : Blk.none.names = [] := _root_.id rfl
theorem addN_nil (acc : List Nat) : addNames acc [] = acc := _root_.id rfl
def addN1 (acc : List Nat) (n : Nat) : Bool → List Nat
  | true => acc
  | false => acc ++ [n]
theorem contains_mem (x : Nat) : ∀ l : List Nat, l.contains x = memN x l
  | [] => rfl
  | y :: r => by
    rw [List.contains_cons, contains_mem x r, memN_cons]
    by_cases h : y = x
    · simp [h]
    · have h' : ¬ x = y := fun e => h e.symm
      simp [h, h']
theorem addN_cons (acc : List Nat) (n : Nat) (r : List Nat) : addNames acc (n :: r) = addNames (addN1 acc n (memN n acc)) r := by
  simp only [addNames, contains_mem]
  cases memN n acc <;> rfl
theorem addN1_t (acc : List Nat) (n : Nat) : addN1 acc n true = acc := _root_.id rfl
theorem addN1_f (acc : List Nat) (n : Nat) : addN1 acc n false = acc ++ [n] := _root_.id rfl
def geN (m0 : Nat) : List Nat → List Nat
  | [] => []
  | x :: r => if m0 ≤ x then x :: geN m0 r else geN m0 r
theorem geN_nil (m0 : Nat) : geN m0 [] = [] := _root_.id rfl
theorem geN_cons (m0 x : Nat) (r : List Nat) : geN m0 (x :: r) = if m0 ≤ x then x :: geN m0 r else geN m0 r := _root_.id rfl
theorem geN_eq (m0 : Nat) : ∀ l : List Nat, l.filter (fun r => decide (m0 ≤ r)) = geN m0 l
  | [] => rfl
  | x :: r => by rw [List.filter_cons, geN_eq m0 r, geN_cons]; simp
def blkNames (sto : List (Nat × Blk)) : List Nat → List Nat
  | [] => []
  | r :: q => (lookB r sto).names ++ blkNames sto q
theorem blkNames_nil (sto : List (Nat × Blk)) : blkNames sto [] = [] := _root_.id rfl
theorem blkNames_cons (sto : List (Nat × Blk)) (r : Nat) (q : List Nat) : blkNames sto (r :: q) = (lookB r sto).names ++ blkNames sto q := _root_.id rfl
theorem blkNames_eq (sto : List (Nat × Blk)) : ∀ l : List Nat, (l.flatMap fun r => (lookB r sto).names) = blkNames sto l
  | [] => rfl
  | r :: q => by rw [List.flatMap_cons, blkNames_eq sto q, blkNames_cons]
theorem reach_0 (m0 : Nat) (sto : List (Nat × Blk)) (acc : List Nat) : reachN m0 sto 0 acc = acc := _root_.id rfl
theorem reach_s (m0 : Nat) (sto : List (Nat × Blk)) (k : Nat) (acc : List Nat) : reachN m0 sto (k + 1) acc = reachN m0 sto k (addNames acc (geN m0 (blkNames sto acc))) := by
  rw [← geN_eq, ← blkNames_eq]; rfl
def envNames (e : List (Nat × AV)) : List Nat → List Nat
  | [] => []
  | k :: r => (look k e).names ++ envNames e r
theorem envNames_nil (e : List (Nat × AV)) : envNames e [] = [] := _root_.id rfl
theorem envNames_cons (e : List (Nat × AV)) (k : Nat) (r : List Nat) : envNames e (k :: r) = (look k e).names ++ envNames e r := _root_.id rfl
theorem envNames_eq (e : List (Nat × AV)) (σ : List (Nat × Blk)) (n : Nat) : ∀ l : List Nat, (l.flatMap fun i => ((⟨e, σ, n⟩ : St).E i).names) = envNames e l
  | [] => rfl
  | k :: r => by rw [List.flatMap_cons, envNames_eq e σ n r]; rfl
def rngN : Nat → Nat → List Nat
  | 0, _ => []
  | n + 1, k => k :: rngN n (k + 1)
theorem rng_0 (k : Nat) : rngN 0 k = [] := _root_.id rfl
theorem rng_s (n k : Nat) : rngN (n + 1) k = k :: rngN n (k + 1) := _root_.id rfl
theorem rng_eq' : ∀ n k : Nat, rngN n k = List.range' k n
  | 0, k => rfl
  | n + 1, k => by rw [rng_s, rng_eq' n, List.range'_succ]
theorem rng_eq (n : Nat) : List.range n = rngN n 0 := by rw [rng_eq', List.range_eq_range']
theorem olds_eq (m0 : Nat) (keep : List Nat) (e : List (Nat × AV)) (σ : List (Nat × Blk)) (n : Nat) : olds m0 keep ⟨e, σ, n⟩ = reachN m0 σ σ.length (addNames [] (geN m0 (envNames e keep ++ blkNames σ (rngN m0 0)))) := by
  rw [← geN_eq, ← envNames_eq e σ n, ← blkNames_eq, ← rng_eq]; rfl
def normE (f : Nat → Option Nat) (e : List (Nat × AV)) : List Nat → List (Nat × AV)
  | [] => []
  | k :: r => (k, (look k e).ren f) :: normE f e r
theorem normE_nil (f : Nat → Option Nat) (e : List (Nat × AV)) : normE f e [] = [] := _root_.id rfl
theorem normE_cons (f : Nat → Option Nat) (e : List (Nat × AV)) (k : Nat) (r : List Nat) : normE f e (k :: r) = (k, (look k e).ren f) :: normE f e r := _root_.id rfl
def normO (m0 : Nat) (keep : List Nat) (e : List (Nat × AV)) (σ : List (Nat × Blk)) (os : List Nat) : St := ⟨normE (newName m0 os) e keep, renSto m0 (newName m0 os) σ (rngN m0 0 ++ os) 0, m0 + os.length⟩
theorem norm_eq (m0 : Nat) (keep : List Nat) (e : List (Nat × AV)) (σ : List (Nat × Blk)) (n : Nat) : norm m0 keep ⟨e, σ, n⟩ = normO m0 keep e σ (reachN m0 σ σ.length (addNames [] (geN m0 (envNames e keep ++ blkNames σ (rngN m0 0))))) := by
  rw [← olds_eq m0 keep e σ n]
  have hE : ∀ (f : Nat → Option Nat) (l : List Nat), (l.map fun i => (i, ((⟨e, σ, n⟩ : St).E i).ren f)) = normE f e l := by
    intro f l
    induction l with
    | nil => rfl
    | cons k r ih => rw [List.map_cons, ih]; rfl
  simp only [norm, normO, hE, rng_eq]
theorem normO_c (m0 : Nat) (keep : List Nat) (e : List (Nat × AV)) (σ : List (Nat × Blk)) (x : Nat) (r : List Nat) : normO m0 keep e σ (x :: r) = ⟨normE (newName m0 (x :: r)) e keep, renSto m0 (newName m0 (x :: r)) σ (rngN m0 0 ++ (x :: r)) 0, m0 + (x :: r).length⟩ := _root_.id rfl
theorem normO_n (m0 : Nat) (keep : List Nat) (e : List (Nat × AV)) (σ : List (Nat × Blk)) : normO m0 keep e σ [] = ⟨normE (newName m0 []) e keep, renSto m0 (newName m0 []) σ (rngN m0 0) 0, m0⟩ := by
  simp only [normO, List.append_nil]; rfl
theorem renSto_nil (m0 : Nat) (f : Nat → Option Nat) (σ : List (Nat × Blk)) (k : Nat) : renSto m0 f σ [] k = [] := _root_.id rfl
theorem renSto_cons (m0 : Nat) (f : Nat → Option Nat) (σ : List (Nat × Blk)) (r : Nat) (q : List Nat) (k : Nat) : renSto m0 f σ (r :: q) k = (k, (lookB r σ).ren f) :: renSto m0 f σ q (k + 1) := _root_.id rfl
theorem newName_eq (m0 : Nat) (os : List Nat) (r : Nat) : newName m0 os r = if r < m0 then some r else idxN r os m0 := _root_.id rfl
theorem idxN_nil (x k : Nat) : idxN x [] k = none := _root_.id rfl
theorem idxN_cons (x y : Nat) (r : List Nat) (k : Nat) : idxN x (y :: r) k = if y = x then some k else idxN x r (k + 1) := _root_.id rfl
def renP (o : Nat) : Option Nat → AV
  | some q => .ptr q o
  | none => .any
def renR (a b c : Nat) : Option Nat → AV
  | some q => .row q a b c
  | none => .any
def renO (a : Nat) (l : List PV) : Option Nat → AV
  | some q => .olist q a l
  | none => .pv (.list l)
theorem ren_pv (f : Nat → Option Nat) (p : PV) : (AV.pv p).ren f = .pv p := by simp only [AV.ren]
theorem ren_any (f : Nat → Option Nat) : AV.any.ren f = .any := by simp only [AV.ren]
theorem ren_ptr (f : Nat → Option Nat) (r o : Nat) : (AV.ptr r o).ren f = renP o (f r) := by simp only [AV.ren, renP] <;> (cases f r <;> rfl)
theorem ren_row (f : Nat → Option Nat) (r a b c : Nat) : (AV.row r a b c).ren f = renR a b c (f r) := by simp only [AV.ren, renR] <;> (cases f r <;> rfl)
theorem ren_ol (f : Nat → Option Nat) (r a : Nat) (l : List PV) : (AV.olist r a l).ren f = renO a l (f r) := by simp only [AV.ren, renO] <;> (cases f r <;> rfl)
theorem ren_agg (f : Nat → Option Nat) (cs : List AV) : (AV.agg cs).ren f = .agg (AV.renL f cs) := by simp only [AV.ren]
theorem ren_tup (f : Nat → Option Nat) (cs : List AV) : (AV.tup cs).ren f = .tup (AV.renL f cs) := by simp only [AV.ren]
theorem ren_clo (f : Nat → Option Nat) (g : Nat) (fs cs : List AV) : (AV.clo g fs cs).ren f = .clo g (AV.renL f fs) (AV.renL f cs) := by simp only [AV.ren]
theorem renP_some (o q : Nat) : renP o (some q) = .ptr q o := _root_.id rfl
theorem renR_some (a b c q : Nat) : renR a b c (some q) = .row q a b c := _root_.id rfl
theorem renO_some (a : Nat) (l : List PV) (q : Nat) : renO a l (some q) = .olist q a l := _root_.id rfl
theorem renL_nil (f : Nat → Option Nat) : AV.renL f [] = [] := _root_.id rfl
theorem renL_cons (f : Nat → Option Nat) (x : AV) (r : List AV) : AV.renL f (x :: r) = x.ren f :: AV.renL f r := by simp only [AV.renL]
theorem renL_pv (f : Nat → Option Nat) : ∀ l : List PV, AV.renL f (l.map .pv) = l.map .pv
  | [] => rfl
  | x :: r => by rw [List.map_cons, renL_cons, renL_pv f r, ren_pv]
theorem renL_flat (f : Nat → Option Nat) (l : List PV) : AV.renL f (flat l) = flat l := renL_pv f _
theorem renB_cells (f : Nat → Option Nat) (T : Nat) (b : Bool) (l : List AV) : (Blk.cells T b l).ren f = .cells T b (AV.renL f l) := _root_.id rfl
theorem renB_tok (f : Nat → Option Nat) (e s : Nat) : (Blk.tok e s).ren f = .tok e s := _root_.id rfl
theorem renB_none (f : Nat → Option Nat) : Blk.none.ren f = .none := _root_.id rfl
theorem normA_eq (A : List (Nat × Nat × Nat × Nat)) (m0 : Nat) (keep : List Nat) (s : St) : normA A m0 keep s = norm m0 keep (accs A s) := _root_.id rfl
theorem accs_nil (s : St) : accs [] s = s := _root_.id rfl
theorem accs_slot (k e sz : Nat) (r : List (Nat × Nat × Nat × Nat)) (env : List (Nat × AV)) (σ : List (Nat × Blk)) (n : Nat) : accs ((k, 0, e, sz) :: r) ⟨env, σ, n⟩ = accs r (accC k e sz ⟨env, σ, n⟩ (look k env)) := _root_.id rfl
theorem accs_cell (k j e sz : Nat) (r : List (Nat × Nat × Nat × Nat)) (env : List (Nat × AV)) (σ : List (Nat × Blk)) (n : Nat) : accs ((k, j + 1, e, sz) :: r) ⟨env, σ, n⟩ = accs r (accP j e sz ⟨env, σ, n⟩ (look k env)) := _root_.id rfl
theorem accC_nils (k e sz : Nat) (env : List (Nat × AV)) (σ : List (Nat × Blk)) (n : Nat) : accC k e sz ⟨env, σ, n⟩ (.pv .nils) = ⟨(k, nilAV n e sz) :: env, (n, nilBlk e sz) :: σ, n + 1⟩ := _root_.id rfl
theorem accC_row (k e sz r a b c : Nat) (s : St) : accC k e sz s (.row r a b c) = s := _root_.id rfl
theorem nilAV_l {n e sz : Nat} (h : e < 1000000) : nilAV n e sz = .olist n sz [] := if_pos h
theorem nilAV_r {n e sz : Nat} (h : 1000000 ≤ e) : nilAV n e sz = .row n sz 0 0 := if_neg (Nat.not_lt.2 h)
theorem nilBlk_l {e sz : Nat} (h : e < 1000000) : nilBlk e sz = .tok e sz := if_pos h
theorem nilBlk_r {e sz : Nat} (h : 1000000 ≤ e) : nilBlk e sz = .cells (e - 1000000) false [] := if_neg (Nat.not_lt.2 h)
theorem accC_ol (k e sz r a : Nat) (l : List PV) (s : St) : accC k e sz s (.olist r a l) = s := _root_.id rfl
theorem accP_ptr (o e sz r b : Nat) (env : List (Nat × AV)) (σ : List (Nat × Blk)) (n : Nat) : accP o e sz ⟨env, σ, n⟩ (.ptr r b) = accB r (b + o) e sz ⟨env, σ, n⟩ (lookB r σ) := _root_.id rfl
theorem accB_cells (r o e sz T : Nat) (f : Bool) (l : List AV) (s : St) : accB r o e sz s (.cells T f l) = accD r T f l o e sz s l[o]? := _root_.id rfl
theorem accD_nils (r T : Nat) (f : Bool) (l : List AV) (o e sz : Nat) (env : List (Nat × AV)) (σ : List (Nat × Blk)) (n : Nat) : accD r T f l o e sz ⟨env, σ, n⟩ (some (.pv .nils)) = ⟨env, (r, .cells T f (l.set o (nilAV n e sz))) :: (n, nilBlk e sz) :: σ, n + 1⟩ := _root_.id rfl
theorem accD_row (r T : Nat) (f : Bool) (l : List AV) (o e sz : Nat) (s : St) (q a b c : Nat) : accD r T f l o e sz s (some (.row q a b c)) = s := _root_.id rfl
theorem accD_ol (r T : Nat) (f : Bool) (l : List AV) (o e sz : Nat) (s : St) (q a : Nat) (k : List PV) : accD r T f l o e sz s (some (.olist q a k)) = s := _root_.id rfl
theorem set0 {α : Type} (x y : α) (r : List α) : (x :: r).set 0 y = y :: r := _root_.id rfl
theorem setS {α : Type} (x y : α) (r : List α) (n : Nat) : (x :: r).set (n + 1) y = x :: r.set n y := _root_.id rfl
theorem st_eq (e e' : List (Nat × AV)) (σ σ' : List (Nat × Blk)) (n n' : Nat) : (St.mk e σ n = St.mk e' σ' n') = (e = e' ∧ σ = σ' ∧ n = n') := by rw [St.mk.injEq]
theorem dNlt_t {a b : Nat} (h : a < b) : decide (a < b) = true := decide_eq_true h
theorem dNlt_f {a b : Nat} (h : ¬ a < b) : decide (a < b) = false := decide_eq_false h
theorem dNle_t {a b : Nat} (h : a ≤ b) : decide (a ≤ b) = true := decide_eq_true h
theorem dNle_f {a b : Nat} (h : ¬ a ≤ b) : decide (a ≤ b) = false := decide_eq_false h
theorem dNeq_t {a b : Nat} (h : a = b) : decide (a = b) = true := decide_eq_true h
theorem dNeq_f {a b : Nat} (h : ¬ a = b) : decide (a = b) = false := decide_eq_false h
theorem take_snoc {α : Type} {l : List α} {m : Nat} {x : α} (h : l[m]? = some x) : l.take (m + 1) = l.take m ++ [x] := by
  obtain ⟨h1, h2⟩ := List.getElem?_eq_some_iff.1 h
  rw [List.take_succ_eq_append_getElem h1, h2]
def fillC (cells : List AV) (off sz : Nat) (r : List (Nat × Nat × AV)) (xc : List AV) : Bool → Option (List AV)
  | true => fillA (cells.take off ++ xc ++ cells.drop (off + sz)) r
  | false => none
theorem fillC_t (cells : List AV) (off sz : Nat) (r : List (Nat × Nat × AV)) (xc : List AV) : fillC cells off sz r xc true = fillA (cells.take off ++ xc ++ cells.drop (off + sz)) r := _root_.id rfl
theorem fillA_nil (cells : List AV) : fillA cells [] = some cells := _root_.id rfl
theorem fillA_cons (cells : List AV) (off sz : Nat) (x : AV) (r : List (Nat × Nat × AV)) : fillA cells ((off, sz, x) :: r) = fillC cells off sz r x.cells (x.known && decide (x.cells.length = sz) && decide (off + sz ≤ cells.length)) := by
  simp only [fillA]
  by_cases h : x.known = true ∧ x.cells.length = sz ∧ off + sz ≤ cells.length
  · rw [if_pos h, h.1, decide_eq_true h.2.1, decide_eq_true h.2.2]; rfl
  · rw [if_neg h]
    have : (x.known && decide (x.cells.length = sz) && decide (off + sz ≤ cells.length)) = false := by
      rw [Bool.eq_false_iff]
      intro hh
      simp only [Bool.and_eq_true, decide_eq_true_eq] at hh
      exact h ⟨hh.1.1, hh.1.2, hh.2⟩
    rw [this]; rfl
theorem partT_eq (sz off : Nat) (cs : List AV) : partT sz off cs = if off + sz ≤ cs.length then some (mkAgg ((cs.drop off).take sz)) else none := _root_.id rfl
section
variable {P : Program} {G : Nat → List PV}
def RoundX {ι : Type} (A : List (Nat × Nat × Nat × Nat)) (S : ι → St) (Inv : ι → Prop) (μ : ι → Nat) (x : ι) (m0 : Nat) (keep : List Nat) (id : Nat) (keepX : List Nat) (fin : ι → Prop) (Q : AExit → St → Prop) : AExit → St → Prop
  | .norm, s' => ∃ x', Hd A m0 keep s' (S x') ∧ Inv x' ∧ μ x' < μ x
  | .exit i, s' => if i = id then ∃ x', fin x' ∧ norm m0 keepX s' = norm m0 keepX (S x') else Q (.exit i) s'
  | .ret, s' => Q .ret s'
theorem RoundX_norm {ι : Type} (A : List (Nat × Nat × Nat × Nat)) (S : ι → St) (Inv : ι → Prop) (μ : ι → Nat) (x : ι) (m0 : Nat) (keep : List Nat) (id : Nat) (keepX : List Nat) (fin : ι → Prop) (Q : AExit → St → Prop) (s : St) : RoundX A S Inv μ x m0 keep id keepX fin Q .norm s = ∃ x', Hd A m0 keep s (S x') ∧ Inv x' ∧ μ x' < μ x := _root_.id rfl
theorem RoundX_exit {ι : Type} (A : List (Nat × Nat × Nat × Nat)) (S : ι → St) (Inv : ι → Prop) (μ : ι → Nat) (x : ι) (m0 : Nat) (keep : List Nat) (id : Nat) (keepX : List Nat) (fin : ι → Prop) (Q : AExit → St → Prop) (i : Nat) (s : St) : RoundX A S Inv μ x m0 keep id keepX fin Q (.exit i) s = if i = id then (∃ x', fin x' ∧ norm m0 keepX s = norm m0 keepX (S x')) else Q (.exit i) s := _root_.id rfl
theorem RoundX_ret {ι : Type} (A : List (Nat × Nat × Nat × Nat)) (S : ι → St) (Inv : ι → Prop) (μ : ι → Nat) (x : ι) (m0 : Nat) (keep : List Nat) (id : Nat) (keepX : List Nat) (fin : ι → Prop) (Q : AExit → St → Prop) (s : St) : RoundX A S Inv μ x m0 keep id keepX fin Q .ret s = Q .ret s := _root_.id rfl
theorem vc_meet {ι : Type} (A : List (Nat × Nat × Nat × Nat)) (ch : ι → List (Nat × AV)) (chB : ι → List (Nat × Blk)) (Inv : ι → Prop) (μ : ι → Nat) (x0 : ι) (keepX : List Nat) (fin : ι → Prop) {m0 id : Nat} {keep : List Nat} {b : ACode} {F : St → Prop} {Q : AExit → St → Prop} {s : St}
    (h : ∀ e0 σ0 n0, normA A m0 keep s = ⟨e0, σ0, n0⟩ → StZ ⟨e0, σ0, n0⟩ ⟨overE e0 (ch x0), overB σ0 (chB x0), n0⟩ ∧ Inv x0 ∧
      (∀ x, Inv x → vc P G m0 b (RoundX A (fun x => ⟨overE e0 (ch x), overB σ0 (chB x), n0⟩) Inv μ x m0 keep id keepX fin Q) ⟨overE e0 (ch x), overB σ0 (chB x), n0⟩) ∧
      ∀ x, fin x → ∀ s1, norm m0 keepX ⟨overE e0 (ch x), overB σ0 (chB x), n0⟩ = s1 → F s1) : vc P G m0 (.loop keep b) (BlockK id (SeqK F Q)) s := by
  obtain ⟨h1, h2, h3, h4⟩ := h (normA A m0 keep s).env (normA A m0 keep s).sto (normA A m0 keep s).next rfl
  refine ⟨fun n s' => ∃ x, s' = ⟨overE (normA A m0 keep s).env (ch x), overB (normA A m0 keep s).sto (chB x), (normA A m0 keep s).next⟩ ∧ Inv x ∧ μ x = n, ⟨μ x0, _, Wk.head (A := A) (keep := keep) h1, x0, rfl, h2, rfl⟩, ?_⟩
  rintro n s' ⟨x, rfl, hx, rfl⟩
  refine vc_mono b (fun e s' hs => ?_) _ (h3 x hx)
  cases e with
  | norm =>
    obtain ⟨x', k1, k2, k3⟩ := hs
    exact ⟨_, _, k3, k1, x', rfl, k2, rfl⟩
  | exit i =>
    simp only [RoundX] at hs
    split at hs
    · rename_i hi
      obtain ⟨x', k1, k2⟩ := hs
      refine ⟨norm m0 keepX s', Wk.norm m0 keepX s', ?_⟩
      simp only [BlockK, if_pos hi, SeqK]
      exact h4 x' k1 _ k2.symm
    · rename_i hi
      refine ⟨s', Wk.of (Wx.refl s') m0, ?_⟩
      simp only [BlockK, if_neg hi, SeqK]
      exact hs
  | ret => exact hs
end
end Go.Ab
set_option linter.unusedVariables false
set_option linter.unusedSimpArgs false
namespace Go.Ab
open Go Go.RowKit
def Kap.cut (κ : Kap) (k : Nat) : Kap := ⟨κ.w, fun r => if r < k then κ.nm r else none, κ.imm⟩
theorem Kap.cut_ext (κ : Kap) (k : Nat) : Ext (κ.cut k) κ := ⟨fun _ _ h => h, fun _ _ _ _ h => h, fun r d h => by
  simp only [Kap.cut] at h
  split at h
  · exact h
  · cases h⟩
theorem Kap.cut_none (κ : Kap) (k r : Nat) (h : k ≤ r) : (κ.cut k).nm r = none := by simp only [Kap.cut]; rw [if_neg (by omega)]
def LCalls (P : Program) (G : Nat → List PV) (k : Nat) (f : Nat) (args : List AV) (sto : List (Nat × Blk)) (next : Nat) (Q : AV → List (Nat × Blk) → Nat → Prop) : Prop :=
  Callable P f = true ∧ ∀ (κ : Kap) (vals : Array Value), SRel (ctxOf κ (fun r => lookB r sto) G) κ (fun r => lookB r sto) → (∀ r, next ≤ r → κ.nm r = none) → vals.size = args.length →
    (∀ (i : Nat) (x : AV), args[i]? = some x → ARel κ x (vals.getD i Go.undef)) →
    Calls P f vals κ.w fun e w' => ∃ u v κ' sto' next', e = .returned u ∧ κ'.w = w' ∧ Ext (κ.cut k) κ' ∧ Left (ctxOf κ (fun r => lookB r sto) G) κ.imm κ' ∧ ARel κ' v u ∧
      SRel (ctxOf κ (fun r => lookB r sto) G) κ' (fun r => lookB r sto') ∧ (∀ r, next' ≤ r → κ'.nm r = none) ∧ Q v sto' next'
section
variable {P : Program} {G : Nat → List PV}
theorem LCalls.of_code {muts : List Nat} {k f : Nat} {fn : AFn} {args : List AV} {sto : List (Nat × Blk)} {next : Nat} {R : AV → List (Nat × Blk) → Nat → Prop} (hc : cFn P muts f = some fn) (hn : args.length ≤ fn.N)
    (hv : vc P G k fn.body (FnK G fn.res R) ⟨initEnv args, sto, next⟩) : LCalls P G k f args sto next R := by
  unfold cFn at hc
  split at hc
  · rename_i fnc hfn
    split at hc
    · rename_i co hco
      split at hc
      · rename_i rs hrs
        split at hc
        · rename_i hok
          split at hc
          · rename_i b li hb
            cases hc
            refine ⟨hok, fun κ vals hS hf hsz hargs => ?_⟩
            refine calls_of_wp hfn hco ?_
            let c := ctxOf κ (fun r => lookB r sto) G
            have hsize : (vals ++ Array.replicate (fnc.ntmps - vals.size) Go.undef).size = fnc.ntmps := by
              simp only at hn
              simp only [Array.size_append, Array.size_replicate]; omega
            have hR : Rel c (κ.cut k) fnc.ntmps ⟨initEnv args, sto, next⟩ ⟨vals ++ Array.replicate (fnc.ntmps - vals.size) Go.undef, []⟩ κ.w κ := by
              refine ⟨rfl, κ.cut_ext k, hS, ⟨rfl, rfl, rfl, Nat.le_refl _, fun _ _ _ => rfl, fun _ _ h => .inl h⟩, fun i => ?_, hsize, rfl, hf⟩
              show ARel κ (look i ((args.zipIdx 0).map fun p => (p.2, p.1))) _
              rw [look_init, if_pos (Nat.zero_le _), Nat.sub_zero]
              cases hx : args[i]? with
              | none => exact .any _
              | some x =>
                have hi : i < vals.size := by rw [hsz]; exact (List.getElem?_eq_some_iff.1 hx).1
                have := hargs i x hx
                have e : (vals ++ Array.replicate (fnc.ntmps - vals.size) Go.undef).getD i Go.undef = vals.getD i Go.undef := by
                  simp only [Array.getD_eq_getD_getElem?]
                  rw [Array.getElem?_append_left hi]
                rw [e]; exact this
            refine Code.wp_mono ?_ (vc_sound (P := P) (c := c) (κ0 := κ.cut k) (N := fnc.ntmps) (fun r hr => κ.cut_none k r hr) co b [] (resLive rs) li (FnK G rs R) _ _ κ.w κ hb hR hv)
            have fin : ∀ (s : St) (κ' : Kap) (a : Act) (w : World), Rel c (κ.cut k) fnc.ntmps s a w κ' → onSome (resVs G s rs) (retK R s) → a.defers = [] ∧ ∃ v, (results fnc a.tmps).run P w = .ok v w ∧
                ∃ u v' κ'' sto' next', Ending.returned v = .returned u ∧ κ''.w = w ∧ Ext (κ.cut k) κ'' ∧ Left c κ.imm κ'' ∧ ARel κ'' v' u ∧ SRel c κ'' (fun r => lookB r sto') ∧ (∀ r, next' ≤ r → κ''.nm r = none) ∧ R v' sto' next' := by
              intro s κ' a w hR hF
              refine ⟨hR.defers, ?_⟩
              simp only [onSome] at hF
              split at hF
              · rename_i vs hvs
                obtain ⟨us, h1, h2, h3⟩ := res_sound (P := P) hR fnc.results.toList rs vs hrs hvs
                have hrun : (results fnc a.tmps).run P w = .ok (if h : us.toArray.size = 1 then us.toArray[0] else .tuple us.toArray) w := by
                  rw [results_eq, Sem.run_bind, Array.mapM_eq_mapM_toList]
                  simp only [Sem.run_bind, Sem.run_map]
                  rw [h1]
                  simp
                refine ⟨_, hrun, _, retV vs, κ', s.sto, s.next, rfl, hR.w_eq, hR.ext0, hR.left, ?_, hR.rel, hR.fresh, hF⟩
                by_cases hl : vs.length = 1
                · obtain ⟨v, rfl⟩ := List.length_eq_one_iff.1 hl
                  obtain ⟨u, rfl⟩ := List.length_eq_one_iff.1 (h2.trans hl)
                  have := h3 0 v rfl
                  exact this
                · have hul : ¬ us.toArray.size = 1 := by simpa [h2] using hl
                  rw [dif_neg hul]
                  have hrv : retV vs = mkTup vs := by
                    unfold retV
                    split
                    · simp at hl
                    · rfl
                  rw [hrv]
                  exact mkTup_rel (.tup _ _ (by simpa using h2) (fun i x hx => by rw [getD_toList]; simpa using h3 i x hx))
              · exact hF.elim
            intro e a w hq
            cases e with
            | normal =>
              obtain ⟨s, κ', hR, hF⟩ := hq
              exact fin s κ' a w hR hF
            | ret =>
              obtain ⟨s, κ', hR, hF⟩ := hq
              exact fin s κ' a w hR hF
            | exit id =>
              obtain ⟨s, κ', hR, hF⟩ := hq
              exact hF.elim
            | goto l => exact hq.elim
            | panic ch => exact hq.elim
            | outgrown => exact hq.elim
          · cases hc
        · cases hc
      · cases hc
    · cases hc
  · cases hc
def enumB : List Blk → Nat → List (Nat × Blk)
  | [], _ => []
  | b :: r, k => (k, b) :: enumB r (k + 1)
theorem lookB_enum : ∀ (bs : List Blk) (k i : Nat), lookB i (enumB bs k) = if k ≤ i then bs.getD (i - k) .none else .none
  | [], k, i => by simp [enumB, lookB]
  | b :: r, k, i => by
    simp only [enumB, lookB]
    by_cases h : k = i
    · subst h; simp
    · rw [if_neg h, lookB_enum r (k + 1) i]
      by_cases hk : k ≤ i
      · rw [if_pos (by omega), if_pos hk, show i - k = (i - (k + 1)) + 1 by omega]; simp
      · rw [if_neg (by omega), if_neg hk]
theorem lookB_enum0 (bs : List Blk) : (fun r => lookB r (enumB bs 0)) = fun r => bs.getD r .none := by
  funext r; rw [lookB_enum]; simp
def Lent (P : Program) (G : Nat → List PV) (k f : Nat) (args : List AV) (bs : List Blk) (v : AV) (bs' : List Blk) : Prop :=
  LCalls P G k f args (enumB bs 0) bs.length fun v' sto' next' => v' = v ∧ sto' = enumB bs' 0 ∧ next' = bs'.length
def lentR (k : Nat) (v : AV) (bs' : List Blk) (v' : AV) (sto' : List (Nat × Blk)) (next' : Nat) : Prop :=
  Wk k ⟨[(0, v')], sto', next'⟩ ⟨[(0, v)], enumB bs' 0, bs'.length⟩
theorem Lent.of_lcalls {k f : Nat} {args : List AV} {bs : List Blk} {v : AV} {bs' : List Blk} (h : LCalls P G k f args (enumB bs 0) bs.length (lentR k v bs')) : Lent P G k f args bs v bs' := by
  obtain ⟨hcal, h⟩ := h
  refine ⟨hcal, fun κ vals hS hf hsz hargs => (h κ vals hS hf hsz hargs).mono ?_⟩
  rintro e w' ⟨u, v', κ', sto', next', rfl, rfl, he, hL, hv, hS', hf', hw⟩
  obtain ⟨κ'', hR⟩ := hw _ (κ.cut k) κ' 1 ⟨#[u], []⟩ κ'.w (fun r hr => κ.cut_none k r hr) ⟨rfl, he, hS', hL, fun i => by
    show ARel κ' (look i [(0, v')]) _
    by_cases hi : 0 = i
    · subst hi; simpa [look] using hv
    · simp only [look, if_neg hi]; exact .any _, rfl, rfl, hf'⟩
  refine ⟨u, v, κ'', _, _, rfl, hR.w_eq, hR.ext0, hR.left, ?_, hR.rel, hR.fresh, rfl, rfl, rfl⟩
  have := hR.env 0
  simpa [St.E, look] using this
theorem Lent.intro {muts : List Nat} {k f : Nat} {fn : AFn} {args : List AV} {bs : List Blk} {v : AV} {bs' : List Blk} (hc : cFn P muts f = some fn) (hn : args.length ≤ fn.N)
    (hv : vc P G k fn.body (FnK G fn.res (lentR k v bs')) ⟨initEnv args, enumB bs 0, bs.length⟩) : Lent P G k f args bs v bs' :=
  Lent.of_lcalls (LCalls.of_code hc hn hv)
def gIn (next : Nat) : List Nat → Nat → Nat
  | [], i => next + i
  | r :: _, 0 => r
  | _ :: q, i + 1 => gIn next q i
def gSo (next : Nat) (rs : List Nat) (r : Nat) : Option Nat := some (gIn next rs r)
theorem gIn_lt (next : Nat) : ∀ (rs : List Nat) (i : Nat) (r : Nat), rs[i]? = some r → gIn next rs i = r
  | [], i, r, h => by simp at h
  | x :: q, 0, r, h => by simpa [gIn] using h
  | x :: q, i + 1, r, h => by simpa [gIn] using gIn_lt next q i r (by simpa using h)
theorem gIn_ge (next : Nat) : ∀ (rs : List Nat) (i : Nat), rs.length ≤ i → gIn next rs i = next + (i - rs.length)
  | [], i, h => by simp [gIn]
  | x :: q, 0, h => by simp at h
  | x :: q, i + 1, h => by
    simp only [List.length_cons] at h
    rw [gIn, gIn_ge next q i (by omega)]
    simp
mutual
theorem unren {κ κ' : Kap} (hw : κ'.w = κ.w) (hi : κ'.imm = κ.imm) {g : Nat → Nat} (hf : ∀ r, κ'.nm r = κ.nm (g r)) : ∀ (x : AV) (v : Value), ARel κ (x.ren fun r => some (g r)) v → ARel κ' x v
  | .pv p, v, h => by
    simp only [AV.ren] at h
    cases h with
    | pv _ _ hp => exact .pv _ _ (by rw [hw, hi]; exact hp)
  | .any, v, h => .any v
  | .ptr r o, v, h => by
    simp only [AV.ren] at h
    cases h with
    | ptr _ _ b n hn => exact .ptr _ _ b n (by rw [hf r]; exact hn)
  | .row r a b c, v, h => by
    simp only [AV.ren] at h
    cases h with
    | row _ _ _ _ bb n cap hn h1 h2 h3 h4 => exact .row _ _ _ _ bb n cap (by rw [hf r]; exact hn) h1 h2 h3 h4
    | row0 _ _ hn => exact .row0 _ _ (by rw [hf r]; exact hn)
  | .olist r a l, v, h => by
    simp only [AV.ren] at h
    cases h with
    | olist _ _ _ _ hn hp hs => exact .olist _ _ _ _ (by rw [hf r]; exact hn) (by rw [hw, hi]; exact hp) hs
  | .agg cs, v, h => by
    simp only [AV.ren] at h
    cases h with
    | agg _ vs hl hr =>
      obtain ⟨h1, h2⟩ := unrenL hw hi hf cs vs hr
      exact .agg _ _ (by rw [← h1]; exact hl) h2
  | .tup cs, v, h => by
    simp only [AV.ren] at h
    cases h with
    | tup _ vs hl hr =>
      obtain ⟨h1, h2⟩ := unrenL hw hi hf cs vs hr
      exact .tup _ _ (by rw [← h1]; exact hl) h2
  | .clo g fs cs, v, h => by
    simp only [AV.ren] at h
    cases h with
    | clo _ _ _ vs us hl hr hl' hr' =>
      obtain ⟨h1, h2⟩ := unrenL hw hi hf fs vs hr
      obtain ⟨h3, h4⟩ := unrenL hw hi hf cs us hr'
      exact .clo _ _ _ _ _ (by rw [← h1]; exact hl) h2 (by rw [← h3]; exact hl') h4
theorem unrenL {κ κ' : Kap} (hw : κ'.w = κ.w) (hi : κ'.imm = κ.imm) {g : Nat → Nat} (hf : ∀ r, κ'.nm r = κ.nm (g r)) : ∀ (xs : List AV) (vs : Array Value),
    (∀ (i : Nat) (x : AV), (AV.renL (fun r => some (g r)) xs)[i]? = some x → ARel κ x (vs.getD i Go.undef)) → (AV.renL (fun r => some (g r)) xs).length = xs.length ∧ ∀ (i : Nat) (x : AV), xs[i]? = some x → ARel κ' x (vs.getD i Go.undef)
  | [], vs, h => by simp [AV.renL]
  | x :: r, vs, h => by
    have e : ∀ i, (vs.extract 1 vs.size).getD i Go.undef = vs.getD (i + 1) Go.undef := by
      intro i
      simp only [Array.getD_eq_getD_getElem?, Array.getElem?_extract]
      by_cases hh : i < min vs.size vs.size - 1
      · rw [if_pos hh]; congr 2; omega
      · rw [if_neg hh, Array.getElem?_eq_none (by omega)]
    obtain ⟨h1, h2⟩ := unrenL hw hi hf r (vs.extract 1 vs.size) (fun i y hy => by
      have := h (i + 1) y (by simpa [AV.renL] using hy)
      rw [e]; exact this)
    refine ⟨by simp [AV.renL, h1], fun i y hy => ?_⟩
    cases i with
    | zero =>
      simp only [List.getElem?_cons_zero, Option.some.injEq] at hy
      subst hy
      exact unren hw hi hf x _ (h 0 _ (by simp [AV.renL]))
    | succ i =>
      simp only [List.getElem?_cons_succ] at hy
      have := h2 i y hy
      rw [e] at this; exact this
end
theorem BRel.unren {κ κ' : Kap} (hw : κ'.w = κ.w) (hi : κ'.imm = κ.imm) {g : Nat → Nat} (hf : ∀ r, κ'.nm r = κ.nm (g r)) {r : Nat} {B : Blk} (h : BRel κ (g r) (B.ren fun r => some (g r))) : BRel κ' r B := by
  cases B with
  | none => trivial
  | cells T f l =>
    simp only [Blk.ren] at h
    rcases h with ⟨h1, h2, h3⟩ | ⟨b, n, cs, h1, h2, h3, h4, h5, h6, h7⟩
    · refine .inl ⟨h1, ?_, by rw [hf]; exact h3⟩
      cases l with
      | nil => rfl
      | cons x r => simp [AV.renL] at h2
    · obtain ⟨q1, q2⟩ := unrenL hw hi hf l cs h6
      exact .inr ⟨b, n, cs, by rw [hf]; exact h1, by rw [hw]; exact h2, h3, by rw [← q1]; exact h4, fun hb => by rw [← q1]; exact h5 hb, q2, by rw [hi]; exact h7⟩
  | tok e sz =>
    simp only [Blk.ren] at h
    rcases h with h | ⟨g', n, cap, cur, h1, h2, h3⟩
    · exact .inl (by rw [hf]; exact h)
    · exact .inr ⟨g', n, cap, cur, by rw [hf]; exact h1, by rw [hw]; exact h2, by rw [hi]; exact h3⟩
theorem BRel.ren {κ κ' : Kap} (hw : κ'.w = κ.w) (hi : κ'.imm = κ.imm) {g : Nat → Nat} (hf : ∀ r, κ'.nm (g r) = κ.nm r) {r : Nat} {B : Blk} (h : BRel κ r B) : BRel κ' (g r) (B.ren fun r => some (g r)) := by
  have hf' : ∀ r r', (fun r => some (g r)) r = some r' → κ'.nm r' = κ.nm r := fun r r' h => by cases h; exact hf r
  cases B with
  | none => trivial
  | cells T f l =>
    simp only [Blk.ren]
    rcases h with ⟨h1, h2, h3⟩ | ⟨b, n, cs, h1, h2, h3, h4, h5, h6, h7⟩
    · exact .inl ⟨h1, by rw [h2]; simp only [AV.renL], by rw [hf]; exact h3⟩
    · obtain ⟨q1, q2⟩ := renL_rel hw hi hf' l cs h6
      exact .inr ⟨b, n, cs, by rw [hf]; exact h1, by rw [hw]; exact h2, h3, by rw [q1]; exact h4, fun hb => by rw [q1]; exact h5 hb, q2, by rw [hi]; exact h7⟩
  | tok e sz =>
    simp only [Blk.ren]
    rcases h with h | ⟨g', n, cap, cur, h1, h2, h3⟩
    · exact .inl (by rw [hf]; exact h)
    · exact .inr ⟨g', n, cap, cur, by rw [hf]; exact h1, by rw [hw]; exact h2, by rw [hi]; exact h3⟩
def outB (f : Nat → Option Nat) : List Blk → Nat → (Nat → Nat) → List (Nat × Blk)
  | [], _, _ => []
  | b :: r, i, g => (g i, b.ren f) :: outB f r (i + 1) g
def noneB : List Nat → List (Nat × Blk)
  | [] => []
  | r :: q => (r, .none) :: noneB q
def LentAt (sto : List (Nat × Blk)) (f : Nat → Option Nat) : List Nat → List Blk → Prop
  | [], [] => True
  | r :: rs, b :: bs => BlkZ (lookB r sto) (b.ren f) ∧ LentAt sto f rs bs
  | _, _ => False
theorem LentAt.get {sto : List (Nat × Blk)} {f : Nat → Option Nat} : ∀ {rs : List Nat} {bs : List Blk}, LentAt sto f rs bs → rs.length = bs.length ∧ ∀ (i r : Nat) (b : Blk), rs[i]? = some r → bs[i]? = some b → BlkZ (lookB r sto) (b.ren f)
  | [], [], h => ⟨rfl, by simp⟩
  | r :: rs, b :: bs, h => by
    obtain ⟨h1, h2⟩ := h
    obtain ⟨h3, h4⟩ := LentAt.get h2
    refine ⟨by simp [h3], fun i q d hq hd => ?_⟩
    cases i with
    | zero => simp at hq hd; subst hq; subst hd; exact h1
    | succ i => exact h4 i q d (by simpa using hq) (by simpa using hd)
  | [], _ :: _, h => h.elim
  | _ :: _, [], h => h.elim
end
end Go.Ab
set_option linter.unusedVariables false
set_option linter.unusedSimpArgs false
namespace Go.Ab
open Go Go.RowKit
section
variable {P : Program} {G : Nat → List PV}
theorem BRel.named {κ : Kap} {r : Nat} {B : Blk} (h : BRel κ r B) (hB : B ≠ .none) : ∃ d, κ.nm r = some d := by
  cases B with
  | none => exact absurd rfl hB
  | cells T f l =>
    rcases h with ⟨_, _, h⟩ | ⟨b, n, cs, h, _⟩
    · exact ⟨_, h⟩
    · exact ⟨_, h⟩
  | tok e sz =>
    rcases h with h | ⟨g, n, cap, cur, h, _⟩
    · exact ⟨_, h⟩
    · exact ⟨_, h⟩
theorem Blk.ren_ne {f : Nat → Option Nat} {b : Blk} : b.ren f ≠ .none ↔ b ≠ .none := by
  cases b <;> simp [Blk.ren]
theorem gIn_inj {next : Nat} {rs : List Nat} (hnd : rs.Nodup) (hlt : ∀ r ∈ rs, r < next) {i j : Nat} (h : gIn next rs i = gIn next rs j) : i = j := by
  by_cases hi : i < rs.length
  · have ei := gIn_lt next rs i _ (List.getElem?_eq_getElem hi)
    have hi' := hlt _ (List.getElem_mem hi)
    by_cases hj : j < rs.length
    · have ej := gIn_lt next rs j _ (List.getElem?_eq_getElem hj)
      rw [ei, ej] at h
      exact (List.getElem_inj hnd).1 h
    · have ej := gIn_ge next rs j (by omega)
      omega
  · have ei := gIn_ge next rs i (by omega)
    by_cases hj : j < rs.length
    · have ej := gIn_lt next rs j _ (List.getElem?_eq_getElem hj)
      have hj' := hlt _ (List.getElem_mem hj)
      omega
    · have ej := gIn_ge next rs j (by omega)
      omega
theorem lookB_out {f : Nat → Option Nat} {g : Nat → Nat} (hg : ∀ i j, g i = g j → i = j) (rest : List (Nat × Blk)) (r : Nat) : ∀ (bs : List Blk) (k : Nat),
    (∀ i b, bs[i]? = some b → g (k + i) = r → lookB r (outB f bs k g ++ rest) = b.ren f) ∧ ((∀ i, i < bs.length → g (k + i) ≠ r) → lookB r (outB f bs k g ++ rest) = lookB r rest)
  | [], k => ⟨by simp, fun _ => rfl⟩
  | b :: q, k => by
    obtain ⟨h1, h2⟩ := lookB_out hg rest r q (k + 1)
    refine ⟨fun i b' hi hr => ?_, fun h => ?_⟩
    · simp only [outB, List.cons_append, lookB]
      cases i with
      | zero =>
        simp only [List.getElem?_cons_zero, Option.some.injEq] at hi
        subst hi
        rw [if_pos (by simpa using hr)]
      | succ i =>
        rw [if_neg (fun e => by have := hg _ _ (e.trans hr.symm); omega)]
        exact h1 i b' (by simpa using hi) (by rw [← hr]; congr 1; omega)
    · simp only [outB, List.cons_append, lookB]
      rw [if_neg (by have := h 0 (by simp); simpa using this)]
      exact h2 fun i hi => by
        have := h (i + 1) (by simp; omega)
        rwa [show k + (i + 1) = k + 1 + i by omega] at this
theorem lookB_none (rest : List (Nat × Blk)) (r : Nat) : ∀ (l : List Nat), lookB r (noneB l ++ rest) = if r ∈ l then .none else lookB r rest
  | [] => by simp [noneB]
  | x :: q => by
    simp only [noneB, List.cons_append, lookB, lookB_none rest r q, List.mem_cons]
    by_cases h : x = r
    · subst h; simp
    · rw [if_neg h]
      by_cases hq : r ∈ q
      · simp [hq]
      · have : ¬ (r = x ∨ r ∈ q) := by rintro (e | e); exact h e.symm; exact hq e
        rw [if_neg hq, if_neg this]
theorem Lent.frame {k f : Nat} {args0 : List AV} {bs : List Blk} {v : AV} {bs' : List Blk} (h : Lent P G k f args0 bs v bs') {rs : List Nat} {args : List AV} {sto : List (Nat × Blk)} {next : Nat}
    (hargs : AVzL args (AV.renL (gSo next rs) args0)) (hbs : LentAt sto (gSo next rs) rs bs) (hnd : rs.Nodup) (hlt : ∀ r ∈ rs, r < next) (hk : k ≤ bs.length) (hk' : k ≤ bs'.length) (hne : ∀ b ∈ bs.take k, b ≠ .none) :
    TCalls P G f args sto next fun v' sto' next' => v' = v.ren (gSo next (rs.take k)) ∧ sto' = outB (gSo next (rs.take k)) bs' 0 (gIn next (rs.take k)) ++ (noneB (rs.drop k) ++ sto) ∧ next' = next + (bs'.length - k) := by
  obtain ⟨hcal, h⟩ := h
  refine ⟨hcal, fun κ vals hS hf hsz hvals => ?_⟩
  obtain ⟨hrl, hat⟩ := hbs.get
  let κ1 : Kap := ⟨κ.w, fun i => κ.nm (gIn next rs i), κ.imm⟩
  have hσ1 : (fun r => lookB r (enumB bs 0)) = fun r => bs.getD r .none := lookB_enum0 bs
  have hlook : ∀ i b, bs[i]? = some b → ∃ r, rs[i]? = some r ∧ gIn next rs i = r ∧ BRel κ r (b.ren (gSo next rs)) ∧ (b ≠ .none → lookB r sto ≠ .none) := by
    intro i b hb
    have hi : i < rs.length := by rw [hrl]; exact (List.getElem?_eq_some_iff.1 hb).1
    have hr := List.getElem?_eq_getElem hi
    obtain ⟨q1, q2⟩ := (hat i _ b hr hb).rel (hS.blk rs[i])
    exact ⟨rs[i], hr, gIn_lt next rs i _ hr, q1, fun hb' => q2 (Blk.ren_ne.2 hb')⟩
  have hlive : ∀ i, bs.getD i .none ≠ .none → ∃ b, bs[i]? = some b ∧ b ≠ .none := by
    intro i hi
    rw [List.getD_eq_getElem?_getD] at hi
    cases hb : bs[i]? with
    | none => rw [hb] at hi; exact absurd rfl hi
    | some b => rw [hb] at hi; exact ⟨b, rfl, hi⟩
  have hB1 : ∀ i b, bs[i]? = some b → BRel κ1 i b := by
    intro i b hb
    obtain ⟨r, hr, hgr, hB, _⟩ := hlook i b hb
    exact BRel.unren (κ := κ) (κ' := κ1) rfl rfl (g := gIn next rs) (fun _ => rfl) (by rw [hgr]; exact hB)
  have hl1 : ∀ b, (ctxOf κ1 (fun r => lookB r (enumB bs 0)) G).lent b → (ctxOf κ (fun r => lookB r sto) G).lent b := by
    rintro b ⟨i, d, h1, h2, h3⟩
    simp only [congrFun hσ1 i] at h1
    obtain ⟨b', hb, hbn⟩ := hlive i h1
    obtain ⟨r, hr, hgr, _, hn⟩ := hlook i b' hb
    exact ⟨r, d, hn hbn, by rw [← hgr]; exact h2, h3⟩
  have hm1 : ∀ b, (ctxOf κ1 (fun r => lookB r (enumB bs 0)) G).mine b → (ctxOf κ (fun r => lookB r sto) G).mine b := fun b hb => hb.elim .inl (fun h => .inr (hl1 b h))
  have hS1 : SRel (ctxOf κ1 (fun r => lookB r (enumB bs 0)) G) κ1 (fun r => lookB r (enumB bs 0)) := by
    refine ⟨fun i => ?_, fun i j d d' b h1 h2 hij hd hd' hb => ?_, fun i d b h1 hd hb => .inr ⟨i, d, h1, hd, hb⟩, hS.immLt, ?_⟩
    · rw [congrFun hσ1 i]
      show BRel κ1 i (bs.getD i .none)
      rw [List.getD_eq_getElem?_getD]
      cases hb : bs[i]? with
      | none => trivial
      | some b => exact hB1 i b hb
    · simp only [congrFun hσ1 i] at h1
      simp only [congrFun hσ1 j] at h2
      obtain ⟨b1, hb1, hn1⟩ := hlive i h1
      obtain ⟨b2, hb2, hn2⟩ := hlive j h2
      obtain ⟨r, hr, hgr, _, hn⟩ := hlook i b1 hb1
      obtain ⟨r', hr', hgr', _, hn'⟩ := hlook j b2 hb2
      refine hS.apart r r' d d' b (hn hn1) (hn' hn2) (fun e => hij ?_) (by rw [← hgr]; exact hd) (by rw [← hgr']; exact hd') hb
      obtain ⟨hi, ei⟩ := List.getElem?_eq_some_iff.1 hr
      obtain ⟨hj, ej⟩ := List.getElem?_eq_some_iff.1 hr'
      exact (List.getElem_inj hnd).1 (ei.trans (e.trans ej.symm))
    · refine ⟨fun g o p hp => ?_, fun g hg => ?_⟩
      · exact hS.glob.1 g o p hp
      · obtain ⟨h1, h2, h3⟩ := hS.glob.2 g hg
        exact ⟨h1, fun hl => h2 (hl1 g hl), h3⟩
  have hf1 : ∀ r, bs.length ≤ r → κ1.nm r = none := fun r hr => by
    show κ.nm (gIn next rs r) = none
    rw [gIn_ge next rs r (by omega)]
    exact hf _ (by omega)
  have hlen0 : args0.length = args.length := by
    rw [hargs.length]
    have : ∀ (f : Nat → Option Nat) (l : List AV), (AV.renL f l).length = l.length := by
      intro f l
      induction l with
      | nil => simp [AV.renL]
      | cons x r ih => simp [AV.renL, ih]
    rw [this]
  have hv1 : ∀ (i : Nat) (x : AV), args0[i]? = some x → ARel κ1 x (vals.getD i Go.undef) :=
    (unrenL (κ := κ) (κ' := κ1) rfl rfl (g := gIn next rs) (fun _ => rfl) args0 vals (fun i x hx => by
      obtain ⟨y, hy, hyx⟩ := hargs.get i x hx
      exact hyx.rel (hvals i y hy))).2
  refine (h κ1 vals hS1 hf1 (by omega) hv1).mono ?_
  rintro e w' ⟨u, v', κ1', sto', next', rfl, rfl, he, hL, hv, hS', hf', rfl, rfl, rfl⟩
  obtain ⟨g, hgdef⟩ : ∃ g, g = gIn next (rs.take k) := ⟨_, rfl⟩
  have htl : (rs.take k).length = k := by rw [List.length_take]; omega
  have hg1 : ∀ i, i < k → ∃ r, rs[i]? = some r ∧ g i = r ∧ r < next := by
    intro i hi
    have hi' : i < rs.length := by omega
    have hr := List.getElem?_eq_getElem hi'
    refine ⟨rs[i], hr, ?_, hlt _ (List.getElem_mem hi')⟩
    rw [hgdef]
    exact gIn_lt next _ i _ (by rw [List.getElem?_take, if_pos hi]; exact hr)
  have hg2 : ∀ i, k ≤ i → g i = next + (i - k) := fun i hi => by rw [hgdef, gIn_ge next _ i (by omega), htl]
  have hginj : ∀ i j, g i = g j → i = j := fun i j hij => by
    rw [hgdef] at hij
    exact gIn_inj (hnd.sublist (List.take_sublist _ _)) (fun r hr => hlt r (List.mem_of_mem_take hr)) hij
  have hso : gSo next (rs.take k) = fun r => some (g r) := by rw [hgdef]; rfl
  rw [hso, ← hgdef]
  let κ' : Kap := ⟨κ1'.w, fun r => if r < next then κ.nm r else κ1'.nm (k + (r - next)), κ1'.imm⟩
  have hnmk : ∀ i, i < k → κ1'.nm i = κ1.nm i := by
    intro i hi
    have hib : i < bs.length := by omega
    have hb := List.getElem?_eq_getElem hib
    obtain ⟨d, hd⟩ := (hB1 i _ hb).named (hne _ (List.mem_take_iff_getElem.2 ⟨i, by omega, rfl⟩))
    rw [hd]
    exact he.nm i d (by simp only [Kap.cut]; rw [if_pos hi]; exact hd)
  have hnm' : ∀ i, κ'.nm (g i) = κ1'.nm i := by
    intro i
    by_cases hi : i < k
    · obtain ⟨r, hr, hgr, hrn⟩ := hg1 i hi
      show (if g i < next then κ.nm (g i) else κ1'.nm (k + (g i - next))) = _
      rw [hgr, if_pos hrn, hnmk i hi]
      show κ.nm r = κ.nm (gIn next rs i)
      rw [gIn_lt next rs i r hr]
    · show (if g i < next then κ.nm (g i) else κ1'.nm (k + (g i - next))) = _
      rw [hg2 i (by omega), if_neg (by omega)]
      congr 1; omega
  have hext : Ext κ κ' := ⟨fun b o hi => he.imm b o hi, fun b o v hi hc => he.cell b o v hi hc, fun r d hd => by
    have hr : r < next := by
      rcases Nat.lt_or_ge r next with h | h
      · exact h
      · rw [hf r h] at hd; cases hd
    show (if r < next then κ.nm r else _) = _
    rw [if_pos hr]; exact hd⟩
  have hout : ∀ r d b, lookB r sto ≠ .none → r ∉ rs → κ.nm r = some d → d.block = some b → b < κ.w.heap.size ∧ ¬ (ctxOf κ1 (fun r => lookB r (enumB bs 0)) G).lent b := by
    intro r d b h1 h2 h3 h4
    refine ⟨(hS.blk r).lt h1 h3 h4, ?_⟩
    rintro ⟨i, d', q1, q2, q3⟩
    simp only [congrFun hσ1 i] at q1
    obtain ⟨b', hb, hbn⟩ := hlive i q1
    obtain ⟨r', hr', hgr, _, hn⟩ := hlook i b' hb
    refine hS.apart r r' d d' b h1 (hn hbn) (fun e => h2 (e ▸ List.mem_of_getElem? hr')) h3 (by rw [← hgr]; exact q2) h4 q3
  have hmem : ∀ r, r ∈ rs → (∃ i, i < bs'.length ∧ g i = r) ∨ r ∈ rs.drop k := by
    intro r hr
    obtain ⟨i, hi⟩ := List.getElem?_of_mem hr
    by_cases hik : i < k
    · obtain ⟨r', hr', hgr, _⟩ := hg1 i hik
      rw [hi] at hr'; cases hr'
      exact .inl ⟨i, by omega, hgr⟩
    · refine .inr (List.mem_of_getElem? (i := i - k) ?_)
      rw [List.getElem?_drop, show k + (i - k) = i by omega]; exact hi
  have hσ' : ∀ r, (∃ i b, bs'[i]? = some b ∧ g i = r ∧ lookB r (outB (fun r => some (g r)) bs' 0 g ++ (noneB (rs.drop k) ++ sto)) = b.ren (fun r => some (g r))) ∨
      lookB r (outB (fun r => some (g r)) bs' 0 g ++ (noneB (rs.drop k) ++ sto)) = .none ∨ (r ∉ rs ∧ (∀ i, i < bs'.length → g i ≠ r) ∧ lookB r (outB (fun r => some (g r)) bs' 0 g ++ (noneB (rs.drop k) ++ sto)) = lookB r sto) := by
    intro r
    obtain ⟨q1, q2⟩ := lookB_out (f := fun r => some (g r)) hginj (noneB (rs.drop k) ++ sto) r bs' 0
    by_cases hi : ∃ i, i < bs'.length ∧ g i = r
    · obtain ⟨i, hi, hgi⟩ := hi
      exact .inl ⟨i, bs'[i], List.getElem?_eq_getElem hi, hgi, q1 i _ (List.getElem?_eq_getElem hi) (by rw [Nat.zero_add]; exact hgi)⟩
    · have hni : ∀ i, i < bs'.length → g i ≠ r := fun i h1 h2 => hi ⟨i, h1, h2⟩
      have e := q2 (fun i h1 => by rw [Nat.zero_add]; exact hni i h1)
      rw [lookB_none] at e
      by_cases hr : r ∈ rs.drop k
      · rw [if_pos hr] at e; exact .inr (.inl e)
      · rw [if_neg hr] at e
        exact .inr (.inr ⟨fun h => (hmem r h).elim hi hr, hni, e⟩)
  have hlive' : ∀ i b, bs'[i]? = some b → b.ren (fun r => some (g r)) ≠ .none → lookB i (enumB bs' 0) ≠ .none := by
    intro i b hb hbn
    have e2 : lookB i (enumB bs' 0) = bs'.getD i .none := congrFun (lookB_enum0 bs') i
    rw [e2, List.getD_eq_getElem?_getD, hb]
    exact Blk.ren_ne.1 hbn
  refine ⟨u, _, κ', _, _, rfl, rfl, hext, ⟨hL.os, hL.tape, hL.output, hL.size, fun b hb hl => hL.block b hb fun h => hl (hl1 b h), fun b o hi => (hL.imm b o hi).imp id (hm1 b)⟩,
    ren_rel (κ := κ1') (κ' := κ') rfl rfl (fun r r' hr => by cases hr; exact hnm' r) v' u hv, ?_, fun r hr => ?_, rfl, rfl, rfl⟩
  · refine ⟨fun r => ?_, fun r r' d d' b h1 h2 hrr hd hd' hb => ?_, fun r d b h1 hd hb => ?_, hS'.immLt, ?_⟩
    · show BRel κ' r (lookB r _)
      rcases hσ' r with ⟨i, b, hb, hgi, e⟩ | e | ⟨hr, hni, e⟩
      · rw [e, ← hgi]
        refine BRel.ren (κ := κ1') (κ' := κ') rfl rfl hnm' ?_
        have := hS'.blk i
        have e2 : lookB i (enumB bs' 0) = bs'.getD i .none := congrFun (lookB_enum0 bs') i
        simp only [e2, List.getD_eq_getElem?_getD, hb] at this
        exact this
      · rw [e]; trivial
      · rw [e]
        refine (hS.blk r).keep hext fun hbn d b hd hb => ?_
        obtain ⟨q1, q2⟩ := hout r d b hbn hr hd hb
        refine ⟨hL.block b q1 q2, fun o ho => ?_⟩
        rcases hL.imm b o ho with h | h | h
        · exact h
        · exact absurd q1 (Nat.not_lt.2 h)
        · exact absurd h q2
    · have cal : ∀ r i b0 d, bs'[i]? = some b0 → g i = r → b0.ren (fun r => some (g r)) ≠ .none → κ'.nm r = some d → lookB i (enumB bs' 0) ≠ .none ∧ κ1'.nm i = some d := by
        intro r i b0 d hb0 hgi hbn hd
        exact ⟨hlive' i b0 hb0 hbn, by rw [← hnm' i, hgi]; exact hd⟩
      have own : ∀ r d, r ∉ rs → lookB r sto ≠ .none → κ'.nm r = some d → κ.nm r = some d := by
        intro r d hr hbn hd
        obtain ⟨d', hd'⟩ := (hS.blk r).named hbn
        have := hext.nm r d' hd'
        rw [this] at hd; cases hd; exact hd'
      have mix : ∀ r i b0 d d' b, bs'[i]? = some b0 → b0.ren (fun r => some (g r)) ≠ .none → κ1'.nm i = some d → d.block = some b → lookB i (enumB bs' 0) ≠ .none → r ∉ rs → lookB r sto ≠ .none → κ.nm r = some d' → d'.block ≠ some b := by
        intro r i b0 d d' b hb0 hbn hd hdb hl hr hrl hd' hdb'
        obtain ⟨q1, q2⟩ := hout r d' b hrl hr hd' hdb'
        rcases hS'.mine i d b hl hd hdb with h | h
        · exact absurd q1 (Nat.not_lt.2 h)
        · exact q2 h
      rcases hσ' r with ⟨i, b1, hb1, hgi, e⟩ | e | ⟨hr, hni, e⟩
      · have h1' : b1.ren (fun r => some (g r)) ≠ .none := by
          intro h0; exact h1 (e.trans h0)
        obtain ⟨p1, p2⟩ := cal r i b1 d hb1 hgi h1' hd
        rcases hσ' r' with ⟨j, b2, hb2, hgj, e'⟩ | e' | ⟨hr', hni', e'⟩
        · have h2' : b2.ren (fun r => some (g r)) ≠ .none := by
            intro h0; exact h2 (e'.trans h0)
          obtain ⟨p3, p4⟩ := cal r' j b2 d' hb2 hgj h2' hd'
          exact hS'.apart i j d d' b p1 p3 (fun hij => hrr (by rw [← hgi, ← hgj, hij])) p2 p4 hb
        · exact absurd e' h2
        · have h2' : lookB r' sto ≠ .none := by intro h0; exact h2 (e'.trans h0)
          exact mix r' i b1 d d' b hb1 h1' p2 hb p1 hr' h2' (own r' d' hr' h2' hd')
      · exact absurd e h1
      · have h1' : lookB r sto ≠ .none := by intro h0; exact h1 (e.trans h0)
        have hd0 := own r d hr h1' hd
        rcases hσ' r' with ⟨j, b2, hb2, hgj, e'⟩ | e' | ⟨hr', hni', e'⟩
        · have h2' : b2.ren (fun r => some (g r)) ≠ .none := by
            intro h0; exact h2 (e'.trans h0)
          obtain ⟨p3, p4⟩ := cal r' j b2 d' hb2 hgj h2' hd'
          intro hb'
          exact mix r j b2 d' d b hb2 h2' p4 hb' p3 hr h1' hd0 hb
        · exact absurd e' h2
        · have h2' : lookB r' sto ≠ .none := by intro h0; exact h2 (e'.trans h0)
          exact hS.apart r r' d d' b h1' h2' hrr hd0 (own r' d' hr' h2' hd') hb
    · rcases hσ' r with ⟨i, b1, hb1, hgi, e⟩ | e | ⟨hr, hni, e⟩
      · have h1' : b1.ren (fun r => some (g r)) ≠ .none := by
          intro h0; exact h1 (e.trans h0)
        refine hm1 b (hS'.mine i d b (hlive' i b1 hb1 h1') (by rw [← hnm' i, hgi]; exact hd) hb)
      · exact absurd e h1
      · have h1' : lookB r sto ≠ .none := by intro h0; exact h1 (e.trans h0)
        obtain ⟨d', hd'⟩ := (hS.blk r).named h1'
        have := hext.nm r d' hd'
        rw [this] at hd; cases hd
        exact .inr ⟨r, d, h1', hd', hb⟩
    · refine ⟨hS'.glob.1, fun g' hg' => ?_⟩
      obtain ⟨h1, h2, cs, T, fz, h3, h4⟩ := hS.glob.2 g' hg'
      exact ⟨h1, h2, cs, T, fz, (hL.block g' h1 fun h => h2 (hl1 g' h)).trans h3, h4⟩
  · show (if r < next then κ.nm r else κ1'.nm (k + (r - next))) = none
    rw [if_neg (by omega)]
    exact hf' _ (by omega)
def lentOk (k : Nat) (rs : List Nat) (bs bs' : List Blk) (next : Nat) : Bool :=
  decide (k ≤ bs.length) && decide (k ≤ bs'.length) && (bs.take k).all (fun b => match b with | .none => false | _ => true) && rs.all (fun r => decide (r < next)) && decide rs.Nodup
theorem ACall.lentK {k f : Nat} {args0 : List AV} {bs : List Blk} {v : AV} {bs' : List Blk} (h : Lent P G k f args0 bs v bs') (rs : List Nat) {args : List AV} {env : List (Nat × AV)} {sto : List (Nat × Blk)} {next : Nat} {K : AV → St → Prop}
    (hok : lentOk k rs bs bs' next = true) (hargs : AVzL args (AV.renL (gSo next rs) args0)) (hbs : LentAt sto (gSo next rs) rs bs)
    (hK : K (v.ren (gSo next (rs.take k))) ⟨env, outB (gSo next (rs.take k)) bs' 0 (gIn next (rs.take k)) ++ (noneB (rs.drop k) ++ sto), next + (bs'.length - k)⟩) : ACall P G f args ⟨env, sto, next⟩ K := by
  simp only [lentOk, Bool.and_eq_true, decide_eq_true_eq, List.all_eq_true] at hok
  obtain ⟨⟨⟨⟨h1, h2⟩, h3⟩, h4⟩, h5⟩ := hok
  refine ACall.lent (h.frame hargs hbs h5 h4 h1 h2 (fun b hb e => ?_)) ?_
  · have := h3 b hb
    subst e; cases this
  · rintro v' sto' next' ⟨rfl, rfl, rfl⟩
    exact hK
theorem ACall.weak {f : Nat} {args args' : List AV} {s s' : St} {K : AV → St → Prop} (hw : WkC s args s' args') (h : ACall P G f args' s' K) : ACall P G f args s K := by
  obtain ⟨s2, args2, hw2, h2⟩ := h
  refine ⟨s2, args2, ⟨hw2.1.trans hw.1, hw2.2.1.trans hw.2.1, fun c κ0 κ N a w vals hR hv => ?_⟩, ?_⟩
  · obtain ⟨κ1, h3, h4⟩ := hw.2.2 c κ0 κ N a w vals hR hv
    exact hw2.2.2 c κ0 κ1 N a w vals h3 h4
  · rcases h2 with ⟨ps, r, k1, k2, k3⟩ | ⟨Q, k1, k2⟩
    · exact .inl ⟨ps, r, k1, k2, k3⟩
    · refine .inr ⟨Q, k1, fun v sto' next' hq => ?_⟩
      have := k2 v sto' next' hq
      rw [hw.2.1] at this
      exact this
end
end Go.Ab
set_option linter.unusedVariables false
namespace Go.Ab
open Go
theorem enumB_nil (k : Nat) : enumB [] k = [] := _root_.id rfl
theorem enumB_cons (b : Blk) (r : List Blk) (k : Nat) : enumB (b :: r) k = (k, b) :: enumB r (k + 1) := _root_.id rfl
theorem lentAt_nil (sto : List (Nat × Blk)) (f : Nat → Option Nat) : LentAt sto f [] [] = True := _root_.id rfl
theorem lentAt_cons (sto : List (Nat × Blk)) (f : Nat → Option Nat) (r : Nat) (rs : List Nat) (b : Blk) (bs : List Blk) : LentAt sto f (r :: rs) (b :: bs) = (BlkZ (lookB r sto) (b.ren f) ∧ LentAt sto f rs bs) := _root_.id rfl
theorem outB_nil (f : Nat → Option Nat) (i : Nat) (g : Nat → Nat) : outB f [] i g = [] := _root_.id rfl
theorem outB_cons (f : Nat → Option Nat) (b : Blk) (r : List Blk) (i : Nat) (g : Nat → Nat) : outB f (b :: r) i g = (g i, b.ren f) :: outB f r (i + 1) g := _root_.id rfl
theorem noneB_nil : noneB [] = [] := _root_.id rfl
theorem noneB_cons (r : Nat) (q : List Nat) : noneB (r :: q) = (r, .none) :: noneB q := _root_.id rfl
theorem gSo_eq (next : Nat) (rs : List Nat) (r : Nat) : gSo next rs r = some (gIn next rs r) := _root_.id rfl
theorem gIn_nil (next i : Nat) : gIn next [] i = next + i := _root_.id rfl
theorem gIn_0 (next r : Nat) (q : List Nat) : gIn next (r :: q) 0 = r := _root_.id rfl
theorem gIn_s (next r i : Nat) (q : List Nat) : gIn next (r :: q) (i + 1) = gIn next q i := _root_.id rfl
def elemsB (s sz off len : Nat) : Blk → Option (List PV)
  | .cells _ _ l => if s = 1 ∧ sz = 1 ∧ off + len ≤ l.length ∧ ((l.drop off).take len).all AV.one = true then pvs ((l.drop off).take len) else none
  | _ => none
theorem elemsOf_row (σ : Store) (sz r s off len : Nat) : elemsOf σ sz (.row r s off len) = elemsB s sz off len (σ r) := by
  simp only [elemsOf, elemsB]
  cases σ r <;> rfl
theorem all_one_int (k : IntKind) (l : List Int) : (l.map (PV.int k)).all PV.one = true := by
  rw [List.all_eq_true]; intro x hx; obtain ⟨n, _, rfl⟩ := List.mem_map.1 hx; rfl
theorem elemsB_pv {T : Nat} {f : Bool} {l : List PV} {n : Nat} (h : n ≤ l.length) (h1 : l.all PV.one = true) : elemsB 1 1 0 n (.cells T f (l.map .pv)) = some (l.take n) := by
  have h2 : (((l.map AV.pv).drop 0).take n) = (l.take n).map .pv := by rw [List.drop_zero, List.map_take]
  have h3 : ((l.take n).map AV.pv).all AV.one = true := by
    rw [List.all_eq_true] at h1 ⊢
    intro x hx
    obtain ⟨y, hy, rfl⟩ := List.mem_map.1 hx
    exact h1 y (List.mem_of_mem_take hy)
  have h4 : ∀ k : List PV, pvs (k.map .pv) = some k := by
    intro k
    induction k with
    | nil => rfl
    | cons a r ih => simp [pvs, AV.toPV, ih]
  simp only [elemsB]
  rw [if_pos (by refine ⟨trivial, trivial, by simp; omega, by rw [h2]; exact h3⟩), h2, h4]
theorem elemsB_int {T : Nat} {f : Bool} {k : IntKind} {p : List Int} {n : Nat} (h : n = p.length) : elemsB 1 1 0 n (.cells T f ((p.map (PV.int k)).map .pv)) = some (p.map (PV.int k)) := by
  rw [elemsB_pv (by simp; omega) (all_one_int k p), List.take_of_length_le (by simp; omega)]
theorem rSliceL_rowhi {sz r off n : Nat} {k : IntKind} {h : Int} (h0 : 0 ≤ h) (h1 : h ≤ n) (hs : 0 < sz) : rSliceL sz (.row r sz off n) none (some (.pv (.int k h))) = some (.row r sz off h.toNat) := by
  simp [rSliceL, rBound, h0, h1, hs]
theorem toNat_s1 (n : Nat) : ((n : Int) + 1).toNat = n + 1 := by omega
theorem add_sub1 (n : Int) : n + 1 - 1 = n := by omega
def revK : List Nat → List Nat → List Nat
  | [], a => a
  | x :: r, a => revK r (x :: a)
theorem revK_nil (a : List Nat) : revK [] a = a := _root_.id rfl
theorem revK_cons (x : Nat) (r a : List Nat) : revK (x :: r) a = revK r (x :: a) := _root_.id rfl
theorem revK_eq : ∀ (l a : List Nat), l.reverse ++ a = revK l a
  | [], a => rfl
  | x :: r, a => by rw [revK_cons, ← revK_eq r (x :: a)]; simp
theorem keysL_rev (l : List (Nat × Blk)) : keysL l.reverse = revK (keysL l) [] := by
  rw [← revK_eq, List.append_nil]; simp [keysL]
theorem rowT_two (ks rs : List Nat) : rowT 2 ks rs = (0 :: ks.map (· + 1), rs.map (· + 1)) := by simp [rowT]
theorem lent_z (A : List (Nat × Nat × Nat × Nat)) {k : Nat} {v v' : AV} {bs' : List Blk} {sto' : List (Nat × Blk)} {next' : Nat} (h : StZ (normA A k [0] ⟨[(0, v')], sto', next'⟩) ⟨[(0, v)], enumB bs' 0, bs'.length⟩) : lentR k v bs' v' sto' next' := Wk.head h
theorem ACall.nilB (r o e sz : Nat) {P : Program} {G : Nat → List PV} {f : Nat} {args : List AV} {s : St} {K : AV → St → Prop} (he : (accB r o e sz s (lookB r s.sto)).env = s.env) (h : ACall P G f args (accB r o e sz s (lookB r s.sto)) K) : ACall P G f args s K :=
  ACall.weak (WkC.of (wx_accB r o e sz s) he args) h
end Go.Ab
namespace Go.Ab
open Go
attribute [push_cast] wrap_i64 wrap_i32 wrap_u8 wrap_u64 wrap_u32 dlt_t dlt_f dle_t dle_f deq_t deq_f look_cons
  look_nil lookB_cons lookB_nil evE_t evE_c evO_some evO_none evL_nil evL_cons evP_nil evP_cons tRun_mv
  tRun_pick tRun_build tRun_faddr tRun_field tRun_iaddr tRun_iaddrA tRun_index tRun_indexA tRun_len tRun_lenC tRun_imin tRun_imax
  tRun_sliceL tRun_sliceS tRun_bin tRun_beq rBeqM_t rBeqM_f tRun_neg tRun_not tRun_compl tRun_conv tRun_beqS rBeqS_agg
  eqPs_nil eqPs_bool eqPs_int eqPs_str andO_some tRun_convIS rConvIS_int tRun_convS tRun_clo tRun_ext tRun_nilck rPick_t
  rPick_f rFaddr_ptr rFaddr_eptr rFaddr_gptr rField_pv rField_av partA_t partA_f rElem_nat rElem_succ rIaddr_list rIaddr_olist
  rIaddr_row rLen_str rLen_list rLen_nils rLen_olist rLen_row rBound_some rBound_none cut2_some bnd2_some rSliceS_str rBin_add
  rBin_sub rBin_mul rBin_quo rBin_rem rBin_and rBin_or rBin_xor rBin_andNot rBin_eql rBin_neq rBin_lss rBin_leq
  rBin_gtr rBin_geq rBinS_add rBinS_eql rBinS_neq rBinS_lss rBinS_leq rBinS_gtr rBinS_geq rBeq_bool rBeq_ptr rBeq_eptr
  rBeq_nilp rBeq_cons rBeq_ocons rBeq_row rBeq_nils rNeg_int rNot_bool rConv_int rConvS_str rNil_ptr rNil_eptr rNil_gptr
  rNil_pclo rNil_clo rExt_pv rExt_av omap_some map_pv_nil map_pv_cons get0 getS pvs_nil pvs2_some pvs2_none
  pvs2_none' pvs_cons toPV_pv toPV_olist toPV_ptr toPV_row toPV_agg toPV_tup toPV_clo mkAgg_o mkAggO_some mkAggO_none
  mkTup_o mkTupO_some mkTupO_none mkClo_o mkCloO_some mkCloO_none mkCloO_none' cellsA_pv cellsA_agg cellsA_tup cellsA_ptr cellsA_row
  cellsA_olist cellsA_clo cells_agg cells_bool cells_int cells_str cells_nils cells_list cells_nilp cells_nilf cells_clo cells_eptr
  cells_gptr loadB_cells loadO_some rLoad_ptr rLoad_eptr rLoad_gptr loadE_f loadE_t withD_some withV_some mRun_alloc boxD_t
  mRun_box cboxO_some mRun_cbox known_pv known_agg known_tup known_ptr known_row known_olist known_clo mRun_load mRun_store
  rClear_row mRun_clear mRun_bslice mRun_append mRun_mk rMk_nil rStore_ptr storeB_cells storeC_t room_ok updB_nil updB_cons
  cloOf_pv cloOf_av onSomeI nextT_eq nextT_no nextM_eq nextM_no nextC_eq nextC_no callC_eq vcOps_nil vcOps_cons
  wantedV_t wantedV_f wantedV_u vcOps_guard doIf_true doIf_false doIf_false' onSomeE_some onSomeE_none nilE_nil rBeq_nil doOp_t
  doOp_m doOp_call stepT_eq stepT_no stepM_eq stepM_no rowT_0 rowT_1 rowT_2 makesN_load makesN_store makesN_toStr
  makesN_clear makesN_sliceA makesN_alloc makesN_box makesN_cbox makesN_bslice makesN_append makesN_mk vcD_nil vcD_cons vcD_guard doIfD_true
  doIfD_false doIfD_false' doOpD_t mReads_mk mReads_toStr mReads_clear mReads_load mReads_box mReads_cbox mReads_alloc mReads_store mReads_append
  mReads_bslice name_pv name_ptr name_row name_olist keysL_nil keysL_cons doOpD_m doOpD_call clipE_nil clipE_cons clean_nil
  clean_cons consB_t consB_f memN_nil memN_c normK_eq SeqK_norm SeqK_exit SeqK_ret BlockK_norm BlockK_exit BlockK_ret
  vc_skip vc_ops vc_draw doOp_fz vc_seq vc_cond vc_block vc_exit vc_ret onBool_b ifB_t ifB_f
  resE_tmp resE_cell FnK_norm FnK_ret retK_eq retV_1 retV_0 retV_2 cons2_some resVs_nil resVs_cons pureR_eq
  isR_pv isR_olist isRF_some isR_agg isR_row initE_nil initE_cons initEnv_eq RoundA_norm RoundA_exit RoundA_ret pickE_nil
  pickE_cons overE_nil overE_cons pickB_nil pickB_cons overB_nil overB_cons nz_self nz_nils nz_agg nz_tup nz_bool
  nz_int nz_str nzL_nil nzL_cons rMin_min rMax_max toNat_minN toNat_minN' take_minL take_minR map_take map_drop
  omap_none rAppend_eq app_ol appOl_ok app_nil0 app_nil1 app_row appRw_ok appRw_zero elems_nils elems_list elemsChk_t
  elems_olist bsl_f bslD_t bslC_some bslC_none bsl_t0 one_bool one_int one_str one_nils one_list oneA_pv
  oneA_ptr oneA_row oneA_olist oneA_clo rSliceL_list rSliceL_olist onCutH_some onCut_zero onCut_some onElem_ite all_mapF all_tt
  beq_nn loadI_t loadE_t0 isAgg_agg fRun_n fRun_l fzO_some frzV_agg frzV_pv frzV_ol frzV_row frzC_pv
  frzC_ol frzC_row frzL_nil frzL_cons frz2_some frzD_eq names_pv names_ptr names_row names_ol names_agg names_tup
  names_clo names_any namesL_nil namesL_cons namesL_pv namesL_flat namesB_cells namesB_tok namesB_none addN_nil addN_cons addN1_t
  addN1_f geN_nil geN_cons blkNames_nil blkNames_cons reach_0 reach_s envNames_nil envNames_cons rng_0 rng_s normE_nil
  normE_cons norm_eq normO_c normO_n renSto_nil renSto_cons newName_eq idxN_nil idxN_cons ren_pv ren_any ren_ptr
  ren_row ren_ol ren_agg ren_tup ren_clo renP_some renR_some renO_some renL_nil renL_cons renL_pv renL_flat
  renB_cells renB_tok renB_none normA_eq accs_nil accs_slot accs_cell accC_nils accC_row nilAV_l nilAV_r nilBlk_l
  nilBlk_r accC_ol accP_ptr accB_cells accD_nils accD_row accD_ol set0 setS st_eq dNlt_t dNlt_f
  dNle_t dNle_f dNeq_t dNeq_f fillC_t fillA_nil fillA_cons partT_eq RoundX_norm RoundX_exit RoundX_ret avz_self
  avz_pv avz_list avzL_nil avzL_cons envz_nil envz_cons blkz_self blkz_t blkz_f blkz_n avzP_nil avzP_cons
  avzP_self avzP_app avzL_self stoz_nil stoz_cons stz_eq enumB_nil enumB_cons lentAt_nil lentAt_cons outB_nil outB_cons
  noneB_nil noneB_cons gSo_eq gIn_nil gIn_0 gIn_s elemsOf_row all_one_int elemsB_int rSliceL_rowhi toNat_s1 add_sub1
  revK_nil revK_cons keysL_rev rowT_two Nat.zero_add Nat.add_zero List.length_cons List.length_nil List.nil_append List.cons_append List.append_nil List.append_assoc
  List.getElem?_map List.length_map List.map_nil List.map_cons List.take_succ_cons List.take_zero List.drop_succ_cons List.drop_zero List.take_nil List.drop_nil List.all_cons List.all_nil
  Bool.and_true Bool.true_and Bool.and_false Bool.false_and Bool.not_true Bool.not_false decide_true decide_false Bool.not_not Int.natCast_add Int.cast_ofNat_Int Int.toNat_natCast
  Option.some.injEq and_true true_and ge_iff_le Nat.le_refl Nat.zero_le Nat.not_lt_zero and_self
attribute [push_cast high] Int.cast_ofNat_Int
end Go.Ab
