/- A program logic over the model: part 5 (a proof is built on it; nothing of the statement is said here). -/
import Derived.ProofKit
import Derived.OpenShut
import Derived.ShutString
import Derived.ChangeOld
import Derived.Carry
import Derived.WideShapes
import Derived.Deep.DeepHandedRow
import Derived.Lib.LaidU8T
import Derived.Test.YtikmckfppnmlnaaDoorCore4
/- From the contract of a law to its row's sentence. -/
set_option linter.unusedVariables false
set_option linter.unusedSimpArgs false
namespace Go.Ab
open Go Go.RowKit Go.ChangeShapes Go.WideShapes

section
variable {H : Type} {enc : TypeId × Value → H} {P : Program} {W : World} {ts : List TypeId} {base : Nat}

/-- All that lay there when the call began is never written again. -/
def immOf (W : World) : Nat → Nat → Prop := fun b _ => b < W.heap.size

theorem arg_rel (hts : okTs P ts = true) {t : TypeId} (ht : t ∈ ts) {v : Value} {d : DataW H} {p : List MemPlace} (hok : Value.okWide P W .any base t v) (h : DataW.Trod enc P W 0 (fun _ => true) true t v d p) (hz : (d.weights P t).all (· ≤ reachBytes) = true) :
    ∃ x, HasT P t x ∧ PRel W (immOf W) x v := by
  obtain ⟨fuel, hf⟩ := h
  obtain ⟨x, h1, h2⟩ := trod_rel (w := W) (imm := immOf W) hts (fun b o h => h) fuel t _ d p ht hf hz
  refine ⟨x, h1, ?_⟩
  cases h1 with
  | bool _ b hu => obtain ⟨b', rfl⟩ := okWide_bool hu hok; exact relC_val (.bool _ _ hu) h2 (by simp [isAggT, hu]) (fun _ => rfl)
  | int _ k n hu hw => obtain ⟨b', rfl⟩ := okWide_int hu hok; exact relC_val (.int _ _ _ hu hw) h2 (by simp [isAggT, hu]) (fun _ => rfl)
  | str _ s hu hs => obtain ⟨b', rfl⟩ := okWide_string hu hok; exact relC_val (.str _ _ hu hs) h2 (by simp [isAggT, hu]) (fun _ => rfl)
  | list _ e l hu hl hl2 hle => obtain ⟨a, len, cap, rfl⟩ := okWide_slice hu hok; exact relC_val (.list _ _ _ hu hl hl2 hle) h2 (by simp [isAggT, hu]) (fun _ => rfl)
  | agg _ fs cs hu hl hle => obtain ⟨cs', rfl, _⟩ := okWide_struct hu hok; exact relC_val (.agg _ _ _ hu hl hle) h2 (fun _ => ⟨_, rfl⟩) (by simp [isAggT, hu])

theorem args_rel (hts : okTs P ts = true) : ∀ (tys : List TypeId) (vs : List Value) (ds : List (DataW H)) (p : List MemPlace), (∀ t ∈ tys, t ∈ ts) → (∀ (j : Nat) (t : TypeId) (v : Value), tys[j]? = some t → vs[j]? = some v → Value.okWide P W .any base t v) →
    DataW.TrodAll enc P W 0 (fun _ => true) true tys vs ds p → (DataW.weightsEach P tys ds).all (· ≤ reachBytes) = true → vs.length = tys.length ∧ ds.length = tys.length ∧ ∃ xs : List PV, xs.length = tys.length ∧ (∀ (i : Nat) (x : PV), xs[i]? = some x → PRel W (immOf W) x (vs.getD i Go.undef)) ∧ (∀ (i : Nat) (t : TypeId) (x : PV), tys[i]? = some t → xs[i]? = some x → HasT P t x)
  | [], vs, ds, p, _, _, h, _ => by
    cases vs <;> cases ds <;> simp [DataW.TrodAll] at h
    exact ⟨rfl, rfl, [], rfl, by simp, by simp⟩
  | t :: tys, vs, ds, p, ht, hok, h, hz => by
    obtain ⟨v, vs', d, ds', p', q', rfl, rfl, rfl, h1, h2⟩ := trodAll_cons h
    simp only [DataW.weightsEach, List.all_append, Bool.and_eq_true] at hz
    obtain ⟨x, k1, k2⟩ := arg_rel (base := base) hts (ht t (by simp)) (hok 0 t v rfl rfl) h1 hz.1
    obtain ⟨l1, l2, xs, l3, l4, l5⟩ := args_rel hts tys vs' ds' q' (fun t h => ht t (by simp [h])) (fun j t v h1 h2 => hok (j + 1) t v (by simpa using h1) (by simpa using h2)) h2 hz.2
    refine ⟨by simp [l1], by simp [l2], x :: xs, by simp [l3], fun i y hy => ?_, fun i t' y ht' hy => ?_⟩
    · cases i with
      | zero => simp only [List.getElem?_cons_zero, Option.some.injEq] at hy; subst hy; simpa using k2
      | succ i => simpa using l4 i y (by simpa using hy)
    · cases i with
      | zero =>
        simp only [List.getElem?_cons_zero, Option.some.injEq] at hy ht'
        subst hy; subst ht'; exact k1
      | succ i => exact l5 i t' y (by simpa using ht') (by simpa using hy)

theorem trodAll_lt : ∀ (tys : List TypeId) (vs : List Value) (ds : List (DataW H)) (p : List MemPlace), DataW.TrodAll enc P W 0 (fun _ => true) true tys vs ds p → ∀ x ∈ p, x.block < W.heap.size
  | [], vs, ds, p, h => by
    cases vs <;> cases ds <;> simp [DataW.TrodAll] at h
    subst h; simp
  | t :: tys, vs, ds, p, h => by
    obtain ⟨v, vs', d, ds', p', q', rfl, rfl, rfl, ⟨m, hm⟩, h2⟩ := trodAll_cons h
    intro x hx
    rcases List.mem_append.1 hx with hx | hx
    · exact DataW.trod_lt m _ _ _ hm x hx
    · exact trodAll_lt tys vs' ds' q' h2 x hx

theorem args_back (hlaid : laidOutB P = true) {W' : World} (hb : Below W.heap.size W W') : ∀ (tys : List TypeId) (vs : List Value) (ds : List (DataW H)) (p : List MemPlace), (∀ t ∈ tys, P.readableRec t = true ∧ t < P.types.size) →
    DataW.TrodAll enc P W 0 (fun _ => true) true tys vs ds p → DataW.TrodAll enc P W' 0 (fun b => decide (b < W.heap.size)) true tys vs ds p
  | [], vs, ds, p, _, h => by
    cases vs <;> cases ds <;> simp [DataW.TrodAll] at h
    subst h
    exact trodAll_mk0
  | t :: tys, vs, ds, p, ht, h => by
    have hlt := trodAll_lt _ _ _ _ h
    obtain ⟨v, vs', d, ds', p', q', rfl, rfl, rfl, h1, h2⟩ := trodAll_cons h
    exact trodAll_cons_mk (Below.trod hlaid (ht t (by simp)).1 (ht t (by simp)).2 h1 hb (fun x hx => hlt x (List.mem_append.2 (.inl hx)))) (args_back hlaid hb tys vs' ds' q' (fun t h => ht t (by simp [h])) h2)

theorem weightsEach_left : ∀ (ts us : List TypeId) (ds gs : List (DataW H)), (DataW.weightsEach P (ts ++ us) (ds ++ gs)).all (· ≤ reachBytes) = true → (DataW.weightsEach P ts ds).all (· ≤ reachBytes) = true
  | [], _, _, _, _ => by simp [DataW.weightsEach]
  | _ :: _, _, [], _, _ => by simp [DataW.weightsEach]
  | t :: ts, us, d :: ds, gs, h => by
    simp only [List.cons_append, DataW.weightsEach, List.all_append, Bool.and_eq_true] at h ⊢
    exact ⟨h.1, weightsEach_left ts us ds gs h.2⟩

/-- WHAT A LAW's CONTRACT GIVES: its row's sentence. -/
theorem law_post {f : FuncId} {fn : Func} {s : ChangeSpec} {args : Array Value} {ds gs : List (DataW H)} {before : List MemPlace} {G : Nat → List PV} {tb : TypeId}
    (hs : s.vars = []) (hlaid : laidOutB P = true) (hread : ∀ t ∈ fn.params.toList, P.readableRec t = true ∧ t < P.types.size) (hts : okTs P ts = true) (htys : ∀ t ∈ fn.params.toList, t ∈ ts)
    (hres : fn.resultTypes = #[tb]) (htb : P.underlying tb = some .bool)
    (hfn : ∀ ds : List (DataW H), ds.length = fn.params.toList.length → s.fn H ds = { results := [.lit (.bool true)], args := ds })
    (hval : ∀ (j : Nat) (t : TypeId) (v : Value), fn.params[j]? = some t → args[j]? = some v → Value.okWide P W .any base t v) (hW : DataW.Whole enc P fn.params.toList s.vars false W args.toList ds gs before)
    (hsz : (DataW.weightsEach P (fn.params.toList ++ s.plain.varTypes P) (ds ++ gs)).all (· ≤ reachBytes) = true)
    (hG : GlobOk G W (immOf W))
    (hlaw : ∀ ps : List PV, ps.length = fn.params.toList.length → (∀ (i : Nat) (t : TypeId) (x : PV), fn.params.toList[i]? = some t → ps[i]? = some x → HasT P t x) → Pure P G f ps (.bool true)) :
    Calls P f args W fun e W' => ∃ v, e = .returned v ∧ s.post enc P fn false true false false W args v W' := by
  have hW' := hW
  obtain ⟨p, q, hA, hV, rfl, hfz, hnd⟩ := hW
  rw [hs] at hV
  obtain ⟨rfl, rfl⟩ := trodVars_none hV
  obtain ⟨l1, l2, xs, l3, l4, l5⟩ := args_rel (base := base) hts fn.params.toList args.toList ds p htys (fun j t v h1 h2 => hval j t v (by simpa using h1) (by simpa using h2)) hA (weightsEach_left _ _ _ _ hsz)
  obtain ⟨_, hP⟩ := hlaw xs l3 l5
  refine (hP W (immOf W) args hG (fun b o h => h) (by rw [l3, ← l1]; simp) (fun i x hx => by rw [getD_toList]; exact l4 i x hx)).mono ?_
  rintro e W' ⟨u, imm', rfl, hb, _, _, _, hu⟩
  cases hu
  refine ⟨_, rfl, ds, [], _, [], p, [], hW', ?_, ?_, ?_, hb.frame _, fun h => by cases h⟩
  · rw [hres, List.append_nil, hfn ds l2]
    exact trodAll_mk1 (shut_bool htb _)
  · rw [List.append_nil, hfn ds l2]
    exact args_back hlaid hb _ _ _ _ hread hA
  · rw [hs, List.append_nil, hfn ds l2]
    rfl

/-- What a row's list of a table gives. -/
theorem glob_of {G : Nat → List PV} {name : String} {k : IntKind} {zs : List Int} {g : Nat} (ht : Lib.TabIs P W name k zs) (hn : P.globalNamed name = some g) (hG : G = fun x => if x = g then zs.map (PV.int k) else []) : GlobOk G W (immOf W) := by
  unfold Lib.TabIs World.var? at ht
  rw [hn] at ht
  simp only [Option.bind_some] at ht
  split at ht
  · rename_i cs T fz hh
    cases ht
    subst hG
    refine ⟨fun x o p hp => ?_, fun x hx => ?_⟩
    · simp only at hp
      split at hp
      · rename_i hx
        subst hx
        simp only [List.getElem?_map, Option.map_eq_some_iff] at hp
        obtain ⟨z, hz, rfl⟩ := hp
        refine ⟨(Array.getElem?_eq_some_iff.1 hh).1, .int k z, ?_, rfl, .int _ _⟩
        rw [cell_of_row W x o _ T fz hh]
        simp [hz]
      · simp at hp
    · simp only at hx ⊢
      split at hx
      · rename_i hxg
        subst hxg
        exact ⟨_, T, fz, hh, by simp⟩
      · exact absurd rfl hx
  · cases ht
end
end Go.Ab
/- Several tables of a program, as a row's condition lays them. -/
set_option linter.unusedVariables false
set_option linter.unusedSimpArgs false
namespace Go.Ab
open Go Go.RowKit Go.Proofs Go.Lib
section
variable {P : Program} {W : World}
theorem trod_len {H : Type} {enc : TypeId × Value → H} {w : World} {base : Nat} {sp : Nat → Bool} {held : Bool} {fuel n : Nat} {t e : TypeId} {cs : List Value} {x : DataW H × List MemPlace} (ht : P.underlying t = some (.array n e))
    (h : DataW.trod enc P w base sp held fuel t cs = some x) : cs.length = P.cellsOf t := by
  cases fuel with
  | zero => simp [DataW.trod] at h
  | succ fuel =>
    simp only [DataW.trod, ht] at h
    split at h
    · assumption
    · cases h
/-- A table holds numbers. -/
structure TabAt (w : World) (g : Nat) (ps : List PV) : Prop where
  obj : ∃ cs T fz, w.heap[g]? = some (.cells cs T fz) ∧ cs.size = ps.length
  cell : ∀ (o : Nat) (p : PV), ps[o]? = some p → ∃ k z, p = .int k z ∧ w.cell? ⟨g, o, none⟩ = some (.int k z)
theorem globOk_of {G : Nat → List PV} (h : ∀ g, G g ≠ [] → TabAt W g (G g)) : GlobOk G W (immOf W) := by
  refine ⟨fun g o p hp => ?_, fun g hg => (h g hg).obj⟩
  have hne : G g ≠ [] := by intro e; rw [e] at hp; simp at hp
  obtain ⟨k, z, rfl, hc⟩ := (h g hne).cell o p hp
  exact ⟨World.block_lt_of_cell? W _ hc, _, hc, rfl, .int _ _⟩
theorem tabAt_of {n : String} {g : Nat} {t e : TypeId} {m : Nat} {d : DataW Unit} {ps : List PV} (hv : VarReads P W n d) (hg : P.globalNamed n = some g) (hty : (P.globals[g]?).map (·.type) = some t) (ht : P.underlying t = some (.array m e)) (hl : P.cellsOf t = ps.length)
    (h : ∀ (o : Nat) (p : PV), ps[o]? = some p → ∃ k z, p = .int k z ∧ W.cell? ⟨g, o, none⟩ = some (.int k z)) : TabAt W g ps := by
  refine ⟨?_, h⟩
  obtain ⟨g', t', cs, fuel, p, hg', hty', hvar, hd⟩ := hv
  obtain rfl := Option.some.inj (hg.symm.trans hg')
  obtain rfl := Option.some.inj (hty.symm.trans hty')
  have hlen := trod_len ht hd
  unfold World.var? at hvar
  rw [hg] at hvar
  simp only [Option.bind_some] at hvar
  split at hvar
  · rename_i cs' T fz hh
    cases hvar
    exact ⟨cs, T, fz, hh, by rw [← hl, ← hlen]; simp⟩
  · cases hvar
theorem tabAt_ints {n : String} {g : Nat} {t e : TypeId} {m : Nat} {k : IntKind} {zs : List Int} (hv : VarReads P W n (Lib.tabData k zs)) (hg : P.globalNamed n = some g) (hty : (P.globals[g]?).map (·.type) = some t) (ht : P.underlying t = some (.array m e))
    (he : P.underlying e = some (.int k)) (hce : P.cellsOf e = 1) (hct : P.cellsOf t = m) (hm : m = zs.length) : TabAt W g (zs.map (PV.int k)) := by
  have hv' := hv
  refine tabAt_of hv hg hty ht (by rw [hct, hm]; simp) fun o p hp => ?_
  simp only [List.getElem?_map, Option.map_eq_some_iff] at hp
  obtain ⟨z, hz, rfl⟩ := hp
  refine ⟨k, z, rfl, ?_⟩
  obtain ⟨g', t', cs, fuel, q, hg', hty', hvar, hd⟩ := hv'
  obtain rfl := Option.some.inj (hg.symm.trans hg')
  obtain rfl := Option.some.inj (hty.symm.trans hty')
  have hcs := Lib.cells_of_tab ht he hce hct hd
  rw [World.var?_cell hg hvar o, ← Array.getElem?_toList, hcs]
  simp [hz]
end
end Go.Ab
