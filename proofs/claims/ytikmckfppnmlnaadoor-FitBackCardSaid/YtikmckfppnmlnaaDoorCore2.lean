/- A program logic over the model: part 2 (a proof is built on it; nothing of the statement is said here). -/
import Derived.Lib.Overlaps
import Derived.Lib.AppendZerosOnto
import Derived.KernelRfl
import Derived.Laws.BytesString
import Derived.Laws.Cells
import Derived.Laws.MakeOwn
import Derived.Test.YtikmckfppnmlnaaDoorCore1
set_option linter.unusedVariables false
set_option linter.unusedSimpArgs false
namespace Go.Ab
open Go Go.RowKit
section
variable {P : Program} {c : Ctx} {κ : Kap} {σ : Store}
structure ElemInfo (P : Program) (t e sz by_ : Nat) : Prop where
  under : P.underlying t = some (.slice e)
  info : ∃ i z, P.info? e = some i ∧ i.zero = some z ∧ i.size = sz ∧ i.bytes = by_ ∧ z.cells.size = sz
theorem room_le {n m by_ : Nat} (h : room n m by_ = true) : n + m ≤ maxLen ∧ (n + m) * by_ ≤ 140737488355328 := by
  simp only [room, Bool.and_eq_true, decide_eq_true_eq] at h
  exact ⟨by unfold maxLen; omega, h.2⟩
theorem take_mid (cur : List Value) (k m : Nat) (news xs : List Value) (hk : cur.take k = xs) (hl : k + news.length ≤ cur.length) :
    (cur.take k ++ news ++ cur.drop (k + news.length)).take (k + news.length) = xs ++ news := by
  rw [hk]
  have : (xs ++ news).length = k + news.length := by subst hk; simp; omega
  rw [← this]
  exact List.take_left
theorem s_append {t ty e sz by_ new : Nat} {x y v : AV} {ux uy : Value} {δ : List (Nat × Blk)} (hS : SRel c κ σ) (hw : c.w0.heap.size ≤ κ.w.heap.size) (hn : κ.nm new = none) (hI : ElemInfo P t e sz by_)
    (hx : ARel κ x ux) (hy : ARel κ y uy) (hr : rAppend false e sz by_ new σ x y = some (v, δ)) :
    ∃ u κ', (Builtin.append_ #[t, t] ty #[ux, uy]).run P κ.w = .ok u κ'.w ∧ ARel κ' v u ∧ Done c κ κ' new ∧ SRel c κ' (σ.upd δ) := by
  obtain ⟨hu, i, z, hi, hz, hsz, hby, hzs⟩ := hI
  unfold rAppend at hr
  split at hr
  · rename_i ys hys
    obtain ⟨A, m, cc, news, rfl, hm, hrow, hone, hat⟩ := elems_row hS hy hys
    split at hr
    · -- onto nil
      have hux : ux = .slice none 0 0 := by cases pv_inv hx; rfl
      subst hux
      split at hr
      · cases hr
        obtain ⟨v', w', h1, h2⟩ := run_append_cases (P := P) κ.w t ty e i z sz by_ hu hi hz hsz hby hzs (.slice none 0 0) 0 [] (World.ownsRow_nil _ _ _ _) A m cc news (by rw [hrow.1, hm]) hat hone (by rw [hm]; simp) (by rw [hm]; simp)
        rcases h2 with ⟨_, rfl, rfl⟩ | ⟨h0, _⟩ | ⟨h0, _⟩
        · exact ⟨_, κ, h1, .pv _ _ .nils, Done.same c κ new, by simpa [upd_nil] using hS⟩
        · simp at hm; omega
        · simp at hm; omega
      · rename_i y0 r
        split at hr
        · rename_i hroom
          cases hr
          obtain ⟨k1, k2⟩ := room_le hroom
          simp only [List.length_cons] at hm
          subst hm
          obtain ⟨v', w', h1, h2⟩ := run_append_cases (P := P) κ.w t ty e i z sz by_ hu hi hz hsz hby hzs (.slice none 0 0) 0 [] (World.ownsRow_nil _ _ _ _) A (r.length + 1) cc news (by rw [hrow.1]; rfl) hat hone k1 k2
          rcases h2 with ⟨h0, _⟩ | ⟨_, g, cap, cur, h0, _⟩ | ⟨_, cs, cap, rfl, rfl, q1, q2, q3, q4⟩
          · omega
          · cases h0
          · simp only [Nat.zero_add, List.nil_append] at q1 q4
            obtain ⟨κ', e1, e2, e3, e4⟩ := own_new (e := e) hS hw hn hrow (n := r.length + 1) rfl q1 q2 q3 q4 κ.w.drew rfl rfl rfl rfl
            exact ⟨_, κ', by rw [h1, e1], by simpa using e2, e3, e4⟩
        · cases hr
    · -- onto a list of the call's own
      rename_i q s l _
      split at hr
      · rename_i e' sz' hσ
        split at hr
        · rename_i hh
          obtain ⟨rfl, rfl, rfl, hroom⟩ := hh
          cases hr
          obtain ⟨k1, k2⟩ := room_le hroom
          cases hx with
          | olist _ _ _ _ hnm hp hls =>
            have hB := hS.blk q
            rw [hσ] at hB
            rcases hB with hq | ⟨g, n, cap, cur, hq, hg, hnc, hcm, hcs, hfree⟩
            · -- the nil slice
              rw [hnm] at hq
              simp only [Option.some.injEq, Den.own.injEq] at hq
              subst hq
              have hl0 : l = [] := by cases hp; rfl
              subst hl0
              subst hm
              obtain ⟨v', w', h1, h2⟩ := run_append_cases (P := P) κ.w t ty e' i z s by_ hu hi hz hsz hby hzs (.slice none 0 0) 0 [] (World.ownsRow_nil _ _ _ _) A ys.length cc news (by rw [hrow.1]) hat hone (by simpa using k1) (by simpa using k2)
              rcases h2 with ⟨h0, rfl, rfl⟩ | ⟨_, g, cap, cur, h0, _⟩ | ⟨_, cs, cap, rfl, rfl, q1, q2, q3, q4⟩
              · have hys0 : ys = [] := List.eq_nil_of_length_eq_zero h0
                subst hys0
                obtain ⟨a1, a2, a3⟩ := acc_new (hS.drop q) hn e' s
                exact ⟨_, (⟨κ.w, fun r => if r = new then some (.own (.slice none 0 0)) else κ.nm r, κ.imm⟩ : Kap), h1, a3, ⟨a1.ext, a1.left, a1.size, a1.fresh⟩, a2⟩
              · cases h0
              · simp only [Nat.zero_add, List.nil_append] at q1 q4
                obtain ⟨κ', e1, e2, e3, e4⟩ := own_new (e := e') (hS.drop q) hw hn hrow (n := ys.length) rfl q1 q2 q3 q4 κ.w.drew rfl rfl rfl rfl
                exact ⟨_, κ', by rw [h1, e1], by simpa using e2, e3, e4⟩
            rw [hnm] at hq
            simp only [Option.some.injEq, Den.own.injEq] at hq
            subst hq
            obtain ⟨hnl, xs, hxrow, hxone, hxat⟩ := list_row hp (List.all_eq_true.2 fun x hx => by simpa using hls x hx)
            have hxs : cur.toList.take (n * s) = xs := by
              have hnsz : n * s ≤ cur.size := by rw [hcs]; exact Nat.mul_le_mul_right _ hnc
              apply List.ext_getElem?
              intro j
              by_cases hj : j < n * s
              · have hjx : j < xs.length := by rw [hxrow.1, ← hnl]; exact hj
                have hjc : j < cur.size := by omega
                rcases hxat with h0 | ⟨a, ha, hc⟩
                · subst h0; simp at hj
                · cases ha
                  have h3 := hc j _ (List.getElem?_eq_getElem hjx)
                  rw [Addr.add_lit, cell_of_row κ.w g (0 + j) cur e' (0, 0) hg] at h3
                  rw [List.getElem?_take, if_pos hj, List.getElem?_eq_getElem hjx, ← h3]
                  simp
              · rw [List.getElem?_eq_none (by simp; omega), List.getElem?_eq_none (by rw [hxrow.1, ← hnl]; omega)]
            have hown : κ.w.ownsRow 0 e' s (.slice (some ⟨g, 0, none⟩) n cap) n xs := ⟨by rw [hxrow.1, hnl], .inr ⟨g, cap, cur, rfl, Nat.zero_le _, hg, hnc, hcm, hcs, hxs⟩⟩
            subst hnl
            subst hm
            obtain ⟨v', w', h1, h2⟩ := run_append_cases (P := P) κ.w t ty e' i z s by_ hu hi hz hsz hby hzs _ _ xs hown A ys.length cc news (by rw [hrow.1]) hat hone k1 k2
            have hb0 : ∀ b, some g = some b → σ q ≠ .none ∧ ∃ d, κ.nm q = some d ∧ d.block = some b := fun b hb => ⟨by rw [hσ]; simp, _, hnm, hb⟩
            have hls' : ∀ x ∈ l ++ ys, x.cells.length = s := by
              intro x hx
              rcases List.mem_append.1 hx with h | h
              · exact hls x h
              · obtain ⟨i, hi⟩ := List.getElem?_of_mem h
                exact hrow.2.1 i x hi
            rcases h2 with ⟨h0, rfl, rfl⟩ | ⟨_, g', cap', cur', h0, hg', q1, q2, q3, q4, rfl, rfl⟩ | ⟨_, cs, cap', rfl, rfl, q1, q2, q3, q4⟩
            · -- nothing to add
              have hys0 : ys = [] := List.eq_nil_of_length_eq_zero h0
              subst hys0
              obtain ⟨h3, h4⟩ := stepG (d := .own (.slice (some ⟨g, 0, none⟩) l.length cap)) (Bn := .tok e' s) (q := fun _ _ => False) (b' := g) (b0 := some g) (r0 := q) hS hw ⟨rfl, rfl, rfl, Nat.le_refl _, fun _ _ _ => rfl⟩ hn rfl (.inl rfl) (fun _ _ h => h.elim) (fun _ _ _ h => h) (fun _ _ _ _ _ h => h) hb0
              refine ⟨_, (⟨κ.w, fun r => if r = new then some (Den.own (.slice (some ⟨g, 0, none⟩) l.length cap)) else κ.nm r, fun b o => κ.imm b o ∨ False⟩ : Kap), h1, .olist _ _ _ _ (by simp) ?_ hls', h3, h4 (.inr ⟨g, l.length, cap, cur, by simp, hg, hnc, hcm, hcs, fun o ho hi => hi.elim (hfree o ho) id⟩)⟩
              rw [List.append_nil]
              exact hp.ext h3.ext
            · -- there is room
              cases h0
              rw [hg] at hg'; cases hg'
              have hnl2 : news.length = ys.length * s := hrow.1
              have hfit : l.length * s + news.length ≤ cur.toList.length := by
                have hcl : cur.toList.length = cur.size := by simp
                rw [hnl2, hcl, hcs, ← Nat.add_mul]; exact Nat.mul_le_mul_right _ q1
              have hgrow : κ.w.grownBy (κ.w.setRow g (cur.toList.take (l.length * s) ++ news ++ cur.toList.drop (l.length * s + news.length)).toArray) (some g) :=
                ⟨rfl, rfl, rfl, by simp, fun k _ hk => setRow_other κ.w g k _ (fun h => hk (by rw [h]))⟩
              have hnewrow := setRow_heap κ.w g cur (cur.toList.take (l.length * s) ++ news ++ cur.toList.drop (l.length * s + news.length)).toArray e' (0, 0) hg
              have hkeep : ∀ (o : Nat) (u : Value), κ.imm g o → κ.w.cell? ⟨g, o, none⟩ = some u →
                  (κ.w.setRow g (cur.toList.take (l.length * s) ++ news ++ cur.toList.drop (l.length * s + news.length)).toArray).cell? ⟨g, o, none⟩ = some u := by
                intro o u ho hc
                have hlt : o < l.length * s := by
                  rcases Nat.lt_or_ge o (l.length * s) with h | h
                  · exact h
                  · exact absurd ho (hfree o h)
                rw [cell_of_row κ.w g o cur e' (0, 0) hg] at hc
                rw [cell_of_row _ g o _ e' (0, 0) hnewrow]
                simp only [List.getElem?_toArray]
                rw [list_set_mid cur.toList news (l.length * s) o hfit, if_neg (by omega)]
                simpa using hc
              have htk := take_mid cur.toList (l.length * s) 0 news xs hxs hfit
              have hmul : l.length * s + news.length = (l ++ ys).length * s := by rw [hnl2, List.length_append, Nat.add_mul]
              obtain ⟨h3, h4⟩ := stepG (d := .own (.slice (some ⟨g, 0, none⟩) (l.length + ys.length) cap)) (Bn := .tok e' s) (q := fun b o => b = g ∧ o < (l ++ ys).length * s) (b' := g) (b0 := some g) (r0 := q) hS hw hgrow hn rfl (.inl rfl)
                (fun _ _ h => h.1) hkeep (fun b o u hb ho hc => by cases hb; exact hkeep o u ho hc) hb0
              have hrow2 := (hxrow.append hrow).ext h3.ext
              refine ⟨_, _, h1, .olist _ _ _ _ (by simp) (hrow2.list (by simp) q1 hcm (cell_take hnewrow (n := l.length * s + news.length) htk) (fun j hj => .inr ⟨rfl, by simpa using hj⟩)) hls', h3,
                h4 (.inr ⟨g, l.length + ys.length, cap, _, by simp, hnewrow, q1, hcm, ?_, ?_⟩)⟩
              · simp only [List.size_toArray, List.length_append, List.length_take, List.length_drop]
                rw [← hcs]; simp only [Array.length_toList] at hfit ⊢; omega
              · rintro o ho (h | ⟨_, h⟩)
                · exact hfree o (Nat.le_trans (Nat.mul_le_mul_right _ (by omega)) ho) h
                · simp only [List.length_append] at h; omega
            · -- a new block
              obtain ⟨κ', e1, e2, e3, e4⟩ := own_new (e := e') (hS.drop q) hw hn (hxrow.append hrow) (n := l.length + ys.length) (by simp) q1 q2 q3 q4 κ.w.drew rfl rfl rfl rfl
              exact ⟨_, κ', by rw [h1, e1], by simpa using e2, e3, e4⟩
        · cases hr
      · cases hr
    · simp_all
    · simp_all
    · cases hr
  · cases hr
end
end Go.Ab
set_option linter.unusedVariables false
set_option linter.unusedSimpArgs false
namespace Go.Ab
open Go Go.RowKit
section
variable {P : Program} {c : Ctx} {κ : Kap} {σ : Store}
theorem flat_rel {sz : Nat} {ys : List PV} {xs : List Value} (h : RowOf κ sz ys xs) : (flat ys).length = xs.length ∧ ∀ (i : Nat) (x : AV), (flat ys)[i]? = some x → ARel κ x (xs.getD i Go.undef) := by
  have hall : ∀ l ∈ ys.map PV.cells, l.length = sz := by
    intro l hl
    obtain ⟨y, hy, rfl⟩ := List.mem_map.1 hl
    obtain ⟨i, hi⟩ := List.getElem?_of_mem hy
    exact h.2.1 i y hi
  have e : ys.flatMap PV.cells = (ys.map PV.cells).flatten := by rw [List.flatMap_def]
  have hlen : (ys.flatMap PV.cells).length = ys.length * sz := by rw [e, flat_len _ hall]; simp
  refine ⟨by simp [flat, hlen, h.1], fun i x hx => ?_⟩
  simp only [flat, List.getElem?_map, Option.map_eq_some_iff] at hx
  obtain ⟨p, hp, rfl⟩ := hx
  have hi : i < ys.length * sz := by rw [← hlen]; exact (List.getElem?_eq_some_iff.1 hp).1
  have hsz : 0 < sz := by
    rcases Nat.eq_zero_or_pos sz with h0 | h0
    · subst h0; simp at hi
    · exact h0
  have hd := Nat.div_add_mod i sz
  have hm := Nat.mod_lt i hsz
  rw [e, show i = i / sz * sz + i % sz by rw [Nat.mul_comm]; omega, flat_get hm _ _ hall] at hp
  simp only [List.getElem?_map] at hp
  cases hy : ys[i / sz]? with
  | none => simp [hy] at hp
  | some y =>
    simp only [hy, Option.map_some, Option.bind_some] at hp
    have := (h.2.2 (i / sz) y (i % sz) p hy hp).1
    rw [show i / sz * sz + i % sz = i by rw [Nat.mul_comm]; omega] at this
    exact .pv _ _ this
theorem rel_append {l k : List AV} {xs zs : List Value} (hl : l.length = xs.length) (h : ∀ (i : Nat) (x : AV), l[i]? = some x → ARel κ x (xs.getD i Go.undef)) (g : ∀ (i : Nat) (x : AV), k[i]? = some x → ARel κ x (zs.getD i Go.undef)) :
    ∀ (i : Nat) (x : AV), (l ++ k)[i]? = some x → ARel κ x ((xs ++ zs).getD i Go.undef) := by
  intro i x hx
  rw [List.getD_eq_getElem?_getD]
  by_cases hi : i < l.length
  · rw [List.getElem?_append_left hi] at hx
    rw [List.getElem?_append_left (by omega), ← List.getD_eq_getElem?_getD]
    exact h i x hx
  · rw [List.getElem?_append_right (by omega)] at hx
    rw [List.getElem?_append_right (by omega), ← hl, ← List.getD_eq_getElem?_getD]
    exact g _ x hx
theorem rel_take {l : List AV} {cs : Array Value} {n : Nat} {xs : List Value} (ht : cs.toList.take n = xs) (hl : l.length ≤ n) (h : ∀ (i : Nat) (x : AV), l[i]? = some x → ARel κ x (xs.getD i Go.undef)) :
    ∀ (i : Nat) (x : AV), l[i]? = some x → ARel κ x (cs.getD i Go.undef) := by
  intro i x hx
  have hi : i < l.length := (List.getElem?_eq_some_iff.1 hx).1
  have := h i x hx
  rw [getD_toList]
  rw [← ht, List.getD_eq_getElem?_getD, List.getElem?_take, if_pos (by omega), ← List.getD_eq_getElem?_getD] at this
  exact this
theorem s_appendM {t ty e sz by_ new : Nat} {x y v : AV} {ux uy : Value} {δ : List (Nat × Blk)} (hS : SRel c κ σ) (hw : c.w0.heap.size ≤ κ.w.heap.size) (hn : κ.nm new = none) (hI : ElemInfo P t e sz by_)
    (hx : ARel κ x ux) (hy : ARel κ y uy) (hr : rAppend true e sz by_ new σ x y = some (v, δ)) :
    ∃ u κ', (Builtin.append_ #[t, t] ty #[ux, uy]).run P κ.w = .ok u κ'.w ∧ ARel κ' v u ∧ Done c κ κ' new ∧ SRel c κ' (σ.upd δ) := by
  obtain ⟨hu, i, z, hi, hz, hsz, hby, hzs⟩ := hI
  unfold rAppend at hr
  split at hr
  · rename_i ys hys
    obtain ⟨A, m, cc, news, rfl, hm, hrow, hone, hat⟩ := elems_row hS hy hys
    obtain ⟨hfl, hfr⟩ := flat_rel hrow
    split at hr
    · simp_all
    · simp_all
    · -- onto nil
      have hux : ux = .slice none 0 0 := by cases pv_inv hx; rfl
      subst hux
      split at hr
      · cases hr
        obtain ⟨v', w', h1, h2⟩ := run_append_cases (P := P) κ.w t ty e i z sz by_ hu hi hz hsz hby hzs (.slice none 0 0) 0 [] (World.ownsRow_nil _ _ _ _) A m cc news (by rw [hrow.1, hm]) hat hone (by rw [hm]; simp) (by rw [hm]; simp)
        rcases h2 with ⟨_, rfl, rfl⟩ | ⟨h0, _⟩ | ⟨h0, _⟩
        · exact ⟨_, κ, h1, .pv _ _ .nils, Done.same c κ new, by simpa [upd_nil] using hS⟩
        · simp at hm; omega
        · simp at hm; omega
      · rename_i y0 r
        split at hr
        · rename_i hroom
          cases hr
          obtain ⟨k1, k2⟩ := room_le hroom
          simp only [List.length_cons] at hm
          subst hm
          obtain ⟨v', w', h1, h2⟩ := run_append_cases (P := P) κ.w t ty e i z sz by_ hu hi hz hsz hby hzs (.slice none 0 0) 0 [] (World.ownsRow_nil _ _ _ _) A (r.length + 1) cc news (by rw [hrow.1]; rfl) hat hone k1 k2
          rcases h2 with ⟨h0, _⟩ | ⟨_, g, cap, cur, h0, _⟩ | ⟨_, cs, cap, rfl, rfl, q1, q2, q3, q4⟩
          · omega
          · cases h0
          · simp only [Nat.zero_add, List.nil_append] at q1 q4
            have hnl : news.length = (r.length + 1) * sz := hrow.1
            have hle : (r.length + 1) * sz ≤ cap * sz := Nat.mul_le_mul_right _ q1
            obtain ⟨κ', e1, e2, e3, e4⟩ := new_block (T := e) (f := false) (l := flat (y0 :: r)) hS hw hn (by omega) (fun h => by cases h) (rel_take q4 (by omega) hfr) κ.w.drew rfl rfl rfl rfl
            refine ⟨_, κ', by rw [h1, e1], ?_, e3, e4⟩
            simp only [Nat.zero_add]
            exact .row _ _ _ _ _ _ cap e2 (by omega) (fun _ => q3.symm) q1 q2
        · cases hr
    · -- onto a row of the call's own
      rename_i q s off len _
      split at hr
      · rename_i e' f lw hσ
        split at hr
        · rename_i hh
          obtain ⟨rfl, rfl, rfl, hllw, hroom⟩ := hh
          cases hr
          obtain ⟨k1, k2⟩ := room_le hroom
          subst hm
          cases hx with
          | row0 _ _ hnm =>
            have hB := hS.blk q
            rw [hσ] at hB
            obtain ⟨rfl, rfl⟩ : f = false ∧ lw = [] := by
              rcases hB with ⟨h1, h2, _⟩ | ⟨_, _, _, h1, _⟩
              · exact ⟨h1, h2⟩
              · rw [hnm] at h1; cases h1
            obtain ⟨v', w', h1, h2⟩ := run_append_cases (P := P) κ.w t ty e' i z s by_ hu hi hz hsz hby hzs (.slice none 0 0) 0 [] (World.ownsRow_nil _ _ _ _) A ys.length cc news (by rw [hrow.1]) hat hone k1 k2
            rw [List.take_nil, List.nil_append, Nat.zero_add]
            rcases h2 with ⟨h0, rfl, rfl⟩ | ⟨_, g, cap, cur, h0, _⟩ | ⟨_, cs, cap, rfl, rfl, q1, q2, q3, q4⟩
            · have hys0 : ys = [] := List.eq_nil_of_length_eq_zero h0
              subst hys0
              obtain ⟨h3, h4, h5⟩ := acc_newR (hS.drop q) hn e' s
              exact ⟨_, ⟨κ.w, fun r => if r = new then some (.own (.slice none 0 0)) else κ.nm r, κ.imm⟩, h1, h5, h3, h4⟩
            · exact absurd h0 (by simp)
            · simp only [Nat.zero_add, List.nil_append] at q1 q4
              have hnl : news.length = ys.length * s := hrow.1
              have hle : ys.length * s ≤ cap * s := Nat.mul_le_mul_right _ q1
              obtain ⟨κ', e1, e2, e3, e4⟩ := new_block (T := e') (f := false) (l := flat ys) (hS.drop q) hw hn (by omega) (fun h => by cases h) (rel_take q4 (by omega) hfr) κ.w.drew rfl rfl rfl rfl
              refine ⟨_, κ', by rw [h1, e1], ?_, e3, e4⟩
              rw [Nat.zero_add]
              exact .row _ _ _ _ _ _ cap e2 (by omega) (fun _ => q3.symm) q1 q2
          | row _ _ _ _ b N cap hnm h5 h6 h7 h8 =>
            obtain ⟨cur, hg, hcs, hlnw, hf, himm, hrelw, hcell⟩ := cells_of hS hσ hnm
            obtain ⟨l, hl0, hll, hln, hrel⟩ : ∃ l, lw.take (len * s) = l ∧ l.length = len * s ∧ l.length ≤ N ∧ ∀ (i : Nat) (x : AV), l[i]? = some x → ARel κ x (cur.getD i Go.undef) := by
              refine ⟨_, rfl, by simp; omega, by simp; omega, fun i x hx => ?_⟩
              rw [List.getElem?_take] at hx
              split at hx
              · exact hrelw i x hx
              · cases hx
            rw [hl0]
            have hcap := h6 rfl
            have hown : κ.w.ownsRow 0 e' s (.slice (some ⟨b, 0, none⟩) len cap) len (cur.toList.take (len * s)) := by
              refine ⟨?_, .inr ⟨b, cap, cur, rfl, Nat.zero_le _, hg, h7, h8, by omega, rfl⟩⟩
              simp; rw [hcs, ← hcap]; exact Nat.min_eq_left (Nat.mul_le_mul_right _ h7)
            have hxl : (cur.toList.take (len * s)).length = len * s := hown.1
            have hlrel : ∀ (i : Nat) (x : AV), l[i]? = some x → ARel κ x ((cur.toList.take (len * s)).getD i Go.undef) := by
              intro i x hx
              have hi : i < l.length := (List.getElem?_eq_some_iff.1 hx).1
              have := hrel i x hx
              rw [getD_toList] at this
              rw [List.getD_eq_getElem?_getD, List.getElem?_take, if_pos (by omega), ← List.getD_eq_getElem?_getD]
              exact this
            have hall := rel_append (κ := κ) (by omega) hlrel hfr
            have hlen2 : (l ++ flat ys).length = (len + ys.length) * s := by
              have : news.length = ys.length * s := hrow.1
              rw [List.length_append, hfl, this, hll, Nat.add_mul]
            have hlen3 : (l ++ flat ys).length = len * s + news.length := by rw [List.length_append, hfl, hll]
            obtain ⟨v', w', h1, h2⟩ := run_append_cases (P := P) κ.w t ty e' i z s by_ hu hi hz hsz hby hzs _ _ _ hown A ys.length cc news (by rw [hrow.1]) hat hone k1 k2
            have hb0 : ∀ b', some b = some b' → σ q ≠ .none ∧ ∃ d, κ.nm q = some d ∧ d.block = some b' := fun b' hb => ⟨by rw [hσ]; simp, _, hnm, hb⟩
            rcases h2 with ⟨h0, rfl, rfl⟩ | ⟨_, g', cap', cur', h0, hg', q1, q2, q3, q4, rfl, rfl⟩ | ⟨_, cs, cap', rfl, rfl, q1, q2, q3, q4⟩
            · have hys0 : ys = [] := List.eq_nil_of_length_eq_zero h0
              subst hys0
              obtain ⟨h3, h4⟩ := stepG (d := .blk b N) (Bn := .cells e' false (l ++ flat [])) (q := fun _ _ => False) (b' := b) (b0 := some b) (r0 := q) hS hw ⟨rfl, rfl, rfl, Nat.le_refl _, fun _ _ _ => rfl⟩ hn rfl (.inl rfl) (fun _ _ h => h.elim) (fun _ _ _ h => h) (fun _ _ _ _ _ h => h) hb0
              refine ⟨_, (⟨κ.w, fun r => if r = new then some (Den.blk b N) else κ.nm r, fun b o => κ.imm b o ∨ False⟩ : Kap), h1, ?_, h3, h4 (.inr ⟨b, N, cur, by simp, hg, hcs, ?_, fun h => (by cases h), fun i x hx => ?_, fun o hi => hi.elim (himm o) id⟩)⟩
              · exact .row _ _ _ _ b N cap (by simp) h5 h6 (by simpa using h7) h8
              · simp [flat]; omega
              · have hx' : l[i]? = some x := by simpa [flat] using hx
                exact (hrel i x hx').ext h3.ext
            · cases h0
              rw [hg] at hg'; cases hg'
              have hnl2 : news.length = ys.length * s := hrow.1
              have hcl : cur.toList.length = cur.size := by simp
              have hfit : len * s + news.length ≤ cur.toList.length := by
                rw [hnl2, hcl, q3, ← Nat.add_mul]; exact Nat.mul_le_mul_right _ q1
              have hgrow : κ.w.grownBy (κ.w.setRow b (cur.toList.take (len * s) ++ news ++ cur.toList.drop (len * s + news.length)).toArray) (some b) :=
                ⟨rfl, rfl, rfl, by simp, fun k _ hk => setRow_other κ.w b k _ (fun h => hk (by rw [h]))⟩
              have hnewrow := setRow_heap κ.w b cur (cur.toList.take (len * s) ++ news ++ cur.toList.drop (len * s + news.length)).toArray e' (0, 0) hg
              have htk := take_mid cur.toList (len * s) 0 news _ rfl hfit
              obtain ⟨h3, h4⟩ := stepG (d := .blk b N) (Bn := .cells e' false (l ++ flat ys)) (q := fun _ _ => False) (b' := b) (b0 := some b) (r0 := q) hS hw hgrow hn rfl (.inl rfl)
                (fun _ _ h => h.elim) (fun o _ ho => absurd ho (himm o)) (fun b' o _ hb ho => by cases hb; exact absurd ho (himm o)) hb0
              refine ⟨_, _, h1, .row _ _ _ _ b N cap (by simp) h5 h6 q1 h8, h3, h4 (.inr ⟨b, N, _, by simp, hnewrow, ?_, ?_, fun h => (by cases h), ?_, fun o hi => hi.elim (himm o) id⟩)⟩
              · simp only [List.size_toArray, List.length_append, List.length_take, List.length_drop]; omega
              · rw [hlen2, ← hcap]; exact Nat.mul_le_mul_right _ q1
              · have hz := rel_take (κ := κ) (l := l ++ flat ys) (cs := (cur.toList.take (len * s) ++ news ++ cur.toList.drop (len * s + news.length)).toArray) (n := len * s + news.length) (by simpa using htk) (by rw [hlen3]; exact Nat.le_refl _) hall
                exact fun i x hx => (hz i x hx).ext h3.ext
            · obtain ⟨κ', e1, e2, e3, e4⟩ := new_block (T := e') (f := false) (l := l ++ flat ys) (hS.drop q) hw hn (by rw [hlen2, q3]; exact Nat.mul_le_mul_right _ q1) (fun h => by cases h) (rel_take q4 (by omega) hall) κ.w.drew rfl rfl rfl rfl
              exact ⟨_, κ', by rw [h1, e1], .row _ _ _ _ _ _ cap' e2 (by omega) (fun _ => q3.symm) q1 q2, e3, e4⟩
        · cases hr
      · cases hr
    · cases hr
  · cases hr
end
end Go.Ab
set_option linter.unusedVariables false
set_option linter.unusedSimpArgs false
namespace Go.Ab
open Go Go.RowKit
section
variable {P : Program} {c : Ctx} {κ : Kap} {σ : Store}
theorem fill_all {sz : Nat} : ∀ (vs : List AV) (pre : List AV) (i : Nat), pre.length = i * sz → (∀ v ∈ vs, v.known = true ∧ v.cells.length = sz) →
    fillA (pre ++ List.replicate (vs.length * sz) AV.any) ((vs.zipIdx i).map fun p => (p.2 * sz, sz, p.1)) = some (pre ++ vs.flatMap AV.cells)
  | [], pre, i, _, _ => by simp [fillA]
  | v :: r, pre, i, hp, h => by
    obtain ⟨hk, hs⟩ := h v (by simp)
    simp only [List.zipIdx_cons, List.map_cons, fillA]
    rw [if_pos ⟨hk, hs, by simp only [List.length_append, List.length_replicate, List.length_cons, hp, Nat.succ_mul]; omega⟩]
    have e : (pre ++ List.replicate ((r.length + 1) * sz) AV.any).take (i * sz) ++ v.cells ++ (pre ++ List.replicate ((r.length + 1) * sz) AV.any).drop (i * sz + sz) = (pre ++ v.cells) ++ List.replicate (r.length * sz) AV.any := by
      rw [← hp, List.take_left, List.drop_append]
      rw [List.drop_eq_nil_of_le (by omega)]
      simp only [List.nil_append, List.drop_replicate]
      congr 2
      rw [Nat.succ_mul]; omega
    simp only [List.length_cons]
    rw [e, fill_all r (pre ++ v.cells) (i + 1) (by rw [List.length_append, hp, hs, Nat.succ_mul]) (fun v hv => h v (by simp [hv]))]
    simp
theorem run_bslice {t e sz len : Nat} {z : Value} {parts : Array (Nat × Value)} {vs : List AV} {w : World} (hu : P.underlying t = some (.slice e)) (hn : szOf P e = some sz) (hz : (zeroValue e).run P w = .ok z w)
    (hbig : len * sz ≤ 2 ^ 24) (hidx : parts.toList.map (·.1) = List.range len) (hrel : ∀ (i : Nat) (v : AV), vs[i]? = some v → ARel κ v ((parts.toList.map (·.2)).getD i Go.undef)) (hlen : vs.length = len)
    (hok : ∀ v ∈ vs, v.known = true ∧ v.cells.length = sz) :
    ∃ us : Array Value, (Instr.buildSlice t len parts).run P w = .ok (.slice (some ⟨w.heap.size, 0, none⟩) len len) (w.alloc (.cells us e)) ∧ us.size = len * sz ∧
      ∀ (i : Nat) (x : AV), (vs.flatMap AV.cells)[i]? = some x → ARel κ x (us.getD i Go.undef) := by
  have hfl : (vs.flatMap AV.cells).length = len * sz := by
    rw [List.flatMap_def, flat_len (sz := sz)]
    · simp [hlen]
    · intro l hl
      obtain ⟨y, hy, rfl⟩ := List.mem_map.1 hl
      exact (hok y hy).2
  have hplen : parts.toList.length = len := by
    have := congrArg List.length hidx; simpa using this
  let qs : List (Nat × Nat × Nat × AV × Value) := (List.range len).map fun i => (i, i * sz, sz, vs.getD i .any, (parts.toList.map (·.2)).getD i Go.undef)
  have hq1 : qs.map (fun q => (q.2.1, q.2.2.1, q.2.2.2.1)) = (vs.zipIdx 0).map fun p => (p.2 * sz, sz, p.1) := by
    apply List.ext_getElem?
    intro i
    simp only [qs, List.map_map, List.getElem?_map, List.getElem?_zipIdx, Nat.zero_add]
    by_cases hi : i < len
    · rw [List.getElem?_range hi, List.getElem?_eq_getElem (show i < vs.length by omega)]
      simp [List.getD_eq_getElem?_getD, show i < vs.length by omega]
    · rw [List.getElem?_eq_none (by simp; omega), List.getElem?_eq_none (by omega)]
      rfl
  have hq2 : qs.map (fun q => (q.1, q.2.2.2.2)) = parts.toList := by
    apply List.ext_getElem?
    intro i
    simp only [qs, List.map_map, List.getElem?_map]
    by_cases hi : i < len
    · rw [List.getElem?_range hi, List.getElem?_eq_getElem (show i < parts.toList.length by omega)]
      have h1 : (parts.toList.map (·.1))[i]? = some i := by rw [hidx, List.getElem?_range hi]
      rw [List.getElem?_map, List.getElem?_eq_getElem (show i < parts.toList.length by omega)] at h1
      simp only [Option.map_some, Option.some.injEq] at h1
      simp only [Option.map_some, Function.comp, List.getD_eq_getElem?_getD, List.getElem?_map, List.getElem?_eq_getElem (show i < parts.toList.length by omega), Option.getD_some]
      congr 1
      exact Prod.ext h1.symm rfl
    · rw [List.getElem?_eq_none (by simp; omega), List.getElem?_eq_none (by omega)]
      rfl
  let zero : Array Value := if len * sz = 0 then #[] else z.cells
  obtain ⟨us, h1, h2, h3⟩ := s_fill (κ := κ) (fun i => some (i * sz, sz)) qs (List.replicate (len * sz) .any) ((Array.range (len * sz)).map (zero[· % zero.size]!)) (vs.flatMap AV.cells) (by simp) (fun i x hx => by
      have : x = .any := by
        have := List.mem_of_getElem? hx
        exact (List.mem_replicate.1 this).2
      subst this; exact .any _) (by
      intro q hq
      simp only [qs, List.mem_map, List.mem_range] at hq
      obtain ⟨i, hi, rfl⟩ := hq
      refine ⟨rfl, ?_⟩
      have hv := List.getElem?_eq_getElem (show i < vs.length by omega)
      have := hrel i _ hv
      simpa [List.getD_eq_getElem?_getD, show i < vs.length by omega] using this) (by
      rw [hq1]
      have := fill_all vs [] 0 (by simp) hok
      simpa [hlen] using this)
  rw [hq2] at h1
  refine ⟨us, ?_, by rw [h2, hfl], h3⟩
  simp only [Instr.buildSlice, Sem.run_bind, run_underlying hu, Result.andThen_ok, run_sizeOf hn]
  rw [if_neg (by omega)]
  by_cases h0 : len * sz = 0
  · have hz0 : zero = #[] := by simp [zero, h0]
    rw [hz0] at h1
    rw [if_pos h0]
    simp only [Sem.run_bind, Sem.run_pure, Result.andThen_ok]
    rw [h1]
    simp [newRow, World.alloc_eq]
  · have hz0 : zero = z.cells := by simp [zero, h0]
    rw [hz0] at h1
    rw [if_neg h0]
    simp only [Sem.run_bind, hz, Sem.run_pure, Result.andThen_ok]
    rw [h1]
    simp [newRow, World.alloc_eq]
theorem s_bslice {mu : Bool} {t e sz len new : Nat} {z : Value} {parts : Array (Nat × Value)} {vs : List AV} {v : AV} {δ : List (Nat × Blk)} (hS : SRel c κ σ) (hw : c.w0.heap.size ≤ κ.w.heap.size) (hnew : κ.nm new = none)
    (hu : P.underlying t = some (.slice e)) (hn : szOf P e = some sz) (hz : (zeroValue e).run P κ.w = .ok z κ.w)
    (hbig : len * sz ≤ 2 ^ 24) (hidx : parts.toList.map (·.1) = List.range len) (hrel : ∀ (i : Nat) (v : AV), vs[i]? = some v → ARel κ v ((parts.toList.map (·.2)).getD i Go.undef))
    (hr : rBslice mu e sz len new vs = some (v, δ)) :
    ∃ u κ', (Instr.buildSlice t len parts).run P κ.w = .ok u κ'.w ∧ ARel κ' v u ∧ Done c κ κ' new ∧ SRel c κ' (σ.upd δ) := by
  unfold rBslice at hr
  split at hr
  · rename_i hl
    have hmax : len ≤ maxLen := by unfold maxLen; omega
    split at hr
    · split at hr
      · rename_i ps hps
        split at hr
        · rename_i hall
          cases hr
          have hps' : ∀ (i : Nat) (p : PV), ps[i]? = some p → p.cells.length = sz ∧ ∀ y ∈ p.cells, y.one = true := by
            intro i p hp
            have := (List.all_eq_true.1 hall) p (List.mem_of_getElem? hp)
            simp only [Bool.and_eq_true, beq_iff_eq, List.all_eq_true] at this
            exact this
          have hvp : ∀ x ∈ vs, x.known = true ∧ x.cells.length = sz := by
            intro x hx
            obtain ⟨i, hi⟩ := List.getElem?_of_mem hx
            have hil : i < ps.length := by rw [pvs_len hps]; exact (List.getElem?_eq_some_iff.1 hi).1
            obtain ⟨x', hx', hxp⟩ := pvs_get hps i _ (List.getElem?_eq_getElem hil)
            rw [hi] at hx'; cases hx'
            have h1 := (hps' i _ (List.getElem?_eq_getElem hil)).1
            cases x with
            | pv q => simp only [AV.toPV, Option.some.injEq] at hxp; subst hxp; exact ⟨rfl, by simpa [AV.cells] using h1⟩
            | olist a b l => simp only [AV.toPV, Option.some.injEq] at hxp; rw [← hxp] at h1; exact ⟨rfl, by simpa [AV.cells, PV.cells] using h1⟩
            | _ => simp [AV.toPV] at hxp
          obtain ⟨us, h1, h2, h3⟩ := run_bslice (P := P) (κ := κ) (w := κ.w) hu hn hz hbig hidx hrel hl.1 hvp
          have hrow : RowOf κ sz ps us.toList := by
            refine ⟨by simp only [Array.length_toList]; rw [h2, pvs_len hps, hl.1], fun i x hx => (hps' i x hx).1, fun i x j y hx hy => ?_⟩
            have hj : j < sz := by rw [← (hps' i x hx).1]; exact (List.getElem?_eq_some_iff.1 hy).1
            obtain ⟨x', hx', hxp⟩ := pvs_get hps i x hx
            have hflat : (vs.flatMap AV.cells)[i * sz + j]? = some (x'.cells.getD j .any) := by
              rw [List.flatMap_def, flat_get hj _ _ (by
                intro l hl
                obtain ⟨y, hy, rfl⟩ := List.mem_map.1 hl
                exact (hvp y hy).2)]
              rw [List.getElem?_map, hx']
              have : j < x'.cells.length := by rw [(hvp x' (List.mem_of_getElem? hx')).2]; exact hj
              simp [List.getD_eq_getElem?_getD, this]
            have hr3 := h3 _ _ hflat
            have hc : ∃ q, x'.cells.getD j .any = q ∧ q.toPV = some y ∧ q.one = true := by
              have hy1 := (hps' i x hx).2 y (List.mem_of_getElem? hy)
              cases x' with
              | pv q =>
                simp only [AV.toPV, Option.some.injEq] at hxp; subst hxp
                refine ⟨.pv y, ?_, rfl, hy1⟩
                simp [AV.cells, List.getD_eq_getElem?_getD, hy]
              | olist a b l =>
                simp only [AV.toPV, Option.some.injEq] at hxp; subst hxp
                simp only [PV.cells] at hy
                rcases j with _ | j
                · simp at hy; subst hy
                  exact ⟨_, rfl, rfl, rfl⟩
                · simp at hy
              | _ => simp [AV.toPV] at hxp
            obtain ⟨q, hq, hqp, hq1⟩ := hc
            rw [hq] at hr3
            rw [← getD_toList]
            exact ⟨toPV_rel hqp hr3, hr3.oneCell hq1⟩
          obtain ⟨κ', e1, e2, e3, e4⟩ := own_new (e := e) hS hw hnew hrow (n := len) (cap := len) (by rw [pvs_len hps, hl.1]) (Nat.le_refl _) hmax h2 (List.take_of_length_le (by simp; omega)) κ.w rfl rfl rfl rfl
          exact ⟨_, κ', by rw [h1, e1], e2, e3, e4⟩
        · cases hr
      · cases hr
    · split at hr
      · rename_i hall
        cases hr
        have hvp : ∀ x ∈ vs, x.known = true ∧ x.cells.length = sz := by
          intro x hx
          have := (List.all_eq_true.1 hall) x hx
          simp only [Bool.and_eq_true, beq_iff_eq] at this
          exact this.1
        obtain ⟨us, h1, h2, h3⟩ := run_bslice (P := P) (κ := κ) (w := κ.w) hu hn hz hbig hidx hrel hl.1 hvp
        have hfl : (vs.flatMap AV.cells).length = us.size := by
          rw [List.flatMap_def, flat_len (sz := sz)]
          · simp [hl.1, h2]
          · intro l hl
            obtain ⟨y, hy, rfl⟩ := List.mem_map.1 hl
            exact (hvp y hy).2
        obtain ⟨κ', e1, e2, e3, e4⟩ := new_block (T := e) (f := true) hS hw hnew (Nat.le_of_eq hfl) (fun _ => hfl) h3 κ.w rfl rfl rfl rfl
        exact ⟨_, κ', by rw [h1, e1], .row _ _ _ _ _ _ len e2 (by omega) (fun _ => h2.symm) (Nat.le_refl _) hmax, e3, e4⟩
      · cases hr
  · cases hr
end
end Go.Ab
set_option linter.unusedVariables false
set_option linter.unusedSimpArgs false
namespace Go.Ab
open Go Go.RowKit
def ovlName : String := "slices.overlaps[manifold/api.Field]"
def ovlOrigin : String := "slices.overlaps"
def elemOf (P : Program) (t : TypeId) : Option (TypeId × Nat) :=
  match P.underlying t with
  | some (.slice e) => match szOf P e with
    | some n => some (e, n)
    | none => none
  | _ => none
def cOvl (P : Program) (f : Nat) : Bool :=
  match P.funcs[f]? with
  | some fn => fn.body.isNone && (fn.name == ovlName) && (fn.origin == ovlOrigin) && (match fn.params[0]?, fn.params[1]? with
    | some t, some t' => t == t' && (elemOf P t).isSome
    | _, _ => false)
  | none => false
def cXop (P : Program) (mu : Bool) : Op → Option XOp
  | .call { callee := .builtin .cap, args, argTypes } => match args.toList, argTypes.toList with
    | [x], [t] => match elemOf P t, cX x with
      | some (_, n), some ax => some (.cap n ax)
      | _, _ => none
    | _, _ => none
  | .slice t x none (some h) none => match mu, elemOf P t with
    | true, some (_, n) => match cX x, cX h with
      | some ax, some ah => some (.resl n ax ah)
      | _, _ => none
    | _, _ => none
  | .call { callee := .builtin .copy, args, argTypes } => match args.toList, argTypes.toList with
    | [x, y], [t, _] => match elemOf P t, cX x, cX y with
      | some (_, n), some ax, some ay => some (.copy n ax ay)
      | _, _, _ => none
    | _, _ => none
  | .call { callee := .builtin .append, args, argTypes } => match args.toList, argTypes.toList with
    | [x, y], [t, t'] => match P.underlying t, P.underlying t' with
      | some (.slice e), some (.int _) => match P.info? e with
        | some i => match i.zero with
          | some z => match cV z, cX x, cX y with
            | some p, some ax, some ay => if p.cells.length = i.size then some (.appz e i.size i.bytes p.cells ax ay) else none
            | _, _, _ => none
          | none => none
        | none => none
      | _, _ => none
    | _, _ => none
  | .call { callee := .value (.func f), args, argTypes := _ } => match args.toList with
    | [x, y] => match cOvl P f, cX x, cX y with
      | true, some ax, some ay => some (.apart ax ay)
      | _, _, _ => none
    | _ => none
  | _ => none
section
variable {P : Program} {c : Ctx} {κ : Kap} {σ : Store} {E : Nat → AV} {a : Act}
theorem elemOf_some {t e : TypeId} {n : Nat} (h : elemOf P t = some (e, n)) : P.underlying t = some (.slice e) ∧ szOf P e = some n := by
  unfold elemOf at h
  split at h
  · rename_i e' hu
    split at h
    · rename_i m hm
      cases h
      exact ⟨hu, hm⟩
    · cases h
  · cases h
theorem row_full (hS : SRel c κ σ) {r sz off len T : Nat} {l : List AV} {u : Value} (hx : ARel κ (.row r sz off len) u) (h : σ r = .cells T true l) :
    ∃ b n cap cs, u = .slice (some ⟨b, off, none⟩) len cap ∧ κ.nm r = some (.blk b n) ∧ off + cap * sz ≤ n ∧ (off = 0 → cap * sz = n) ∧ len ≤ cap ∧ cap ≤ maxLen ∧
      κ.w.heap[b]? = some (.cells cs T (0, 0)) ∧ cs.size = n ∧ l.length = n ∧ (∀ o, ¬ κ.imm b o) ∧ ∀ (j : Nat) (y : AV), l[j]? = some y → ARel κ y (cs.getD j Go.undef) := by
  cases hx with
  | row0 _ _ hn =>
    have hB := hS.blk r
    rw [h] at hB
    rcases hB with ⟨h1, _⟩ | ⟨_, _, _, h1, _⟩
    · cases h1
    · rw [hn] at h1; cases h1
  | row _ _ _ _ b n cap hn h1 h0 h2 h3 =>
    obtain ⟨cs, hg, hcs, hln, hf, himm, hrel, _⟩ := cells_of hS h hn
    exact ⟨b, n, cap, cs, rfl, hn, h1, h0, h2, h3, hg, hcs, hf rfl, himm, hrel⟩
theorem s_cap {t ty e : TypeId} {sz : Nat} {x v : AV} {u : Value} (hS : SRel c κ σ) (hu : P.underlying t = some (.slice e)) (hx : ARel κ x u) (hr : rCap sz σ x = some v) :
    ∃ z, (Builtin.cap_ #[t] ty #[u]).run P κ.w = .ok z κ.w ∧ ARel κ v z := by
  unfold rCap at hr
  split at hr
  · rename_i r s off len
    split at hr
    · rename_i T f l hσ
      split at hr
      · rename_i hh
        obtain ⟨rfl, rfl, hs, rfl⟩ := hh
        cases hr
        obtain ⟨b, n, cap, cs, rfl, _, _, h0, _, _, _, _, hl, _, _⟩ := row_full hS hx hσ
        refine ⟨.int .i64 cap, by simp [Builtin.cap_, run_underlying hu, goInt], ?_⟩
        rw [hl, ← h0 rfl, Nat.mul_div_cancel _ hs]
        exact .pv _ _ (.int _ _)
      · cases hr
    · cases hr
  · cases hr
theorem s_resl {t e : TypeId} {sz : Nat} {x y v : AV} {u uy : Value} (hS : SRel c κ σ) (hu : P.underlying t = some (.slice e)) (hs : szOf P e = some sz) (hx : ARel κ x u) (hy : ARel κ y uy) (hr : rResl sz σ x y = some v) :
    ∃ z, (Instr.slice t u none (some uy) none).run P κ.w = .ok z κ.w ∧ ARel κ v z := by
  unfold rResl at hr
  split at hr
  · rename_i r s off len k h
    split at hr
    · rename_i T f l hσ
      split at hr
      · rename_i hh
        obtain ⟨rfl, rfl, hs0, rfl, hh0, hle⟩ := hh
        cases hr
        obtain ⟨b, n, cap, cs, rfl, hn, h1, h0, h2, h3, _, _, hl, _, _⟩ := row_full hS hx hσ
        obtain rfl := int_inv hy
        have hhc : h.toNat ≤ cap := by
          have h4 := h0 rfl
          rw [hl, ← h4] at hle
          exact Nat.le_of_mul_le_mul_right hle hs0
        have hbd : ∀ code, (Instr.sliceBound (.int k h) cap code).run P κ.w = .ok h.toNat κ.w := fun code => run_sliceBound κ.w k h cap code hh0 (by omega)
        refine ⟨.slice (some ⟨b, 0, none⟩) h.toNat cap, ?_, .row r s 0 h.toNat b n cap hn h1 h0 hhc h3⟩
        have e0 : (if cap = 0 then some (⟨b, 0, none⟩ : Addr) else Option.map (fun x : Addr => x.add (0 * s)) (some ⟨b, 0, none⟩)) = some ⟨b, 0, none⟩ := by
          split <;> simp [Addr.add]
        simp [Instr.slice, Instr.sliceBounds, run_underlying hu, run_sizeOf hs, hbd]
        intro _; simp [Addr.add]
      · cases hr
    · cases hr
  · cases hr
theorem src_rel (hS : SRel c κ σ) {sz m : Nat} {y : AV} {cs : List AV} {uy : Value} (hy : ARel κ y uy) (h : srcC sz σ y = some (m, cs)) :
    ∃ (A : Option Addr) (cc : Nat) (xs : List Value), uy = .slice A m cc ∧ xs.length = m * sz ∧ cs.length = m * sz ∧ (∀ (i : Nat) (x : AV), cs[i]? = some x → ARel κ x (xs.getD i Go.undef)) ∧
      (∀ a, A = some a → ∀ (j : Nat) (u : Value), xs[j]? = some u → κ.w.cell? (a.add j) = some u) ∧ (A = none → m = 0) := by
  unfold srcC at h
  split at h
  · rename_i r s off len
    split at h
    · rename_i T f l hσ
      split at h
      · rename_i hh
        obtain ⟨rfl, hle⟩ := hh
        cases h
        cases hy with
        | row0 _ _ hn => exact ⟨none, 0, [], rfl, by simp, by simp, by simp, by simp, fun _ => rfl⟩
        | row _ _ _ _ b n cap hn h1 h0 h2 h3 =>
          obtain ⟨cs, hg, hcs, hln, hf, himm, hrel, hcell⟩ := cells_of hS hσ hn
          refine ⟨_, cap, (cs.toList.drop off).take (m * s), rfl, ?_, ?_, fun i x hx => ?_, fun a ha j u hj => ?_, fun h => by cases h⟩
          · simp; omega
          · simp; omega
          · rw [List.getElem?_take] at hx
            split at hx
            · rename_i hi
              rw [List.getElem?_drop] at hx
              have := hrel _ x hx
              rw [getD_toList] at this
              rw [List.getD_eq_getElem?_getD, List.getElem?_take, if_pos hi, List.getElem?_drop, ← List.getD_eq_getElem?_getD]
              exact this
            · cases hx
          · cases ha
            rw [List.getElem?_take] at hj
            split at hj
            · rename_i hi
              rw [List.getElem?_drop] at hj
              rw [Addr.add_lit, cell_of_row κ.w b (off + j) cs T (0, 0) hg]
              simpa using hj
            · cases hj
      · cases h
    · cases h
  · simp only [Option.map_eq_some_iff, Prod.mk.injEq] at h
    obtain ⟨ys, hys, rfl, rfl⟩ := h
    obtain ⟨A, m, cc, xs, rfl, rfl, hrow, hone, hat⟩ := elems_row hS hy hys
    obtain ⟨hfl, hfr⟩ := flat_rel hrow
    refine ⟨A, cc, xs, rfl, hrow.1, by rw [hfl, hrow.1], hfr, fun a ha j u hj => ?_, fun hA => ?_⟩
    · rcases hat with h0 | ⟨a', ha', hat⟩
      · have := (List.getElem?_eq_some_iff.1 hj).1
        rw [hrow.1, h0, Nat.zero_mul] at this; omega
      · rw [ha] at ha'; cases ha'
        exact hat j u hj
    · rcases hat with h0 | ⟨a', ha', _⟩
      · exact h0
      · rw [hA] at ha'; cases ha'
theorem run_copy_sz (w : World) (dT sT ty elem : TypeId) (g o dLen dCap size : Nat) (A : Option Addr) (sLen sCap : Nat) (cur : Array Value) (t : TypeId) (cs : List Value)
    (hu : P.underlying dT = some (.slice elem)) (hs : szOf P elem = some size)
    (hg : w.heap[g]? = some (.cells cur t (0, 0))) (hn : cs.length = min sLen dLen * size) (hA : A = none → sLen = 0)
    (hsrc : ∀ a, A = some a → ∀ j v, cs[j]? = some v → w.cell? (a.add j) = some v) (hfit : o + cs.length ≤ cur.size) (h1 : ∀ v ∈ cs, v.oneCell' = true) :
    (Builtin.copy_ #[dT, sT] ty #[.slice (some ⟨g, o, none⟩) dLen dCap, .slice A sLen sCap]).run P w =
      .ok (goInt (min sLen dLen : Nat)) (w.setRow g (cur.toList.take o ++ cs ++ cur.toList.drop (o + cs.length)).toArray) := by
  have hst := run_storeCells_at P g o t cs 0 cur w hg (by simpa using hfit) h1
  simp only [Nat.add_zero] at hst
  have hf : (Builtin.firstCells size (min sLen dLen) (.slice A sLen sCap)).run P w = .ok cs.toArray w := by
    cases A with
    | none =>
      have h0 := hA rfl
      subst h0
      have : cs = [] := List.eq_nil_of_length_eq_zero (by simpa using hn)
      subst this
      simp [Builtin.firstCells]
    | some a =>
      have hl := run_loadCells_list (P := P) w a cs (hsrc a rfl)
      rw [hn] at hl
      simpa [Builtin.firstCells] using hl
  have hmin : Nat.min sLen dLen = min sLen dLen := rfl
  simp only [Builtin.copy_, List.getElem?_toArray, List.getElem?_cons_zero, List.getElem?_cons_succ, Sem.run_bind, run_underlying hu, Result.andThen_ok, Builtin.lenOf, Sem.run_pure, run_sizeOf hs, hmin, hf, List.toList_toArray, hst]
theorem s_copy {t t' ty e : TypeId} {sz new : Nat} {x y v : AV} {ux uy : Value} {δ : List (Nat × Blk)} (hS : SRel c κ σ) (hu : P.underlying t = some (.slice e)) (hs : szOf P e = some sz) (hx : ARel κ x ux) (hy : ARel κ y uy)
    (hr : rCopy sz σ x y = some (v, δ)) :
    ∃ u w', (Builtin.copy_ #[t, t'] ty #[ux, uy]).run P κ.w = .ok u w' ∧ ARel ⟨w', κ.nm, κ.imm⟩ v u ∧ Done c κ ⟨w', κ.nm, κ.imm⟩ new ∧ SRel c ⟨w', κ.nm, κ.imm⟩ (σ.upd δ) := by
  unfold rCopy at hr
  split at hr
  · rename_i r s off len
    split at hr
    · rename_i T f l hσ
      split at hr
      · rename_i hss
        subst hss
        simp only [Option.bind_eq_some_iff] at hr
        obtain ⟨⟨m, cs⟩, hsrc, hr⟩ := hr
        obtain ⟨A, cc, xs, rfl, hxl, hcl, hrel, hcell, hnil⟩ := src_rel hS hy hsrc
        simp only [copyB] at hr
        split at hr
        · rename_i hh
          obtain ⟨hle, hone⟩ := hh
          cases hr
          have hml : min m len * s ≤ m * s := Nat.mul_le_mul_right _ (Nat.min_le_left _ _)
          cases hx with
          | row0 _ _ hn =>
            have e0 : min m 0 = 0 := Nat.min_zero _
            refine ⟨goInt 0, κ.w, ?_, by rw [e0]; exact .pv _ _ (.int _ _), Done.same c κ new, ?_⟩
            · have hm0 : Nat.min m 0 = 0 := Nat.min_zero _
              cases A <;> simp [Builtin.copy_, run_underlying hu, Builtin.lenOf, run_sizeOf hs, hm0, Builtin.firstCells, loadCells, loadCellsFrom]
            · have e1 : (σ.upd [(r, Blk.cells T f (l.take 0 ++ cs.take (min m 0 * s) ++ l.drop (0 + min m 0 * s)))]) = σ := by
                funext q
                simp only [upd_one, Store.set]
                split
                · rename_i hq
                  subst hq
                  rw [hσ, e0]; simp
                · rfl
              rw [e1]; exact hS
          | row _ _ _ _ b n cap hnm h1 h0 h2 h3 =>
            obtain ⟨cur, hg, hcs, hln, hf, himm, hrl, _⟩ := cells_of hS hσ hnm
            have hlen : (xs.take (min m len * s)).length = min m len * s := by simp; omega
            have hlen' : (cs.take (min m len * s)).length = min m len * s := by simp; omega
            have hrel' : ∀ (i : Nat) (x : AV), (cs.take (min m len * s))[i]? = some x → ARel κ x ((xs.take (min m len * s)).getD i Go.undef) := by
              intro i x hx
              rw [List.getElem?_take] at hx
              split at hx
              · rename_i hi
                rw [List.getD_eq_getElem?_getD, List.getElem?_take, if_pos hi, ← List.getD_eq_getElem?_getD]
                exact hrel i x hx
              · cases hx
            have hone' : ∀ u ∈ xs.take (min m len * s), u.oneCell' = true := by
              intro u hu
              obtain ⟨i, hi, rfl⟩ := List.getElem_of_mem hu
              have hi' : i < (cs.take (min m len * s)).length := by omega
              have h4 := hrel' i _ (List.getElem?_eq_getElem hi')
              have h5 : AV.one (cs.take (min m len * s))[i] = true := (List.all_eq_true.1 hone) _ (List.getElem_mem hi')
              have := h4.oneCell h5
              rw [List.getD_eq_getElem?_getD, List.getElem?_eq_getElem hi, Option.getD_some] at this
              exact this
            have hst := run_copy_sz (P := P) κ.w t t' ty e b off len cap s A m cc cur T (xs.take (min m len * s)) hu hs hg hlen hnil (fun a ha j v hj => by
              rw [List.getElem?_take] at hj
              split at hj
              · exact hcell a ha j v hj
              · cases hj) (by rw [hlen]; omega) hone'
            refine ⟨_, _, hst, .pv _ _ (.int _ _), ?_⟩
            have hh := setRow_heap κ.w b cur (cur.toList.take off ++ xs.take (min m len * s) ++ cur.toList.drop (off + (xs.take (min m len * s)).length)).toArray T (0, 0) hg
            obtain ⟨k1, k2⟩ := stepW hS (r0 := r) (b0 := b) (d0 := .blk b n) (Bo := .cells T f (l.take off ++ cs.take (min m len * s) ++ l.drop (off + min m len * s)))
              (w' := κ.w.setRow b (cur.toList.take off ++ xs.take (min m len * s) ++ cur.toList.drop (off + (xs.take (min m len * s)).length)).toArray) new
              rfl rfl rfl (setRow_size ..) (fun b' hb' => setRow_other κ.w b b' _ hb') himm (by rw [hσ]; simp) hnm rfl
            refine ⟨k1, k2 (.inr ⟨b, n, _, hnm, hh, ?_, ?_, ?_, fun i y hy => ?_, himm⟩)⟩
            · simp; omega
            · simp; omega
            · intro hft; have := hf hft; simp; omega
            · rw [getD_toList]
              simp only
              rw [List.getD_eq_getElem?_getD]
              have hmm := list_set_mid l (cs.take (min m len * s)) off i (by rw [hlen']; omega)
              rw [hlen'] at hmm
              rw [hmm] at hy
              have hm := list_set_mid cur.toList (xs.take (min m len * s)) off i (by rw [hlen]; simp; omega)
              rw [hm]
              by_cases hi : off ≤ i ∧ i < off + min m len * s
              · rw [if_pos hi] at hy
                rw [if_pos (by rw [hlen]; exact hi)]
                have := (hrel' _ y hy).ext k1.ext
                rw [List.getD_eq_getElem?_getD] at this
                exact this
              · rw [if_neg hi] at hy
                rw [if_neg (by rw [hlen]; exact hi)]
                have := (hrl i y hy).ext k1.ext
                rw [getD_toList, List.getD_eq_getElem?_getD] at this
                exact this
        · cases hr
      · cases hr
    · cases hr
  · cases hr
theorem shape_cells {w : World} {b : Nat} {cs : Array Value} {T : TypeId} {fr : Nat × Nat} (h : w.heap[b]? = some (.cells cs T fr)) : w.shape? b = some (T, cs.size) := by
  simp [World.shape?, h]
theorem frozen_cells {w : World} {b o : Nat} {cs : Array Value} {T : TypeId} (h : w.heap[b]? = some (.cells cs T (0, 0))) : w.frozen? ⟨b, o, none⟩ = false := by
  simp [World.frozen?, h]
theorem s_apart {tS tR e : TypeId} {sz : Nat} {x y v : AV} {ux uy : Value} (hS : SRel c κ σ) (hu : P.underlying tS = some (.slice e)) (hs : szOf P e = some sz) (hx : ARel κ x ux) (hy : ARel κ y uy) (hr : rApart σ x y = some v) :
    ∃ z, (Extern.SlicesOverlaps.overlaps #[tS, tS] #[tR] #[ux, uy]).run P κ.w = .ok z κ.w ∧ ARel κ v z := by
  unfold rApart at hr
  split at hr
  · rename_i r s l q sz' off len
    split at hr
    · rename_i e' sz'' T f lq hσr hσq
      split at hr
      · rename_i hh
        obtain ⟨hne, rfl, hpos, hlp⟩ := hh
        cases hr
        refine ⟨.bool false, ?_, .pv _ _ (.bool _)⟩
        obtain ⟨b, n, cap, cs, rfl, hnq, _, _, _, _, hg, hcs, hl, _, _⟩ := row_full hS hy hσq
        cases hx with
        | olist _ _ _ _ hnr hp _ =>
          have hB := hS.blk r
          rw [hσr] at hB
          rcases hB with h | ⟨g, n', cap', cur, h1, h2, h3, h4, h5, h6⟩
          · rw [hnr] at h
            simp only [Option.some.injEq, Den.own.injEq] at h
            subst h
            cases l with
            | nil => simp at hlp
            | cons a q =>
              obtain ⟨_, _, _, hh⟩ := list_some hp
              cases hh
          · rw [hnr] at h1
            simp only [Option.some.injEq, Den.own.injEq] at h1
            subst h1
            have hap : g ≠ b := by
              intro h
              subst h
              exact hS.apart r q _ _ g (by rw [hσr]; simp) (by rw [hσq]; simp) hne hnr hnq rfl rfl
            exact Lib.run_overlaps_apart κ.w tS tR e hu sz (fun w => run_sizeOf hs) ⟨g, 0, none⟩ ⟨b, off, none⟩ n' cap' len cap hap e' T cur.size cs.size (shape_cells h2) (shape_cells hg)
              (by omega) (frozen_cells h2) (frozen_cells h2)
      · cases hr
    · cases hr
  · cases hr
theorem flat_rep (sz : Nat) (zs : List PV) (hz : zs.length = sz) : ∀ (n j : Nat) (x : PV), (List.replicate n zs).flatten[j]? = some x → j < n * sz ∧ zs[j % sz]? = some x
  | 0, j, x, h => by simp at h
  | n + 1, j, x, h => by
    rw [List.replicate_succ, List.flatten_cons] at h
    by_cases hj : j < sz
    · rw [List.getElem?_append_left (by omega)] at h
      refine ⟨by rw [Nat.succ_mul]; omega, ?_⟩
      rw [Nat.mod_eq_of_lt hj]; exact h
    · rw [List.getElem?_append_right (by omega), hz] at h
      obtain ⟨h1, h2⟩ := flat_rep sz zs hz n (j - sz) x h
      refine ⟨by rw [Nat.succ_mul]; omega, ?_⟩
      have : j % sz = (j - sz) % sz := by rw [Nat.mod_eq_sub_mod (by omega)]
      rw [this]; exact h2
theorem zero_get {z : Value} {p : PV} {n j : Nat} {q : PV} (hp : cV z = some p) (h : (List.replicate n p.cells).flatten[j]? = some q) : ARel κ (.pv q) ((Builtin.zeroCells z.cells n).getD j Go.undef) := by
  obtain ⟨k1, k2⟩ := (ARel.pv (κ := κ) p z (cV_rel hp)).cellsOf rfl
  have hz : z.cells.size = p.cells.length := by rw [k1]; simp [AV.cells]
  obtain ⟨h1, h2⟩ := flat_rep p.cells.length p.cells rfl n j q h
  have h3 := k2 (j % p.cells.length) (.pv q) (by simp [AV.cells, h2])
  have e : (Builtin.zeroCells z.cells n).getD j Go.undef = z.cells.getD (j % p.cells.length) Go.undef := by
    have hm : j % p.cells.length < p.cells.length := Nat.mod_lt _ (by
      rcases Nat.eq_zero_or_pos p.cells.length with h | h
      · rw [h] at h1; simp at h1
      · exact h)
    simp [Builtin.zeroCells, Array.getD_eq_getD_getElem?, hz, h1, hm]
  rw [e]; exact h3
theorem s_appz {t tn ty e new : TypeId} {i : TypeInfo} {z : Value} {p : PV} {kn : IntKind} {x y v : AV} {ux uy : Value} {δ : List (Nat × Blk)} (hS : SRel c κ σ) (hw : c.w0.heap.size ≤ κ.w.heap.size) (hn : κ.nm new = none)
    (hu : P.underlying t = some (.slice e)) (hun : P.underlying tn = some (.int kn)) (hi : P.info? e = some i) (hz : i.zero = some z) (hp : cV z = some p) (hsz : p.cells.length = i.size) (hx : ARel κ x ux) (hy : ARel κ y uy)
    (hr : rAppz e i.size i.bytes p.cells new σ x y = some (v, δ)) :
    ∃ u κ', (Builtin.append_ #[t, tn] ty #[ux, uy]).run P κ.w = .ok u κ'.w ∧ ARel κ' v u ∧ Done c κ κ' new ∧ SRel c κ' (σ.upd δ) := by
  unfold rAppz at hr
  split at hr
  · rename_i r s off len kk k
    split at hr
    · rename_i T f l hσ
      split at hr
      · rename_i hh
        obtain ⟨rfl, rfl, hs0, rfl, hk0, hgt, _, _, hroom⟩ := hh
        cases hr
        obtain ⟨k1, k2⟩ := room_le hroom
        obtain ⟨b, n, cap, cs, rfl, hnm, _, h0, h2, h3, hg, hcs, hl, himm, hrel⟩ := row_full hS hx hσ
        obtain rfl := int_inv hy
        have hcap := h0 rfl
        have hlc : len * i.size ≤ cap * i.size := Nat.mul_le_mul_right _ h2
        have hgrow : cap < len + k.toNat := by
          rw [hl, ← hcap] at hgt
          exact Nat.lt_of_mul_lt_mul_right hgt
        have holdl : (cs.toList.take (len * i.size)).length = len * i.size := by simp; omega
        have hold : (Builtin.firstCells i.size len (.slice (some ⟨b, 0, none⟩) len cap)).run P κ.w.drew = .ok (cs.toList.take (len * i.size)).toArray κ.w.drew := by
          have hh := run_loadCells_list (P := P) κ.w.drew ⟨b, 0, none⟩ (cs.toList.take (len * i.size)) (fun j u hj => by
            rw [List.getElem?_take] at hj
            split at hj
            · rw [Addr.add_lit, Nat.zero_add]
              exact (cell_of_row κ.w b j cs T (0, 0) hg).trans (by simpa using hj)
            · cases hj)
          rw [holdl] at hh
          simpa [Builtin.firstCells] using hh
        have hkn : (k.toNat : Int) = k := Int.toNat_of_nonneg (by omega)
        have hkb : k.toNat * i.bytes ≤ (len + k.toNat) * i.bytes := Nat.mul_le_mul_right _ (by omega)
        have hrun := Lib.run_append_grow_zeros (P := P) κ.w t tn ty e i z kk kn hu hun hi hz (some ⟨b, 0, none⟩) len cap (cs.toList.take (len * i.size)) hold k.toNat (by omega) hs0 hgrow
          (by simp only [maxLen] at k1; omega) (by omega) (growslice_fits hgrow k2)
        rw [hkn] at hrun
        have hz2 : z.cells.size = i.size := by
          obtain ⟨q1, _⟩ := (ARel.pv (κ := κ) p z (cV_rel hp)).cellsOf rfl
          rw [q1]; simp [AV.cells, hsz]
        have hge := grownCap_ge κ.w (len + k.toNat) cap e
        have hrl : ((List.replicate k.toNat p.cells).flatten.map AV.pv).length = k.toNat * i.size := by simp [hsz]
        have htl : (l.take (len * i.size)).length = len * i.size := by simp; omega
        have htot : ((cs.toList.take (len * i.size)).toArray ++ Builtin.zeroCells z.cells k.toNat ++ Builtin.zeroCells z.cells (grownCap κ.w (len + k.toNat) cap e - (len + k.toNat))).size = grownCap κ.w (len + k.toNat) cap e * i.size := by
          simp only [Array.size_append, List.size_toArray, holdl, size_zeroCells, hz2, ← Nat.add_mul]
          congr 1
          omega
        obtain ⟨κ', e1, e2, e3, e4⟩ := new_block (T := e) (f := false) (cs := (cs.toList.take (len * i.size)).toArray ++ Builtin.zeroCells z.cells k.toNat ++ Builtin.zeroCells z.cells (grownCap κ.w (len + k.toNat) cap e - (len + k.toNat)))
          (l := l.take (len * i.size) ++ (List.replicate k.toNat p.cells).flatten.map .pv) hS hw hn (by
            rw [htot, List.length_append, htl, hrl, ← Nat.add_mul]
            exact Nat.mul_le_mul_right _ hge) (fun h => by cases h) (fun j x hx => by
            rw [getD_toList]
            simp only [Array.toList_append]
            rw [List.append_assoc]
            refine rel_append (by rw [htl, List.toList_toArray, holdl]) (fun j x hx => ?_) (fun j x hx => ?_) j x hx
            · rw [List.getElem?_take] at hx
              split at hx
              · rename_i hj
                have := hrel j x hx
                rw [getD_toList] at this
                rw [List.getD_eq_getElem?_getD, List.toList_toArray, List.getElem?_take, if_pos hj, ← List.getD_eq_getElem?_getD]
                exact this
              · cases hx
            · simp only [List.getElem?_map, Option.map_eq_some_iff] at hx
              obtain ⟨q, hq, rfl⟩ := hx
              have := zero_get (κ := κ) hp hq
              have hj : j < k.toNat * i.size := by
                have := (List.getElem?_eq_some_iff.1 hq).1
                simpa [hsz] using this
              rw [getD_toList] at this
              rw [List.getD_eq_getElem?_getD, List.getElem?_append_left (by simp [size_zeroCells, hz2, hj]), ← List.getD_eq_getElem?_getD]
              exact this) κ.w.drew rfl rfl rfl rfl
        refine ⟨_, κ', by rw [hrun, e1], ?_, e3, e4⟩
        rw [htot] at e2
        exact .row _ _ _ _ _ _ _ e2 (by omega) (fun _ => rfl) hge (grownCap_le_maxLen κ.w (len + k.toNat) cap e k1)
      · cases hr
    · cases hr
  · cases hr
theorem ovl_params {ps ts us : Array TypeId} {t : TypeId} (h : ps[0]? = some t) (xs : Array Value) : Extern.SlicesOverlaps.overlaps ps ts xs = Extern.SlicesOverlaps.overlaps #[t, t] us xs := by
  delta Extern.SlicesOverlaps.overlaps
  rw [h]
  rfl
theorem ovl_find {fn : Func} (h1 : fn.name = ovlName) (h2 : fn.origin = ovlOrigin) : Extern.find fn = some (Extern.SlicesOverlaps.overlaps fn.params fn.resultTypes) ∧ Extern.findNext fn = none := by
  have a1 : Extern.allGenericRows.lookup ovlName = none := by kernel_rfl
  have a2 : Extern.allTypedRows.lookup ovlName = none := by kernel_rfl
  have a3 : Extern.allRows.lookup ovlName = none := by kernel_rfl
  have a4 : Extern.allNextRows.lookup ovlName = none := by kernel_rfl
  have b1 : Extern.allGenericRows.lookup ovlOrigin = none := by kernel_rfl
  have b2 : Extern.allTypedRows.lookup ovlOrigin = some Extern.SlicesOverlaps.overlaps := by kernel_rfl
  have b4 : Extern.allNextRows.lookup ovlOrigin = none := by kernel_rfl
  refine ⟨?_, ?_⟩
  · simp [Extern.find, h1, h2, a1, a2, a3, b1, b2]
  · simp [Extern.findNext, h1, h2, a4, b4]
theorem xOp_sound {o : Oper} {m : XOp} {mu : Bool} {v : AV} {new : Nat} {δ : List (Nat × Blk)} (hc : cXop P mu o.op = some m) (hS : SRel c κ σ) (hw : c.w0.heap.size ≤ κ.w.heap.size) (hn : m.makes = true → κ.nm new = none)
    (hE : ∀ i, i ∈ m.slots → ARel κ (E i) (a.tmps.getD i Go.undef)) (hr : m.run new E σ = some (v, δ)) :
    ∃ x u κ', (execOp a.eval o).run P κ.w = .ok x κ'.w ∧ (x = .value u ∨ (x = .skip ∧ u = Go.undef)) ∧ ARel κ' v u ∧ Done c κ κ' new ∧ SRel c κ' (σ.upd δ) ∧ (m.makes = false → κ'.nm = κ.nm) := by
  obtain ⟨dst, op, type, pos, after, guard⟩ := o
  simp only at hc
  unfold cXop at hc
  split at hc
  · rename_i args argTypes
    split at hc
    · rename_i x t hargs hat
      obtain rfl : args = #[x] := by cases args; simp_all
      obtain rfl : argTypes = #[t] := by cases argTypes; simp_all
      split at hc
      · rename_i e n ax he hx
        cases hc
        obtain ⟨hu, hs⟩ := elemOf_some he
        simp only [XOp.run, Option.map_eq_some_iff, Prod.mk.injEq] at hr
        obtain ⟨v', hv', rfl, rfl⟩ := hr
        obtain ⟨z, h1, h2⟩ := s_cap (P := P) (ty := type) hS hu (cX_rel hx hE) hv'
        exact ⟨_, z, κ, by simp [execOp, resolve, invoke, builtin, h1], .inl rfl, h2, Done.same c κ new, hS, fun _ => rfl⟩
      · cases hc
    · cases hc
  · rename_i t x h
    split at hc
    · rename_i e n he
      split at hc
      · rename_i ax ah hx hh
        cases hc
        obtain ⟨hu, hs⟩ := elemOf_some he
        simp only [XOp.run, Option.map_eq_some_iff, Prod.mk.injEq] at hr
        obtain ⟨v', hv', rfl, rfl⟩ := hr
        obtain ⟨z, h1, h2⟩ := s_resl (P := P) hS hu hs (cX_rel hx (fun i hi => hE i (by simp [XOp.slots, hi]))) (cX_rel hh (fun i hi => hE i (by simp [XOp.slots, hi]))) hv'
        refine ⟨.value z, z, κ, ?_, .inl rfl, h2, Done.same c κ new, hS, fun _ => rfl⟩
        simp [execOp, Instr.sliceAt, run_underlying hu, h1]
      · cases hc
    · cases hc
  · rename_i args argTypes
    split at hc
    · rename_i x y t t' hargs hat
      obtain rfl : args = #[x, y] := by cases args; simp_all
      obtain rfl : argTypes = #[t, t'] := by cases argTypes; simp_all
      split at hc
      · rename_i e n ax ay he hx hy
        cases hc
        obtain ⟨hu, hs⟩ := elemOf_some he
        simp only [XOp.run] at hr
        obtain ⟨u, w', h1, h2, h3, h4⟩ := s_copy (P := P) (t' := t') (ty := type) (new := new) hS hu hs (cX_rel hx (fun i hi => hE i (by simp [XOp.slots, hi]))) (cX_rel hy (fun i hi => hE i (by simp [XOp.slots, hi]))) hr
        exact ⟨_, u, _, by simp [execOp, resolve, invoke, builtin, h1], .inl rfl, h2, h3, h4, fun _ => rfl⟩
      · cases hc
    · cases hc
  · rename_i args argTypes
    split at hc
    · rename_i x y t t' hargs hat
      obtain rfl : args = #[x, y] := by cases args; simp_all
      obtain rfl : argTypes = #[t, t'] := by cases argTypes; simp_all
      split at hc
      · rename_i e kn hu hun
        split at hc
        · rename_i i hi
          split at hc
          · rename_i z hz
            split at hc
            · rename_i p ax ay hp hx hy
              split at hc
              · rename_i hsz
                cases hc
                simp only [XOp.run] at hr
                obtain ⟨u, κ', h1, h2, h3, h4⟩ := s_appz (P := P) (ty := type) hS hw (hn rfl) hu hun hi hz hp hsz (cX_rel hx (fun i hi => hE i (by simp [XOp.slots, hi]))) (cX_rel hy (fun i hi => hE i (by simp [XOp.slots, hi]))) hr
                exact ⟨_, u, κ', by simp [execOp, resolve, invoke, builtin, h1], .inl rfl, h2, h3, h4, fun h => by cases h⟩
              · cases hc
            · cases hc
          · cases hc
        · cases hc
      · cases hc
    · cases hc
  · rename_i f args argTypes
    split at hc
    · rename_i x y hargs
      obtain rfl : args = #[x, y] := by cases args; simp_all
      split at hc
      · rename_i ax ay hov hx hy
        cases hc
        unfold cOvl at hov
        split at hov
        · rename_i fn hfn
          simp only [Bool.and_eq_true, beq_iff_eq] at hov
          obtain ⟨⟨⟨hb, hname⟩, horg⟩, hp⟩ := hov
          split at hp
          · rename_i t t' hp0 hp1
            simp only [Bool.and_eq_true, beq_iff_eq, Option.isSome_iff_exists] at hp
            obtain ⟨rfl, ⟨e, n⟩, he⟩ := hp
            obtain ⟨hu, hs⟩ := elemOf_some he
            simp only [XOp.run, Option.map_eq_some_iff, Prod.mk.injEq] at hr
            obtain ⟨v', hv', rfl, rfl⟩ := hr
            obtain ⟨z, h1, h2⟩ := s_apart (P := P) (tR := t) hS hu hs (cX_rel hx (fun i hi => hE i (by simp [XOp.slots, hi]))) (cX_rel hy (fun i hi => hE i (by simp [XOp.slots, hi]))) hv'
            obtain ⟨f1, f2⟩ := ovl_find hname horg
            have hnum : (fn.name == "runtime.NumGoroutine") = false := by rw [hname]; kernel_rfl
            have h3 : (Extern.SlicesOverlaps.overlaps fn.params fn.resultTypes #[a.eval x, a.eval y]).run P κ.w = .ok z κ.w := by
              rw [← h1, ovl_params (ts := fn.resultTypes) (us := #[t]) hp0]
            refine ⟨.value z, z, κ, ?_, .inl rfl, h2, Done.same c κ new, hS, fun _ => rfl⟩
            have h4 := run_callFunc_extern (P := P) hfn hnum hb f2 f1 #[a.eval x, a.eval y] κ.w
            rw [h3] at h4
            have he : a.eval (.func f) = .func (.func f) #[] #[] := rfl
            simp [execOp, resolve, Deferred.ofValue, invoke, he, h4]
          · cases hp
        · cases hov
      · cases hc
    · cases hc
  · cases hc
end
end Go.Ab
set_option linter.unusedVariables false
set_option linter.unusedSimpArgs false
namespace Go.Ab
open Go Go.RowKit
def cM0 (P : Program) (mu : Bool) : Op → Option MOp
  | .alloc e => (zeroOf P e).map (.alloc e)
  | .box e x => (cX x).map (if mu = true then .cbox e else .box e)
  | .load t x => match szOf P t, aggOf P t, cX x with
    | some n, some g, some ax => some (.load g n ax)
    | _, _, _ => none
  | .store t x v => match szOf P t, cX x, cX v with
    | some n, some ax, some av => some (.store n ax av)
    | _, _, _ => none
  | .buildSlice t len parts => match P.underlying t with
    | some (.slice e) => match szOf P e, zeroOf P e, cXs (parts.toList.map (·.2)) with
      | some n, some _, some xs => if len * n ≤ 2 ^ 24 ∧ parts.toList.map (·.1) = List.range len then some (.bslice mu e n len xs) else none
      | _, _, _ => none
    | _ => none
  | .call { callee := .builtin .append, args, argTypes } => match args.toList, argTypes.toList with
    | [x, y], [t, t'] => if t = t' then match P.underlying t with
      | some (.slice e) => match P.info? e with
        | some i => match i.zero, cX x, cX y with
          | some z, some ax, some ay => if z.cells.size = i.size then some (.append mu e i.size i.bytes ax ay) else none
          | _, _, _ => none
        | none => none
      | _ => none
      else none
    | _, _ => none
  | .call { callee := .builtin .clear, args, argTypes } => match args.toList, argTypes.toList with
    | [x], [t] => match P.underlying t with
      | some (.slice e) => match zeroOf P e, cX x with
        | some zs, some ax => some (.clear zs.length zs ax)
        | _, _ => none
      | _ => none
    | _, _ => none
  | .slice t x lo hi none => match P.underlying t with
    | some (.array n e) => match szOf P e, cX x, cO lo, cO hi with
      | some s, some ax, some al, some ah => some (.sliceA n s ax al ah)
      | _, _, _, _ => none
    | _ => none
  | .convert s d x => match P.underlying s, P.underlying d with
    | some (.slice e), some .string => match P.underlying e with
      | some (.int .u8) => (cX x).map .toStr
      | _ => none
    | _, _ => none
  | .makeSlice t x y => match P.underlying t with
    | some (.slice e) => match P.info? e with
      | some i => match i.zero with
        | some z => match cV z, cX x, cX y with
          | some p, some ax, some ay => if p.cells.length = i.size then some (.mk mu e i.size i.bytes p.cells ax ay) else none
          | _, _, _ => none
        | none => none
      | none => none
    | _ => none
  | _ => none
def cM (P : Program) (mu : Bool) (op : Op) : Option MOp :=
  match cM0 P mu op with
  | some m => some m
  | none => (cXop P mu op).map .xop
section
variable {P : Program} {c : Ctx} {κ : Kap} {σ : Store} {E : Nat → AV} {a : Act}
theorem flat_replicate (sz : Nat) (zs : List PV) (hz : zs.length = sz) : ∀ (n j : Nat) (x : PV), (List.replicate n zs).flatten[j]? = some x → j < n * sz ∧ zs[j % sz]? = some x
  | 0, j, x, h => by simp at h
  | n + 1, j, x, h => by
    rw [List.replicate_succ, List.flatten_cons] at h
    by_cases hj : j < sz
    · rw [List.getElem?_append_left (by omega)] at h
      refine ⟨by rw [Nat.succ_mul]; omega, ?_⟩
      rw [Nat.mod_eq_of_lt hj]; exact h
    · rw [List.getElem?_append_right (by omega), hz] at h
      obtain ⟨h1, h2⟩ := flat_replicate sz zs hz n (j - sz) x h
      refine ⟨by rw [Nat.succ_mul]; omega, ?_⟩
      have : j % sz = (j - sz) % sz := by rw [Nat.mod_eq_sub_mod (by omega)]
      rw [this]; exact h2
theorem s_mk {mu : Bool} {t e new : Nat} {i : TypeInfo} {z : Value} {p : PV} {x y v : AV} {ux uy : Value} {δ : List (Nat × Blk)} (hS : SRel c κ σ) (hw : c.w0.heap.size ≤ κ.w.heap.size) (hn : κ.nm new = none)
    (hu : P.underlying t = some (.slice e)) (hi : P.info? e = some i) (hz : i.zero = some z) (hp : cV z = some p) (hsz : p.cells.length = i.size) (hx : ARel κ x ux) (hy : ARel κ y uy) (hr : rMk mu e i.size i.bytes p.cells new x y = some (v, δ)) :
    ∃ u κ', (Instr.makeSlice t ux uy).run P κ.w = .ok u κ'.w ∧ ARel κ' v u ∧ Done c κ κ' new ∧ SRel c κ' (σ.upd δ) := by
  unfold rMk at hr
  split at hr
  · rename_i kl l kc cc
    obtain rfl := int_inv hx
    obtain rfl := int_inv hy
    split at hr
    · rename_i hh
      obtain ⟨h0, hlc, hby, h63⟩ := hh
      have hrun := run_make (P := P) κ.w t e i z hu hi hz kl kc l cc h0 hlc hby h63
      have hmax : cc.toNat ≤ maxLen := by unfold maxLen; omega
      have hle : l.toNat ≤ cc.toNat := by omega
      obtain ⟨k1, k2⟩ := (ARel.pv (κ := κ) p z (cV_rel hp)).cellsOf rfl
      split at hr
      · split at hr
        · rename_i hl0
          cases hr
          obtain ⟨κ', e1, e2, e3, e4⟩ := own_new (e := e) (sz := i.size) (n := 0) (cap := cc.toNat) (l := []) (xs := []) hS hw hn (by exact ⟨by simp, by simp, by simp⟩) rfl (Nat.zero_le _) hmax (size_madeCells z.cells (cc.toNat * i.size)) (by simp) κ.w rfl rfl rfl rfl
          refine ⟨_, κ', by rw [hrun, e1], ?_, e3, e4⟩
          rw [hl0]
          exact e2
        · cases hr
      · cases hr
        have hlen : ((List.replicate l.toNat p.cells).flatten.map AV.pv).length = l.toNat * i.size := by simp [hsz]
        have hmul : l.toNat * i.size ≤ cc.toNat * i.size := Nat.mul_le_mul_right _ hle
        obtain ⟨κ', e1, e2, e3, e4⟩ := new_block (T := e) (f := false) (cs := madeCells z.cells (cc.toNat * i.size)) (l := (List.replicate l.toNat p.cells).flatten.map AV.pv) hS hw hn (by rw [hlen, size_madeCells]; exact hmul) (fun h => by cases h) (fun j x hx => by
          simp only [List.getElem?_map, Option.map_eq_some_iff] at hx
          obtain ⟨q, hq, rfl⟩ := hx
          obtain ⟨h1, h2⟩ := flat_replicate i.size p.cells hsz l.toNat j q hq
          have h3 := k2 (j % i.size) (.pv q) (by simp [AV.cells, h2])
          have hzs : z.cells.size = i.size := by rw [k1]; simp [AV.cells, hsz]
          have e : (madeCells z.cells (cc.toNat * i.size)).getD j Go.undef = z.cells.getD (j % i.size) Go.undef := by
            have hj : j < cc.toNat * i.size := by omega
            have hm : j % i.size < i.size := Nat.mod_lt _ (by
              rcases Nat.eq_zero_or_pos i.size with h | h
              · rw [h] at h1; simp at h1
              · exact h)
            have hm2 : j % z.cells.size < z.cells.size := by rw [hzs]; exact hm
            simp [madeCells, Array.getD_eq_getD_getElem?, hj, hzs, hm]
          rw [e]; exact h3) κ.w rfl rfl rfl rfl
        refine ⟨_, κ', by rw [hrun, e1], ?_, e3, e4⟩
        rw [size_madeCells] at e2
        exact .row _ _ _ _ _ _ cc.toNat e2 (by omega) (fun _ => rfl) hle hmax
    · cases hr
  · cases hr
theorem s_clear {t e ty new : Nat} {zs : List PV} {x : AV} {u : Value} {δ : List (Nat × Blk)} (hS : SRel c κ σ) (hu : P.underlying t = some (.slice e)) (hz : zeroOf P e = some zs) (hx : ARel κ x u) (hr : rClear zs.length zs σ x = some δ) :
    ∃ w', (Builtin.clear_ #[t] ty #[u]).run P κ.w = .ok (.tuple #[]) w' ∧ Done c κ ⟨w', κ.nm, κ.imm⟩ new ∧ SRel c ⟨w', κ.nm, κ.imm⟩ (σ.upd δ) := by
  unfold rClear at hr
  split at hr
  · rename_i r s off len
    split at hr
    · rename_i T f l hσ
      split at hr
      · rename_i hh
        obtain ⟨rfl, h0, _, hle, hone⟩ := hh
        cases hr
        cases hx with
        | row0 => omega
        | row _ _ _ _ b n cap hnm _ _ _ _ =>
          obtain ⟨cs, hg, hcs, hln, hf, himm, hrel, _⟩ := cells_of hS hσ hnm
          obtain ⟨z, p, hz1, hp, rfl⟩ := run_zero (P := P) (w := κ.w) hz
          obtain ⟨q1, q2⟩ := (ARel.pv (κ := κ) p z (cV_rel hp)).cellsOf rfl
          have hzs : z.cells.size = p.cells.length := by rw [q1]; simp [AV.cells]
          have hnl : (Builtin.zeroCells z.cells len).size = len * p.cells.length := by rw [size_zeroCells, hzs]
          have hget : ∀ j, j < len * p.cells.length → ∃ y, p.cells[j % p.cells.length]? = some y ∧ ARel κ (.pv y) ((Builtin.zeroCells z.cells len).getD j Go.undef) ∧ y.one = true := by
            intro j hj
            have hpos : 0 < p.cells.length := by
              rcases Nat.eq_zero_or_pos p.cells.length with h | h
              · rw [h] at hj; simp at hj
              · exact h
            have hm : j % p.cells.length < p.cells.length := Nat.mod_lt _ hpos
            refine ⟨_, List.getElem?_eq_getElem hm, ?_, (List.all_eq_true.1 hone) _ (List.getElem_mem hm)⟩
            have h3 := q2 (j % p.cells.length) (.pv p.cells[j % p.cells.length]) (by simp [AV.cells, hm])
            have e : (Builtin.zeroCells z.cells len).getD j Go.undef = z.cells.getD (j % p.cells.length) Go.undef := by
              simp [Builtin.zeroCells, Array.getD_eq_getD_getElem?, hj, hzs, hm]
            rw [e]; exact h3
          have hone' : ∀ y ∈ (Builtin.zeroCells z.cells len).toList, y.oneCell' = true := by
            intro y hy
            obtain ⟨i, hi, rfl⟩ := List.getElem_of_mem hy
            have hi' : i < (Builtin.zeroCells z.cells len).size := by simpa using hi
            obtain ⟨y, h1, h2, h3⟩ := hget i (by rw [← hnl]; exact hi')
            have := h2.oneCell (by simpa [AV.one] using h3)
            simpa [Array.getD_eq_getD_getElem?, hi'] using this
          have hst := run_storeCells_at (P := P) b off T (Builtin.zeroCells z.cells len).toList 0 cs κ.w hg (by simp; omega) hone'
          simp only [Nat.add_zero, Array.length_toList] at hst
          obtain ⟨X, hX⟩ : ∃ X, X = (List.replicate len p.cells).flatten.map AV.pv := ⟨_, rfl⟩
          have hXl : X.length = len * p.cells.length := by rw [hX]; simp
          rw [← hX]
          refine ⟨κ.w.setRow b (cs.toList.take off ++ (Builtin.zeroCells z.cells len).toList ++ cs.toList.drop (off + (Builtin.zeroCells z.cells len).size)).toArray, ?_, ?_⟩
          · obtain ⟨m, rfl⟩ : ∃ m, len = m + 1 := ⟨len - 1, by omega⟩
            simp [Builtin.clear_, run_underlying hu, hz1, hst]
          · have hh := setRow_heap κ.w b cs (cs.toList.take off ++ (Builtin.zeroCells z.cells len).toList ++ cs.toList.drop (off + (Builtin.zeroCells z.cells len).size)).toArray T (0, 0) hg
            obtain ⟨h1, h2⟩ := stepW hS (r0 := r) (b0 := b) (d0 := .blk b n) (Bo := .cells T f (l.take off ++ X ++ l.drop (off + len * p.cells.length)))
              (w' := κ.w.setRow b (cs.toList.take off ++ (Builtin.zeroCells z.cells len).toList ++ cs.toList.drop (off + (Builtin.zeroCells z.cells len).size)).toArray) new
              rfl rfl rfl (setRow_size ..) (fun b' hb' => setRow_other κ.w b b' _ hb') himm (by rw [hσ]; simp) hnm rfl
            refine ⟨h1, h2 (.inr ⟨b, n, _, hnm, hh, ?_, ?_, ?_, fun i y hy => ?_, himm⟩)⟩
            · simp; omega
            · simp; omega
            · intro hft; have := hf hft; simp; omega
            · rw [getD_toList]
              simp only
              rw [List.getD_eq_getElem?_getD]
              rw [← hXl] at hy hle
              rw [list_set_mid l X off i hle] at hy
              have hm := list_set_mid cs.toList (Builtin.zeroCells z.cells len).toList off i (by simp; omega)
              simp only [Array.length_toList] at hm
              rw [hm]
              by_cases hi : off ≤ i ∧ i < off + X.length
              · rw [if_pos hi] at hy
                rw [if_pos (by omega)]
                obtain ⟨y', g1, g2, _⟩ := hget (i - off) (by omega)
                rw [hX] at hy
                simp only [List.getElem?_map, Option.map_eq_some_iff] at hy
                obtain ⟨q, hq, rfl⟩ := hy
                obtain ⟨_, g3⟩ := flat_replicate p.cells.length p.cells rfl len (i - off) q hq
                rw [g3] at g1; cases g1
                have := g2.ext h1.ext
                rw [getD_toList, List.getD_eq_getElem?_getD] at this
                exact this
              · rw [if_neg hi] at hy
                rw [if_neg (by omega)]
                have := (hrel i y hy).ext h1.ext
                rw [getD_toList, List.getD_eq_getElem?_getD] at this
                exact this
      · cases hr
    · cases hr
  · cases hr
theorem u8s_ints : ∀ {ys : List PV} {l : List UInt8}, u8s ys = some l → ∃ ns : List Int, ys = ns.map (PV.int .u8) ∧ l = ns.map fun n => UInt8.ofNat n.toNat
  | [], l, h => by simp only [u8s, Option.some.injEq] at h; subst h; exact ⟨[], rfl, rfl⟩
  | y :: r, l, h => by
    unfold u8s at h
    split at h
    · cases ‹_ :: _ = []›
    · rename_i n r' he
      cases he
      split at h
      · rename_i k hk
        cases h
        obtain ⟨ns, h1, h2⟩ := u8s_ints hk
        exact ⟨n :: ns, by rw [h1]; rfl, by rw [h2]; rfl⟩
      · cases h
    · cases h
theorem foldl_bytes : ∀ (ns : List Int) (s : ByteArray), (ns.foldl (fun r n => r.push (UInt8.ofNat n.toNat)) s).data.toList = s.data.toList ++ ns.map fun n => UInt8.ofNat n.toNat
  | [], s => by simp
  | n :: r, s => by
    rw [List.foldl_cons, foldl_bytes r]
    simp [ByteArray.push]
theorem s_toStr {src dst e : TypeId} {x v : AV} {u : Value} (hS : SRel c κ σ) (hs : P.underlying src = some (.slice e)) (he : P.underlying e = some (.int .u8)) (hd : P.underlying dst = some .string) (hx : ARel κ x u) (hr : rToStr σ x = some v) :
    ∃ u', (convert src dst u).run P κ.w = .ok u' κ.w ∧ ARel κ v u' := by
  unfold rToStr at hr
  split at hr
  · rename_i ys hys
    split at hr
    · rename_i l hl
      cases hr
      have hlen := elems_len hx hys hS
      obtain ⟨A, m, cc, xs, rfl, hm, hrow, _, hcell⟩ := elems_row hS hx hys
      obtain ⟨ns, rfl, rfl⟩ := u8s_ints hl
      obtain ⟨h1, h2, h3⟩ := hrow
      have hxs : xs = ns.map (Value.int .u8) := by
        refine List.ext_getElem? fun i => ?_
        rw [List.getElem?_map]
        cases hn : ns[i]? with
        | none =>
          have : ns.length ≤ i := by simpa using hn
          rw [List.getElem?_eq_none (by rw [h1]; simp; omega)]; rfl
        | some n =>
          have hi : i < ns.length := (List.getElem?_eq_some_iff.1 hn).1
          have h4 := (h3 i (.int .u8 n) 0 (.int .u8 n) (by rw [List.getElem?_map, hn]; rfl) rfl).1
          rw [Nat.mul_one, Nat.add_zero] at h4
          have h5 : i < xs.length := by rw [h1]; simp; omega
          rw [List.getElem?_eq_getElem h5]
          rw [List.getD_eq_getElem?_getD, List.getElem?_eq_getElem h5] at h4
          simp only [Option.getD_some] at h4
          generalize xs[i] = y at h4
          cases h4; rfl
      subst hxs
      rw [run_convert_bytes_string κ.w src dst e A m cc hs he hd]
      cases A with
      | none =>
        rcases hcell with h0 | ⟨a, ha, _⟩
        · have : ns = [] := List.eq_nil_of_length_eq_zero (by rw [h0] at hm; simpa using hm.symm)
          subst this
          exact ⟨.string .empty, by simp [Conv.bytesToString], .pv _ _ (.str .empty (by simp [maxLen]))⟩
        · cases ha
      | some a =>
        have hload : (loadCells a m).run P κ.w = .ok (ns.map (Value.int .u8)).toArray κ.w := by
          have hml : m = (ns.map (Value.int .u8)).length := by rw [hm]; simp
          rw [hml]
          refine run_loadCells_list κ.w a _ fun j v hj => ?_
          rcases hcell with h0 | ⟨a', ha, hc⟩
          · have : j < (ns.map (Value.int .u8)).length := (List.getElem?_eq_some_iff.1 hj).1
            omega
          · cases ha; exact hc j v hj
        refine ⟨_, run_bytesToString κ.w a m cc ns hload, str_mk' ?_ (by simpa using hlen)⟩
        rw [foldl_bytes]; simp
    · cases hr
  · cases hr
theorem mOp_sound0 {o : Oper} {m : MOp} {mu : Bool} {v : AV} {new : Nat} {δ : List (Nat × Blk)} (hc : cM0 P mu o.op = some m) (hS : SRel c κ σ) (hw : c.w0.heap.size ≤ κ.w.heap.size) (hn : m.makes = true → κ.nm new = none)
    (hE : ∀ i, i ∈ m.slots → ARel κ (E i) (a.tmps.getD i Go.undef)) (hr : m.run c.G new E σ = some (v, δ)) :
    ∃ x u κ', (execOp a.eval o).run P κ.w = .ok x κ'.w ∧ (x = .value u ∨ (x = .skip ∧ u = Go.undef)) ∧ ARel κ' v u ∧ Done c κ κ' new ∧ SRel c κ' (σ.upd δ) ∧ (m.makes = false → κ'.nm = κ.nm) := by
  obtain ⟨dst, op, type, pos, after, guard⟩ := o
  simp only at hc
  unfold cM0 at hc
  split at hc
  · rename_i e
    simp only [Option.map_eq_some_iff] at hc
    obtain ⟨zs, hz, rfl⟩ := hc
    simp only [MOp.run, Option.some.injEq, Prod.mk.injEq] at hr
    obtain ⟨rfl, rfl⟩ := hr
    obtain ⟨u, κ', h1, h2, h3, h4⟩ := s_alloc (P := P) hS hw (hn rfl) hz (.tuple #[])
    exact ⟨_, u, κ', by simp [execOp, h1], .inl rfl, h2, h3, h4, fun h => by cases h⟩
  · rename_i e x
    simp only [Option.map_eq_some_iff] at hc
    obtain ⟨ax, hx, rfl⟩ := hc
    by_cases hmu : mu = true
    · simp only [hmu, if_true] at hn hE hr ⊢
      simp only [MOp.run] at hr
      split at hr
      · rename_i p hp
        split at hr
        · rename_i ho
          simp only [Option.some.injEq, Prod.mk.injEq] at hr
          obtain ⟨rfl, rfl⟩ := hr
          obtain ⟨u, κ', h1, h2, h3, h4⟩ := s_cbox (P := P) (T := e) hS hw (hn rfl) hp ho (cX_rel hx hE)
          exact ⟨_, u, κ', by simp [execOp, h1], .inl rfl, h2, h3, h4, fun h => by cases h⟩
        · cases hr
      · cases hr
    rw [if_neg hmu] at hn hE hr ⊢
    simp only [MOp.run] at hr
    split at hr
    · rename_i hk
      simp only [Option.some.injEq, Prod.mk.injEq] at hr
      obtain ⟨rfl, rfl⟩ := hr
      obtain ⟨u, κ', h1, h2, h3, h4⟩ := s_box (P := P) (T := e) hS hw (hn rfl) hk (cX_rel hx hE)
      exact ⟨_, u, κ', by simp [execOp, h1], .inl rfl, h2, h3, h4, fun h => by cases h⟩
    · cases hr
  · rename_i t x
    split at hc
    · rename_i n g ax hsz hg hx
      cases hc
      simp only [MOp.run, Option.map_eq_some_iff, Prod.mk.injEq] at hr
      obtain ⟨v', hv', rfl, rfl⟩ := hr
      obtain ⟨u, h1, h2⟩ := s_load (P := P) hS hg hsz (cX_rel hx hE) hv'
      exact ⟨_, u, κ, by simp [execOp, h1], .inl rfl, h2, Done.same c κ new, hS, fun _ => rfl⟩
    · cases hc
  · rename_i t x y
    split at hc
    · rename_i n ax ay hsz hx hy
      cases hc
      simp only [MOp.run, Option.map_eq_some_iff, Prod.mk.injEq] at hr
      obtain ⟨d, hd, rfl, rfl⟩ := hr
      obtain ⟨w', h1, h2, h3⟩ := s_store (P := P) (new := new) hS hsz (cX_rel hx (fun i hi => hE i (by simp [MOp.slots, hi]))) (cX_rel hy (fun i hi => hE i (by simp [MOp.slots, hi]))) hd
      exact ⟨_, Go.undef, _, by simp [execOp, h1], .inr ⟨rfl, rfl⟩, .pv _ _ .undef, h2, h3, fun _ => rfl⟩
    · cases hc
  · rename_i t len parts
    split at hc
    · rename_i e hu
      split at hc
      · rename_i n zs xs hsz hz hxs
        split at hc
        · rename_i hh
          cases hc
          obtain ⟨z, p, hz1, _, _⟩ := run_zero (P := P) (w := κ.w) hz
          obtain ⟨_, hrel⟩ := cXs_rel (κ := κ) (E := E) (a := a) hxs hE
          simp only [MOp.run] at hr
          obtain ⟨u, κ', h1, h2, h3, h4⟩ := s_bslice (P := P) (t := t) (parts := parts.map fun p => (p.1, a.eval p.2)) (z := z) hS hw (hn rfl) hu hsz hz1 hh.1
            (by rw [← hh.2]; simp [Function.comp_def]) (fun i v hv => by
              have := hrel i v hv
              simpa [Function.comp_def] using this) hr
          exact ⟨_, u, κ', by simp [execOp, h1], .inl rfl, h2, h3, h4, fun h => by cases h⟩
        · cases hc
      · cases hc
    · cases hc
  · rename_i args argTypes
    split at hc
    · rename_i x y t t' hargs hat
      obtain rfl : args = #[x, y] := by cases args; simp_all
      obtain rfl : argTypes = #[t, t'] := by cases argTypes; simp_all
      split at hc
      · rename_i htt
        subst htt
        split at hc
        · rename_i e hu
          split at hc
          · rename_i i hi
            split at hc
            · rename_i z ax ay hz hx hy
              split at hc
              · rename_i hzs
                cases hc
                simp only [MOp.run] at hr
                have hI : ElemInfo P t e i.size i.bytes := ⟨hu, i, z, hi, hz, rfl, rfl, hzs⟩
                have hx' := cX_rel (κ := κ) (E := E) (a := a) hx (fun i hi => hE i (by simp [MOp.slots, hi]))
                have hy' := cX_rel (κ := κ) (E := E) (a := a) hy (fun i hi => hE i (by simp [MOp.slots, hi]))
                cases mu with
                | false =>
                  obtain ⟨u, κ', h1, h2, h3, h4⟩ := s_append (P := P) (ty := type) hS hw (hn rfl) hI hx' hy' hr
                  exact ⟨_, u, κ', by simp [execOp, resolve, invoke, builtin, h1], .inl rfl, h2, h3, h4, fun h => by cases h⟩
                | true =>
                  obtain ⟨u, κ', h1, h2, h3, h4⟩ := s_appendM (P := P) (ty := type) hS hw (hn rfl) hI hx' hy' hr
                  exact ⟨_, u, κ', by simp [execOp, resolve, invoke, builtin, h1], .inl rfl, h2, h3, h4, fun h => by cases h⟩
              · cases hc
            · cases hc
          · cases hc
        · cases hc
      · cases hc
    · cases hc
  · rename_i args argTypes
    split at hc
    · rename_i x t hargs hat
      obtain rfl : args = #[x] := by cases args; simp_all
      obtain rfl : argTypes = #[t] := by cases argTypes; simp_all
      split at hc
      · rename_i e hu
        split at hc
        · rename_i zs ax hz hx
          cases hc
          simp only [MOp.run, Option.map_eq_some_iff, Prod.mk.injEq] at hr
          obtain ⟨d, hd, rfl, rfl⟩ := hr
          obtain ⟨w', h1, h2, h3⟩ := s_clear (P := P) (ty := type) (new := new) hS hu hz (cX_rel hx hE) hd
          exact ⟨_, .tuple #[], _, by simp [execOp, resolve, invoke, builtin, h1], .inl rfl, .pv _ _ (.tup [] #[] rfl (by simp)), h2, h3, fun _ => rfl⟩
        · cases hc
      · cases hc
    · cases hc
  · rename_i t x lo hi
    split at hc
    · rename_i n e hu
      split at hc
      · rename_i s ax al ah hsz hx hl hh
        cases hc
        simp only [MOp.run] at hr
        obtain ⟨l1, l2⟩ := cO_rel (κ := κ) (E := E) (a := a) hl (fun i hi => hE i (by simp [MOp.slots, hi]))
        obtain ⟨h1, h2⟩ := cO_rel (κ := κ) (E := E) (a := a) hh (fun i hi => hE i (by simp [MOp.slots, hi]))
        have hx' := cX_rel (κ := κ) (E := E) (a := a) hx (fun i hi => hE i (by simp [MOp.slots, hi]))
        split at hr
        · rename_i r o hxe
          rw [hxe] at hx'
          obtain ⟨b, N, hux, hnm⟩ : ∃ b N, a.eval x = .pointer (some ⟨b, o, none⟩) ∧ κ.nm r = some (.blk b N) := by
            generalize a.eval x = ux at hx'
            cases hx' with
            | ptr _ _ b N h => exact ⟨b, N, rfl, h⟩
          split at hr
          · rename_i T f l hσ
            split at hr
            · rename_i hg
              obtain ⟨hf, hle, h0, hmax⟩ := hg
              simp only [Option.map_eq_some_iff, Prod.mk.injEq] at hr
              obtain ⟨v', hv', rfl, rfl⟩ := hr
              obtain ⟨cs, _, hcs, hln, hfn, _, _, _⟩ := cells_of hS hσ hnm
              have hN := hfn hf
              have hrow : ARel κ (.row r s o n) (.slice (some ⟨b, o, none⟩) n n) := .row r s o n b N n hnm (by omega) (fun h => by rw [h0 h, hN]) (Nat.le_refl _) (by unfold maxLen; omega)
              obtain ⟨A, m', c', p, q, e1, hb, hv⟩ := s_sliceL (P := P) hrow l1 l2 h1 h2 hv'
              cases e1
              refine ⟨.value _, _, κ, ?_, .inl rfl, hv, Done.same c κ new, hS, fun _ => rfl⟩
              have hb := hb false
              simp only [execOp, Instr.sliceAt, Sem.run_bind, run_underlying hu, Result.andThen_ok, hux, Instr.sureAddr, Sem.run_pure, Option.map_none, hb, run_sizeOf hsz]
              congr 4
              split <;> rfl
            · cases hr
          · cases hr
        · cases hr
      · cases hc
    · cases hc
  · rename_i s d x
    split at hc
    · rename_i e hs hd
      split at hc
      · rename_i he
        simp only [Option.map_eq_some_iff] at hc
        obtain ⟨ax, hx, rfl⟩ := hc
        simp only [MOp.run, Option.map_eq_some_iff, Prod.mk.injEq] at hr
        obtain ⟨v', hv', rfl, rfl⟩ := hr
        obtain ⟨u, h1, h2⟩ := s_toStr (P := P) hS hs he hd (cX_rel hx hE) hv'
        exact ⟨_, u, κ, by simp [execOp, h1], .inl rfl, h2, Done.same c κ new, hS, fun _ => rfl⟩
      · cases hc
    · cases hc
  · rename_i t x y
    split at hc
    · rename_i e hu
      split at hc
      · rename_i i hi
        split at hc
        · rename_i z hz
          split at hc
          · rename_i p ax ay hp hx hy
            split at hc
            · rename_i hsz
              cases hc
              simp only [MOp.run] at hr
              have hx' := cX_rel (κ := κ) (E := E) (a := a) hx (fun i hi => hE i (by simp [MOp.slots, hi]))
              have hy' := cX_rel (κ := κ) (E := E) (a := a) hy (fun i hi => hE i (by simp [MOp.slots, hi]))
              obtain ⟨u, κ', h1, h2, h3, h4⟩ := s_mk (P := P) hS hw (hn rfl) hu hi hz hp hsz hx' hy' hr
              exact ⟨_, u, κ', by simp [execOp, h1], .inl rfl, h2, h3, h4, fun h => by cases h⟩
            · cases hc
          · cases hc
        · cases hc
      · cases hc
    · cases hc
  · cases hc
theorem mOp_sound {o : Oper} {m : MOp} {mu : Bool} {v : AV} {new : Nat} {δ : List (Nat × Blk)} (hc : cM P mu o.op = some m) (hS : SRel c κ σ) (hw : c.w0.heap.size ≤ κ.w.heap.size) (hn : m.makes = true → κ.nm new = none)
    (hE : ∀ i, i ∈ m.slots → ARel κ (E i) (a.tmps.getD i Go.undef)) (hr : m.run c.G new E σ = some (v, δ)) :
    ∃ x u κ', (execOp a.eval o).run P κ.w = .ok x κ'.w ∧ (x = .value u ∨ (x = .skip ∧ u = Go.undef)) ∧ ARel κ' v u ∧ Done c κ κ' new ∧ SRel c κ' (σ.upd δ) ∧ (m.makes = false → κ'.nm = κ.nm) := by
  unfold cM at hc
  split at hc
  · rename_i m' hm
    cases hc
    exact mOp_sound0 hm hS hw hn hE hr
  · simp only [Option.map_eq_some_iff] at hc
    obtain ⟨x, hx, rfl⟩ := hc
    exact xOp_sound hx hS hw hn hE hr
end
end Go.Ab
set_option linter.unusedVariables false
set_option linter.unusedSimpArgs false
namespace Go.Ab
open Go Go.RowKit
def chunk (sz : Nat) : Nat → List PV → List PV
  | 0, _ => []
  | n + 1, l => (if sz = 1 then l.headD .undef else .agg (l.take sz)) :: chunk sz n (l.drop sz)
def frzB (sz len r : Nat) : Blk → Option (PV × List Nat)
  | .cells _ _ l => if 0 < sz ∧ len * sz ≤ l.length ∧ (l.take (len * sz)).all AV.one = true then (pvs (l.take (len * sz))).map fun ps => (.list (chunk sz len ps), [r]) else none
  | _ => none
def frzC (σ : Store) : AV → Option (PV × List Nat)
  | .pv p => some (p, [])
  | .olist _ _ l => some (.list l, [])
  | .row r sz 0 len => frzB sz len r (σ r)
  | _ => none
def frz2 : Option (PV × List Nat) → Option (List PV × List Nat) → Option (List PV × List Nat)
  | some p, some q => some (p.1 :: q.1, p.2 ++ q.2)
  | _, _ => none
def frzL (σ : Store) : List AV → Option (List PV × List Nat)
  | [] => some ([], [])
  | x :: r => frz2 (frzC σ x) (frzL σ r)
def frzV (σ : Store) : AV → Option (PV × List Nat)
  | .agg cs => (frzL σ cs).map fun p => (.agg p.1, p.2)
  | x => frzC σ x
def frzD (p : PV × List Nat) : AV × List (Nat × Blk) := (.pv p.1, p.2.map fun r => (r, .none))
def fRun (G : Nat → List PV) (σ : Store) : Option (Bool × Nat) → AV → Option (AV × List (Nat × Blk))
  | none, v => (frzV σ v).map frzD
  | some (g, sz), v => match rLoad G g sz σ v with
    | some v => (frzV σ v).map frzD
    | none => none
section
variable {P : Program} {c : Ctx} {κ : Kap} {σ : Store}
theorem upd_none : ∀ (rs : List Nat) (σ : Store) (r : Nat), Store.upd σ (rs.map fun r => (r, Blk.none)) r = if r ∈ rs then .none else σ r
  | [], σ, r => by simp [Store.upd]
  | x :: q, σ, r => by
    rw [List.map_cons, Store.upd, upd_none q]
    by_cases h : r ∈ q
    · simp [h]
    · by_cases hx : r = x
      · subst hx; simp [Store.set]
      · simp [h, hx, Store.set]
def frzK (κ : Kap) (σ : Store) (rs : List Nat) : Kap :=
  ⟨κ.w, κ.nm, fun b o => κ.imm b o ∨ ∃ r ∈ rs, ∃ n, κ.nm r = some (.blk b n) ∧ ∃ T f l, σ r = .cells T f l ∧ o < l.length⟩
theorem frz_step (hS : SRel c κ σ) (rs : List Nat) (hrs : ∀ r ∈ rs, σ r ≠ .none) (new : Nat) : Done c κ (frzK κ σ rs) new ∧ SRel c (frzK κ σ rs) (σ.upd (rs.map fun r => (r, .none))) := by
  have he : Ext κ (frzK κ σ rs) := ⟨fun _ _ h => .inl h, fun _ _ _ _ h => h, fun _ _ h => h⟩
  refine ⟨⟨he, fun imm0 hL => ⟨hL.os, hL.tape, hL.output, hL.size, hL.block, fun b o hi => ?_⟩, Nat.le_refl _, fun _ _ h => h⟩, ?_⟩
  · rcases hi with hi | ⟨r, hr, n, hn, _⟩
    · exact hL.imm b o hi
    · exact .inr (hS.mine r _ b (hrs r hr) hn rfl)
  · have hz : ∀ r, (σ.upd (rs.map fun r => (r, Blk.none))) r ≠ .none → r ∉ rs ∧ σ r ≠ .none := by
      intro r h
      rw [upd_none] at h
      by_cases hm : r ∈ rs
      · simp [hm] at h
      · simp [hm] at h; exact ⟨hm, h⟩
    refine ⟨fun r => ?_, fun r r' d d' b h1 h2 => hS.apart r r' d d' b (hz r h1).2 (hz r' h2).2, fun r d b h1 => hS.mine r d b (hz r h1).2, fun b o hi => ?_, SRel.glob_ext he hS.glob fun _ _ _ => rfl⟩
    · rw [upd_none]
      by_cases hm : r ∈ rs
      · simp [hm, BRel]
      · simp only [hm, if_false]
        refine (hS.blk r).keep he fun hnz d b hd hb => ⟨rfl, fun o ho => ?_⟩
        rcases ho with ho | ⟨r', hr', n, hn, _⟩
        · exact ho
        · exact absurd rfl (hS.apart r r' d _ b hnz (hrs r' hr') (fun e => hm (e ▸ hr')) hd hn hb)
    · rcases hi with hi | ⟨r, hr, n, hn, _⟩
      · exact hS.immLt b o hi
      · exact (hS.blk r).lt (hrs r hr) hn rfl
theorem one_cells {x : AV} {p : PV} (h : x.toPV = some p) (h1 : x.one = true) : p.cells = [p] := by
  cases x with
  | pv q =>
    simp only [AV.toPV, Option.some.injEq] at h
    subst h
    cases q <;> first | rfl | simp [AV.one, PV.one] at h1
  | olist a b l =>
    simp only [AV.toPV, Option.some.injEq] at h
    subst h; rfl
  | _ => simp [AV.toPV] at h
theorem chunk_len (sz : Nat) : ∀ (n : Nat) (l : List PV), (chunk sz n l).length = n
  | 0, l => rfl
  | n + 1, l => by simp [chunk, chunk_len sz n]
theorem chunk_get {sz : Nat} (hsz : 0 < sz) : ∀ (n : Nat) (l : List PV) (i : Nat) (x : PV), n * sz ≤ l.length → (∀ p ∈ l, p.cells = [p]) → (chunk sz n l)[i]? = some x → i < n ∧ x.cells = (l.drop (i * sz)).take sz
  | 0, l, i, x, _, _, h => by simp [chunk] at h
  | n + 1, l, i, x, hl, h1, h => by
    rw [Nat.succ_mul] at hl
    cases i with
    | zero =>
      simp only [chunk, List.getElem?_cons_zero, Option.some.injEq] at h
      refine ⟨by omega, ?_⟩
      subst h
      by_cases hs : sz = 1
      · subst hs
        cases l with
        | nil => simp at hl
        | cons y q =>
          simp only [if_true, List.headD_cons, Nat.zero_mul, List.drop_zero, List.take_succ_cons, List.take_zero]
          exact h1 y (by simp)
      · rw [if_neg hs]; simp [PV.cells]
    | succ i =>
      simp only [chunk, List.getElem?_cons_succ] at h
      obtain ⟨h2, h3⟩ := chunk_get hsz n (l.drop sz) i x (by simp; omega) (fun p hp => h1 p (List.mem_of_mem_drop hp)) h
      refine ⟨by omega, ?_⟩
      rw [h3, List.drop_drop, Nat.succ_mul, Nat.add_comm]
theorem frzC_rel (hS : SRel c κ σ) {x : AV} {u : Value} {p : PV} {rs : List Nat} (hx : ARel κ x u) (h : frzC σ x = some (p, rs)) :
    (∀ r ∈ rs, σ r ≠ .none) ∧ ∀ rs', (∀ r ∈ rs, r ∈ rs') → PRel κ.w (frzK κ σ rs').imm p u := by
  unfold frzC at h
  split at h
  · cases h
    exact ⟨by simp, fun rs' _ => (pv_inv hx).mono (fun _ _ h => .inl h) (fun _ _ _ _ h => h)⟩
  · cases h
    refine ⟨by simp, fun rs' _ => ?_⟩
    cases hx with
    | olist _ _ _ _ hn hp _ => exact hp.mono (fun _ _ h => .inl h) (fun _ _ _ _ h => h)
  · rename_i r sz len
    unfold frzB at h
    split at h
    · rename_i T f l hσ
      split at h
      · rename_i hh
        obtain ⟨hsz, hle, hone⟩ := hh
        simp only [Option.map_eq_some_iff, Prod.mk.injEq] at h
        obtain ⟨ps, hps, rfl, rfl⟩ := h
        refine ⟨by simp [hσ], fun rs' hrs => ?_⟩
        cases hx with
        | row0 => exact .lnil _ _ (Nat.zero_le _)
        | row _ _ _ _ b n cap hnm k1 k0 k2 k3 =>
          obtain ⟨cs, hg, hcs, hln, _, himm, hrel, hcell⟩ := cells_of hS hσ hnm
          have hpl : ps.length = len * sz := by rw [pvs_len hps]; simp; omega
          have hget : ∀ (i : Nat) (q : PV), ps[i]? = some q → ∃ y, l[i]? = some y ∧ y.toPV = some q ∧ y.one = true := by
            intro i q hq
            obtain ⟨y, hy, hyq⟩ := pvs_get hps i q hq
            have h1 := (List.all_eq_true.1 hone) y (List.mem_of_getElem? hy)
            rw [List.getElem?_take] at hy
            split at hy
            · exact ⟨y, hy, hyq, h1⟩
            · cases hy
          have hpone : ∀ q ∈ ps, q.cells = [q] := by
            intro q hq
            obtain ⟨i, hi⟩ := List.getElem?_of_mem hq
            obtain ⟨y, _, h2, h3⟩ := hget i q hi
            exact one_cells h2 h3
          have hc : ∀ (i : Nat) (y : PV), (chunk sz len ps)[i]? = some y → y.cells.length = sz := by
            intro i y hy
            obtain ⟨hi, hyc⟩ := chunk_get hsz len ps i y (by omega) hpone hy
            have : (i + 1) * sz ≤ len * sz := Nat.mul_le_mul_right _ hi
            rw [Nat.succ_mul] at this
            rw [hyc]; simp; omega
          have hcc : ∀ (i : Nat) (y : PV) (j : Nat) (z : PV), (chunk sz len ps)[i]? = some y → y.cells[j]? = some z → ps[i * sz + j]? = some z ∧ i * sz + j < len * sz := by
            intro i y j z hy hz
            obtain ⟨hi, hyc⟩ := chunk_get hsz len ps i y (by omega) hpone hy
            rw [hyc, List.getElem?_take] at hz
            split at hz
            · rename_i hj
              rw [List.getElem?_drop] at hz
              exact ⟨hz, idx_lt hi hj⟩
            · cases hz
          have key := PRel.list (w := κ.w) (imm := (frzK κ σ rs').imm) (chunk sz len ps) b 0 cap sz (fun i j => cs.getD (i * sz + j) Go.undef) (by rw [chunk_len]; exact k2) k3 hc (fun i y j z hy hz => by
              obtain ⟨h1, h2⟩ := hcc i y j z hy hz
              obtain ⟨q, h3, h4, h5⟩ := hget _ z h1
              rw [Nat.zero_add]
              refine ⟨.inr ⟨r, hrs r (by simp), n, hnm, T, f, l, hσ, by omega⟩, ?_, (hrel _ q h3).oneCell h5⟩
              have hlt : i * sz + j < cs.size := by omega
              rw [cell_of_row κ.w b _ cs T (0, 0) hg]
              simp [Array.getD_eq_getD_getElem?, hlt]) (fun i y j z hy hz => by
              obtain ⟨h1, h2⟩ := hcc i y j z hy hz
              obtain ⟨q, h3, h4, h5⟩ := hget _ z h1
              exact (toPV_rel h4 (hrel _ q h3)).mono (fun _ _ h => .inl h) (fun _ _ _ _ h => h))
          rw [chunk_len] at key
          exact key
      · cases h
    · cases h
  · cases h
theorem frzL_rel (hS : SRel c κ σ) : ∀ (xs : List AV) (vs : List Value) (ps : List PV) (rs : List Nat), (∀ (i : Nat) (x : AV), xs[i]? = some x → ARel κ x (vs.getD i Go.undef)) → frzL σ xs = some (ps, rs) →
    ps.length = xs.length ∧ (∀ r ∈ rs, σ r ≠ .none) ∧ ∀ rs', (∀ r ∈ rs, r ∈ rs') → ∀ (i : Nat) (p : PV), ps[i]? = some p → PRel κ.w (frzK κ σ rs').imm p (vs.getD i Go.undef)
  | [], vs, ps, rs, hx, h => by
    simp only [frzL, Option.some.injEq, Prod.mk.injEq] at h
    obtain ⟨rfl, rfl⟩ := h
    exact ⟨rfl, by simp, fun _ _ i p hp => by simp at hp⟩
  | x :: q, vs, ps, rs, hx, h => by
    simp only [frzL] at h
    unfold frz2 at h
    split at h
    · rename_i p1 q1 h1 h2
      cases h
      obtain ⟨a1, a2⟩ := frzC_rel hS (hx 0 x (by simp)) h1
      obtain ⟨b0, b1, b2⟩ := frzL_rel hS q (vs.drop 1) q1.1 q1.2 (fun i y hy => by
        have := hx (i + 1) y (by simpa using hy)
        simpa [List.getD_eq_getElem?_getD, Nat.add_comm] using this) h2
      refine ⟨by simp [b0], fun r hr => (List.mem_append.1 hr).elim (a1 r) (b1 r), fun rs' hrs i p hp => ?_⟩
      cases i with
      | zero =>
        simp only [List.getElem?_cons_zero, Option.some.injEq] at hp
        subst hp
        exact a2 rs' fun r hr => hrs r (List.mem_append.2 (.inl hr))
      | succ i =>
        have := b2 rs' (fun r hr => hrs r (List.mem_append.2 (.inr hr))) i p (by simpa using hp)
        simpa [List.getD_eq_getElem?_getD, Nat.add_comm] using this
    · cases h
theorem frzV_rel (hS : SRel c κ σ) {x : AV} {u : Value} {p : PV} {rs : List Nat} (hx : ARel κ x u) (h : frzV σ x = some (p, rs)) :
    (∀ r ∈ rs, σ r ≠ .none) ∧ PRel κ.w (frzK κ σ rs).imm p u := by
  unfold frzV at h
  split at h
  · rename_i cs
    simp only [Option.map_eq_some_iff, Prod.mk.injEq] at h
    obtain ⟨q, hq, rfl, rfl⟩ := h
    cases hx with
    | agg _ vs hl hc =>
      obtain ⟨h0, h1, h2⟩ := frzL_rel hS cs vs.toList q.1 q.2 (fun i x hx => by rw [← getD_toList]; exact hc i x hx) hq
      refine ⟨h1, .agg _ _ (by rw [hl, h0]) fun i p hp => ?_⟩
      rw [getD_toList]
      exact h2 q.2 (fun _ h => h) i p hp
  · obtain ⟨h1, h2⟩ := frzC_rel hS hx h
    exact ⟨h1, h2 rs fun _ h => h⟩
theorem s_frz (hS : SRel c κ σ) {x v : AV} {u : Value} {δ : List (Nat × Blk)} (new : Nat) (hx : ARel κ x u) (h : (frzV σ x).map frzD = some (v, δ)) :
    ∃ κ', κ'.w = κ.w ∧ ARel κ' v u ∧ Done c κ κ' new ∧ SRel c κ' (σ.upd δ) := by
  simp only [Option.map_eq_some_iff] at h
  obtain ⟨q, hq, h⟩ := h
  unfold frzD at h
  simp only [Prod.mk.injEq] at h
  obtain ⟨rfl, rfl⟩ := h
  obtain ⟨h1, h2⟩ := frzV_rel hS hx hq
  obtain ⟨h3, h4⟩ := frz_step hS q.2 h1 new
  exact ⟨frzK κ σ q.2, rfl, .pv _ _ h2, h3, h4⟩
def FzOp (P : Program) (g : Option (Bool × Nat)) (ax : AX) (op : Op) : Prop :=
  match g with
  | none => ∃ x, op = .move x ∧ cX x = some ax
  | some (g, n) => ∃ t x, op = .load t x ∧ szOf P t = some n ∧ aggOf P t = some g ∧ cX x = some ax
theorem fOp_sound {E : Nat → AV} {a : Act} {o : Oper} {g : Option (Bool × Nat)} {ax : AX} {v : AV} {new : Nat} {δ : List (Nat × Blk)} (hc : FzOp P g ax o.op) (hS : SRel c κ σ)
    (hE : ∀ i, i ∈ ax.slots → ARel κ (E i) (a.tmps.getD i Go.undef)) (hr : fRun c.G σ g (ax.ev E) = some (v, δ)) :
    ∃ u κ', (execOp a.eval o).run P κ.w = .ok (.value u) κ'.w ∧ ARel κ' v u ∧ Done c κ κ' new ∧ SRel c κ' (σ.upd δ) := by
  obtain ⟨dst, op, type, pos, after, guard⟩ := o
  cases g with
  | none =>
    obtain ⟨x, rfl, hx⟩ := hc
    obtain ⟨κ', h1, h2, h3, h4⟩ := s_frz hS new (cX_rel (κ := κ) (E := E) (a := a) hx hE) hr
    exact ⟨_, κ', by simp [execOp, h1], h2, h3, h4⟩
  | some p =>
    obtain ⟨g, n⟩ := p
    obtain ⟨t, x, rfl, hn, hg, hx⟩ := hc
    simp only [fRun] at hr
    split at hr
    · rename_i v' hv'
      obtain ⟨u, h1, h2⟩ := s_load (P := P) hS hg hn (cX_rel (κ := κ) (E := E) (a := a) hx hE) hv'
      obtain ⟨κ', k1, k2, k3, k4⟩ := s_frz hS new h2 hr
      exact ⟨u, κ', by simp [execOp, h1, k1], k2, k3, k4⟩
    · cases hr
end
end Go.Ab
set_option linter.unusedVariables false
set_option linter.unusedSimpArgs false
namespace Go.Ab
open Go Go.RowKit
inductive AOp where
  | t (o : TOp)
  | m (o : MOp)
  | call (f : AX) (args : List AX)
  | fz (g : Option (Bool × Nat)) (x : AX)
structure AOper where
  dst : Option Nat
  op : AOp
  guard : Option (Nat × Bool)
structure St where
  env : List (Nat × AV)
  sto : List (Nat × Blk)
  next : Nat
def look (i : Nat) : List (Nat × AV) → AV
  | [] => .any
  | p :: r => if p.1 = i then p.2 else look i r
def lookB (i : Nat) : List (Nat × Blk) → Blk
  | [] => .none
  | p :: r => if p.1 = i then p.2 else lookB i r
def St.E (s : St) (i : Nat) : AV := look i s.env
def St.σ (s : St) (r : Nat) : Blk := lookB r s.sto
def St.put (s : St) (d : Option Nat) (v : AV) : St :=
  match d with
  | some d => ⟨(d, v) :: s.env, s.sto, s.next⟩
  | none => s
def updB (l : List (Nat × Blk)) : List (Nat × Blk) → List (Nat × Blk)
  | [] => l
  | p :: r => updB (p :: l) r
def St.mem (s : St) (δ : List (Nat × Blk)) : St := ⟨s.env, updB s.sto δ, s.next + 1⟩
theorem lookB_upd : ∀ (δ l : List (Nat × Blk)) (r : Nat), lookB r (updB l δ) = Store.upd (fun r => lookB r l) δ r
  | [], l, r => rfl
  | p :: q, l, r => by
    rw [updB, Store.upd, lookB_upd q (p :: l) r]
    congr 1
    funext x
    simp only [lookB, Store.set]
    by_cases h : p.1 = x
    · simp [h]
    · rw [if_neg h, if_neg (fun e => h e.symm)]
structure Rel (c : Ctx) (κ0 : Kap) (N : Nat) (s : St) (a : Act) (w : World) (κ : Kap) : Prop where
  w_eq : κ.w = w
  ext0 : Ext κ0 κ
  rel : SRel c κ s.σ
  left : Left c κ0.imm κ
  env : ∀ i, ARel κ (s.E i) (a.tmps.getD i Go.undef)
  size : a.tmps.size = N
  defers : a.defers = []
  fresh : ∀ r, s.next ≤ r → κ.nm r = none
def Wx (s s' : St) : Prop := ∀ (c : Ctx) (κ0 κ : Kap) (N : Nat) (a : Act) (w : World), Rel c κ0 N s a w κ → ∃ κ', Ext κ κ' ∧ Rel c κ0 N s' a w κ'
def Wk (m0 : Nat) (s s' : St) : Prop := ∀ (c : Ctx) (κ0 κ : Kap) (N : Nat) (a : Act) (w : World), (∀ r, m0 ≤ r → κ0.nm r = none) → Rel c κ0 N s a w κ → ∃ κ', Rel c κ0 N s' a w κ'
def WkC (s : St) (args : List AV) (s' : St) (args' : List AV) : Prop := args'.length = args.length ∧ s'.env = s.env ∧ ∀ (c : Ctx) (κ0 κ : Kap) (N : Nat) (a : Act) (w : World) (vals : Array Value), Rel c κ0 N s a w κ →
  (∀ (i : Nat) (x : AV), args[i]? = some x → ARel κ x (vals.getD i Go.undef)) → ∃ κ', Rel c κ0 N s' a w κ' ∧ ∀ (i : Nat) (x : AV), args'[i]? = some x → ARel κ' x (vals.getD i Go.undef)
theorem Wx.refl (s : St) : Wx s s := fun c κ0 κ N a w h => ⟨κ, Ext.refl κ, h⟩
theorem Wx.trans {s t u : St} (h : Wx s t) (k : Wx t u) : Wx s u := fun c κ0 κ N a w hr => by
  obtain ⟨κ1, e1, h1⟩ := h c κ0 κ N a w hr
  obtain ⟨κ2, e2, h2⟩ := k c κ0 κ1 N a w h1
  exact ⟨κ2, e1.trans e2, h2⟩
theorem Wk.of {s t : St} (h : Wx s t) (m0 : Nat) : Wk m0 s t := fun c κ0 κ N a w _ hr => by
  obtain ⟨κ1, _, h1⟩ := h c κ0 κ N a w hr
  exact ⟨κ1, h1⟩
theorem Wk.trans {m0 : Nat} {s t u : St} (h : Wk m0 s t) (k : Wk m0 t u) : Wk m0 s u := fun c κ0 κ N a w h0 hr => by
  obtain ⟨κ1, h1⟩ := h c κ0 κ N a w h0 hr
  exact k c κ0 κ1 N a w h0 h1
theorem WkC.refl (s : St) (args : List AV) : WkC s args s args := ⟨rfl, rfl, fun c κ0 κ N a w vals h g => ⟨κ, h, g⟩⟩
theorem WkC.of {s t : St} (h : Wx s t) (he : t.env = s.env) (args : List AV) : WkC s args t args := ⟨rfl, he, fun c κ0 κ N a w vals hr g => by
  obtain ⟨κ1, e1, h1⟩ := h c κ0 κ N a w hr
  exact ⟨κ1, h1, fun i x hx => (g i x hx).ext e1⟩⟩
def Callable (P : Program) (f : Nat) : Bool :=
  match P.funcs[f]? with
  | some fn => fn.body.isSome && !(fn.name == "runtime.NumGoroutine")
  | none => false
def GlobOk (G : Nat → List PV) (w : World) (imm : Nat → Nat → Prop) : Prop :=
  (∀ g o p, (G g)[o]? = some p → imm g o ∧ ∃ v, w.cell? ⟨g, o, none⟩ = some v ∧ v.oneCell' = true ∧ PRel w imm p v) ∧
  ∀ g, G g ≠ [] → ∃ cs T fz, w.heap[g]? = some (.cells cs T fz) ∧ cs.size = (G g).length
theorem GlobC.ok {c : Ctx} {κ : Kap} (h : GlobC c κ) : GlobOk c.G κ.w κ.imm := ⟨h.1, fun g hg => (h.2 g hg).2.2⟩
def Pure (P : Program) (G : Nat → List PV) (f : Nat) (args : List PV) (r : PV) : Prop :=
  Callable P f = true ∧ ∀ (w : World) (imm : Nat → Nat → Prop) (vals : Array Value), GlobOk G w imm → (∀ b o, imm b o → b < w.heap.size) → vals.size = args.length →
    (∀ (i : Nat) (x : PV), args[i]? = some x → PRel w imm x (vals.getD i Go.undef)) →
    Calls P f vals w fun e w' => ∃ u imm', e = .returned u ∧ Below w.heap.size w w' ∧ (∀ b o, imm b o → imm' b o) ∧ (∀ b o, imm' b o → imm b o ∨ w.heap.size ≤ b) ∧ (∀ b o, imm' b o → b < w'.heap.size) ∧ PRel w' imm' r u
def ctxOf (κ : Kap) (σ : Store) (G : Nat → List PV) : Ctx := ⟨κ.w, fun b => ∃ r d, σ r ≠ .none ∧ κ.nm r = some d ∧ d.block = some b, G⟩
theorem GlobC.lend {c : Ctx} {κ : Kap} {σ : Store} (h : GlobC c κ) (hm : ∀ b, (ctxOf κ σ c.G).lent b → c.mine b) : GlobC (ctxOf κ σ c.G) κ :=
  ⟨h.1, fun g hg => by
    obtain ⟨h1, h2, cs, T, fz, h3, h4⟩ := h.2 g hg
    exact ⟨(Array.getElem?_eq_some_iff.1 h3).1, fun hl => not_mine h1 h2 (hm g hl), cs, T, fz, h3, h4⟩⟩
theorem GlobC.back {c : Ctx} {κ κ' : Kap} {σ : Store} (h : GlobC c κ) (hm : ∀ b, (ctxOf κ σ c.G).lent b → c.mine b) (h' : GlobC (ctxOf κ σ c.G) κ')
    (hb : ∀ b, b < κ.w.heap.size → ¬ (ctxOf κ σ c.G).lent b → κ'.w.heap[b]? = κ.w.heap[b]?) : GlobC c κ' :=
  ⟨h'.1, fun g hg => by
    obtain ⟨h1, h2, cs, T, fz, h3, h4⟩ := h.2 g hg
    exact ⟨h1, h2, cs, T, fz, (hb g (Array.getElem?_eq_some_iff.1 h3).1 fun hl => not_mine h1 h2 (hm g hl)).trans h3, h4⟩⟩
def TCalls (P : Program) (G : Nat → List PV) (f : Nat) (args : List AV) (sto : List (Nat × Blk)) (next : Nat) (Q : AV → List (Nat × Blk) → Nat → Prop) : Prop :=
  Callable P f = true ∧ ∀ (κ : Kap) (vals : Array Value), SRel (ctxOf κ (fun r => lookB r sto) G) κ (fun r => lookB r sto) → (∀ r, next ≤ r → κ.nm r = none) → vals.size = args.length →
    (∀ (i : Nat) (x : AV), args[i]? = some x → ARel κ x (vals.getD i Go.undef)) →
    Calls P f vals κ.w fun e w' => ∃ u v κ' sto' next', e = .returned u ∧ κ'.w = w' ∧ Ext κ κ' ∧ Left (ctxOf κ (fun r => lookB r sto) G) κ.imm κ' ∧ ARel κ' v u ∧
      SRel (ctxOf κ (fun r => lookB r sto) G) κ' (fun r => lookB r sto') ∧ (∀ r, next' ≤ r → κ'.nm r = none) ∧ Q v sto' next'
def ACall (P : Program) (G : Nat → List PV) (f : Nat) (args : List AV) (s : St) (K : AV → St → Prop) : Prop :=
  ∃ s' args', WkC s args s' args' ∧ ((∃ ps r, pvs args' = some ps ∧ Pure P G f ps r ∧ K (.pv r) s') ∨
  (∃ Q, TCalls P G f args' s'.sto s'.next Q ∧ ∀ v sto' next', Q v sto' next' → K v ⟨s.env, sto', next'⟩))
def cloOf : AV → Option (Nat × List AV × List AV)
  | .pv (.clo f fs cs) => some (f, fs.map .pv, cs.map .pv)
  | .clo f fs cs => some (f, fs, cs)
  | _ => none
def onSome {α : Type} (x : Option α) (k : α → Prop) : Prop :=
  match x with
  | some a => k a
  | none => False
def wantedA (s : St) : Option (Nat × Bool) → Option Bool
  | none => some true
  | some (i, b) => match s.E i with
    | .pv (.bool x) => some (x == b)
    | .pv .undef => some false
    | _ => none
def nextT (F : St → Prop) (s : St) (d : Option Nat) (v : AV) : Prop := F (s.put d v)
def nextM (F : St → Prop) (s : St) (d : Option Nat) (p : AV × List (Nat × Blk)) : Prop := F ((s.mem p.2).put d p.1)
def nextC (F : St → Prop) (d : Option Nat) (v : AV) (s : St) : Prop := F (s.put d v)
def callC (P : Program) (G : Nat → List PV) (args : List AV) (s : St) (K : AV → St → Prop) (p : Nat × List AV × List AV) : Prop := ACall P G p.1 (p.2.1 ++ args ++ p.2.2) s K
def nilB (E : Nat → AV) : TOp → Bool
  | .beq 2 _ x (.c .nils) => match x.ev E with
    | .pv (.list []) => true
    | _ => false
  | _ => false
def onSomeN (x : Option AV) (k : AV → Prop) (nb : Bool) : Prop :=
  match x with
  | some v => k v
  | none => nb = true ∧ ∀ b : Bool, k (.pv (.bool b))
def doOp (P : Program) (G : Nat → List PV) (F : St → Prop) (s : St) (d : Option Nat) : AOp → Prop
  | .t o => onSomeN (o.run s.E) (nextT F s d) (nilB s.E o)
  | .m o => onSome (o.run G s.next s.E s.σ) (nextM F s d)
  | .call f xs => onSome (cloOf (f.ev s.E)) (callC P G (xs.map (·.ev s.E)) s (nextC F d))
  | .fz g x => onSome (fRun G s.σ g (x.ev s.E)) (nextM F s d)
def doIf (P : Program) (G : Nat → List PV) (F : St → Prop) (s : St) (d : Option Nat) (o : AOp) (b : Bool) : Prop :=
  match b with
  | true => doOp P G F s d o
  | false => F (s.put d (.pv .undef))
def vcOps (P : Program) (G : Nat → List PV) : List AOper → (St → Prop) → St → Prop
  | [], F, s => F s
  | o :: r, F, s => onSome (wantedA s o.guard) (doIf P G (vcOps P G r F) s o.dst o.op)
def cGuard (ops : Array Oper) : Option (Nat × Bool) → Option (Option (Nat × Bool))
  | none => some none
  | some (j, b) => match (ops[j]?).bind (·.dst) with
    | some d => some (some (d, b))
    | none => none
def cF (P : Program) : Op → Option AOp
  | .move x => (cX x).map (.fz none)
  | .load t x => match szOf P t, aggOf P t, cX x with
    | some n, some g, some ax => some (.fz (some (g, n)) ax)
    | _, _, _ => none
  | _ => none
def badOp : AOp := .call (.c .undef) []
def isSl : Op → Bool
  | .slice _ _ _ _ _ => true
  | _ => false
def cT1 (P : Program) (mu : Bool) (op : Op) : Option TOp :=
  match mu && isSl op with
  | true => none
  | false => cT P op
theorem cT1_some {P : Program} {mu : Bool} {op : Op} {t : TOp} (h : cT1 P mu op = some t) : cT P op = some t := by
  unfold cT1 at h
  split at h
  · cases h
  · exact h
def cA0 (P : Program) (mu : Bool) (op : Op) : Option AOp :=
  match cT1 P mu op with
  | some t => some (.t t)
  | none => match cM P mu op with
    | some m => some (.m m)
    | none => match op with
      | .call { callee := .value f, args, argTypes := _ } => match cX f, cXs args.toList with
        | some af, some xs => some (.call af xs)
        | _, _ => some badOp
      | _ => some badOp
def cA (P : Program) (mu : Bool × Bool) (op : Op) : Option AOp :=
  match mu.2 with
  | true => cF P op
  | false => cA0 P mu.1 op
theorem cF_op {P : Program} {o : Op} {op : AOp} (h : cF P o = some op) : ∃ g x, op = .fz g x ∧ FzOp P g x o := by
  unfold cF at h
  split at h
  · simp only [Option.map_eq_some_iff] at h
    obtain ⟨ax, hx, rfl⟩ := h
    exact ⟨none, ax, rfl, _, rfl, hx⟩
  · split at h
    · rename_i n g ax h1 h2 h3
      cases h
      exact ⟨some (g, n), ax, rfl, _, _, rfl, h1, h2, h3⟩
    · cases h
  · cases h
def muOf (muts : List Nat) : Option Nat → Bool × Bool
  | some d => (muts.contains d, muts.contains (d + 1000000))
  | none => (false, false)
def dstOk (d : Option Nat) (N : Nat) : Bool :=
  match d with
  | some d => decide (d < N)
  | none => true
def cOper (P : Program) (muts : List Nat) (N : Nat) (ops : Array Oper) (o : Oper) : Option AOper :=
  match cGuard ops o.guard, cA P (muOf muts o.dst) o.op with
  | some g, some op => if dstOk o.dst N = true then some ⟨o.dst, op, g⟩ else none
  | _, _ => none
def cOps (P : Program) (muts : List Nat) (N : Nat) (ops : Array Oper) : List Oper → Option (List AOper)
  | [] => some []
  | o :: r => match cOper P muts N ops o, cOps P muts N ops r with
    | some a, some b => some (a :: b)
    | _, _ => none
theorem put_env {κ : Kap} {s : St} {a : Act} {d : Option Nat} {v : AV} {u : Value} {N : Nat} (h : ∀ i, ARel κ (s.E i) (a.tmps.getD i Go.undef)) (hN : a.tmps.size = N)
    (hd : dstOk d N = true) (hv : ARel κ v u) : (∀ i, ARel κ ((s.put d v).E i) ((a.put d u).tmps.getD i Go.undef)) ∧ (a.put d u).tmps.size = N ∧ (a.put d u).defers = a.defers := by
  cases d with
  | none => exact ⟨h, hN, rfl⟩
  | some d =>
    simp only [dstOk, decide_eq_true_eq] at hd
    refine ⟨fun i => ?_, by simp [Act.put, hN], rfl⟩
    simp only [St.put, St.E, look, Act.put]
    by_cases hi : d = i
    · subst hi
      rw [if_pos rfl]
      have : (a.tmps.setIfInBounds d u).getD d Go.undef = u := by simp [Array.getD_eq_getD_getElem?, hN, hd]
      rw [this]; exact hv
    · rw [if_neg hi]
      have : (a.tmps.setIfInBounds d u).getD i Go.undef = a.tmps.getD i Go.undef := by
        simp only [Array.getD_eq_getD_getElem?, Array.getElem?_setIfInBounds]
        rw [if_neg hi]
      rw [this]; exact h i
theorem Rel.put {c : Ctx} {κ0 κ κ' : Kap} {N : Nat} {s : St} {a : Act} {w w' : World} (h : Rel c κ0 N s a w κ) {d : Option Nat} {v : AV} {u : Value} (hd : dstOk d N = true) (hv : ARel κ v u) :
    Rel c κ0 N (s.put d v) (a.put d u) w κ := by
  obtain ⟨h1, h2, h3⟩ := put_env h.env h.size hd hv
  have e1 : (s.put d v).σ = s.σ := by cases d <;> rfl
  have e2 : (s.put d v).next = s.next := by cases d <;> rfl
  exact ⟨h.w_eq, h.ext0, by rw [e1]; exact h.rel, h.left, h1, h2, h3.trans h.defers, by rw [e2]; exact h.fresh⟩
theorem Rel.size_le {c : Ctx} {κ0 κ : Kap} {N : Nat} {s : St} {a : Act} {w : World} (h : Rel c κ0 N s a w κ) : c.w0.heap.size ≤ κ.w.heap.size := h.left.size
theorem Rel.step {c : Ctx} {κ0 κ κ' : Kap} {N : Nat} {s : St} {a : Act} {w : World} {δ : List (Nat × Blk)} (h : Rel c κ0 N s a w κ) (hd : Done c κ κ' s.next) (hS : SRel c κ' (Store.upd s.σ δ)) : Rel c κ0 N (s.mem δ) a κ'.w κ' := by
  refine ⟨rfl, h.ext0.trans hd.ext, ?_, hd.left _ h.left, fun i => (h.env i).ext hd.ext, h.size, h.defers, fun r hr => ?_⟩
  · have : (s.mem δ).σ = Store.upd s.σ δ := by funext r; exact lookB_upd δ s.sto r
    rw [this]; exact hS
  · have hr' : s.next + 1 ≤ r := hr
    exact hd.fresh r (by omega) (h.fresh r (by omega))
end Go.Ab
set_option linter.unusedVariables false
set_option linter.unusedSimpArgs false
namespace Go.Ab
open Go Go.RowKit
section
variable {P : Program} {c : Ctx} {κ0 κ : Kap} {N : Nat} {s : St} {a : Act} {w : World}
theorem Rel.pureCall (h : Rel c κ0 N s a w κ) {w' : World} {imm' : Nat → Nat → Prop} (hb : Below w.heap.size w w') (h1 : ∀ b o, κ.imm b o → imm' b o) (h2 : ∀ b o, imm' b o → κ.imm b o ∨ w.heap.size ≤ b) (h3 : ∀ b o, imm' b o → b < w'.heap.size) :
    Rel c κ0 N s a w' ⟨w', κ.nm, imm'⟩ := by
  have hw := h.w_eq
  subst hw
  have he : Ext κ ⟨w', κ.nm, imm'⟩ := by
    refine ⟨h1, fun b o v hi hc => ?_, fun _ _ h => h⟩
    have hl := World.block_lt_of_cell? κ.w _ hc
    exact (World.cell?_of_block (a := ⟨b, o, none⟩) (hb.block b hl)).trans hc
  have hS := h.rel
  have hL := h.left
  refine ⟨rfl, h.ext0.trans he, ⟨fun r => ?_, hS.apart, hS.mine, h3, SRel.glob_ext he hS.glob fun g h1 _ => hb.block g (Nat.lt_of_lt_of_le h1 hL.size)⟩, ⟨hb.os.trans hL.os, hb.tape.trans hL.tape, hb.output.trans hL.output, Nat.le_trans hL.size hb.size, fun b hlt hl => ?_, fun b o hi => ?_⟩, fun i => (h.env i).ext he, h.size, h.defers, h.fresh⟩
  · refine (hS.blk r).keep he fun hz d b hd hbk => ?_
    have hl := (hS.blk r).lt hz hd hbk
    exact ⟨hb.block b hl, fun o ho => (h2 b o ho).elim id (fun h => by omega)⟩
  · exact (hb.block b (Nat.lt_of_lt_of_le hlt hL.size)).trans (hL.block b hlt hl)
  · rcases h2 b o hi with h | h
    · exact hL.imm b o h
    · exact .inr (.inl (Nat.le_trans hL.size h))
theorem Rel.lentCall (h : Rel c κ0 N s a w κ) {κ' : Kap} {sto' : List (Nat × Blk)} {next' : Nat} (he : Ext κ κ') (hL : Left (ctxOf κ s.σ c.G) κ.imm κ') (hS : SRel (ctxOf κ s.σ c.G) κ' (fun r => lookB r sto')) (hf : ∀ r, next' ≤ r → κ'.nm r = none) :
    Rel c κ0 N ⟨s.env, sto', next'⟩ a κ'.w κ' := by
  have hl0 := h.left
  have hlm : ∀ b, (ctxOf κ s.σ c.G).lent b → c.mine b := fun b ⟨r, d, h1, h2, h3⟩ => h.rel.mine r d b h1 h2 h3
  have hmine : ∀ b, (ctxOf κ s.σ c.G).mine b → c.mine b := by
    intro b hb
    rcases hb with hb | ⟨r, d, h1, h2, h3⟩
    · exact .inl (Nat.le_trans hl0.size hb)
    · exact h.rel.mine r d b h1 h2 h3
  refine ⟨rfl, h.ext0.trans he, ⟨hS.blk, hS.apart, fun r d b h1 h2 h3 => hmine b (hS.mine r d b h1 h2 h3), hS.immLt, h.rel.glob.back hlm hS.glob hL.block⟩, ⟨hL.os.trans hl0.os, hL.tape.trans hl0.tape, hL.output.trans hl0.output, Nat.le_trans hl0.size hL.size, fun b hlt hl => ?_, fun b o hi => ?_⟩, fun i => (h.env i).ext he, h.size, h.defers, hf⟩
  · refine (hL.block b (Nat.lt_of_lt_of_le hlt hl0.size) ?_).trans (hl0.block b hlt hl)
    rintro ⟨r, d, h1, h2, h3⟩
    rcases h.rel.mine r d b h1 h2 h3 with h4 | h4
    · omega
    · exact hl h4
  · rcases hL.imm b o hi with h1 | h1
    · exact hl0.imm b o h1
    · exact .inr (hmine b h1)
theorem acall_sound {f : Nat} {args : List AV} {vals : Array Value} {K : AV → St → Prop} (h : Rel c κ0 N s a w κ) (hA : ACall P c.G f args s K) (hsz : vals.size = args.length) (hargs : ∀ (i : Nat) (x : AV), args[i]? = some x → ARel κ x (vals.getD i Go.undef)) :
    Callable P f = true ∧ Calls P f vals w fun e w' => ∃ u v s' κ', e = .returned u ∧ Rel c κ0 N s' a w' κ' ∧ ARel κ' v u ∧ K v s' := by
  obtain ⟨s1, args1, ⟨hlen1, henv1, hW⟩, hA⟩ := hA
  obtain ⟨κ, h, hargs⟩ := hW c κ0 κ N a w vals h hargs
  rw [← hlen1] at hsz
  rw [← henv1] at hA
  clear hW hlen1 henv1
  have hw := h.w_eq
  rcases hA with ⟨ps, r, hps, ⟨hcal, hP⟩, hK⟩ | ⟨Q, ⟨hcal, hT⟩, hK⟩
  · refine ⟨hcal, ?_⟩
    subst hw
    refine (hP κ.w κ.imm vals h.rel.glob.ok h.rel.immLt (hsz.trans (pvs_len hps).symm) fun i x hx => ?_).mono ?_
    · obtain ⟨y, hy, hp⟩ := pvs_get hps i x hx
      exact toPV_rel hp (hargs i y hy)
    · rintro e w' ⟨u, imm', rfl, hb, h1, h2, h3, h4⟩
      exact ⟨u, .pv r, s1, _, rfl, h.pureCall hb h1 h2 h3, .pv _ _ h4, hK⟩
  · refine ⟨hcal, ?_⟩
    subst hw
    refine (hT κ vals ?_ h.fresh hsz hargs).mono ?_
    · have hS := h.rel
      exact ⟨hS.blk, hS.apart, fun r d b h1 h2 h3 => .inr ⟨r, d, h1, h2, h3⟩, hS.immLt, hS.glob.lend fun b ⟨r, d, h1, h2, h3⟩ => hS.mine r d b h1 h2 h3⟩
    · rintro e w' ⟨u, v, κ', sto', next', rfl, rfl, he, hL, hv, hS, hf, hQ⟩
      exact ⟨u, v, _, κ', rfl, h.lentCall he hL hS hf, hv, hK v sto' next' hQ⟩
theorem wanted_sound {ops : Array Oper} {o : Oper} {g : Option (Nat × Bool)} {b : Bool} (hg : cGuard ops o.guard = some g) (henv : ∀ i, ARel κ (s.E i) (a.tmps.getD i Go.undef)) (hw : wantedA s g = some b) : Region.wanted o (yielded ops a.tmps) = b := by
  unfold cGuard at hg
  unfold Region.wanted
  split at hg
  · rename_i hgu
    cases hg
    simp [wantedA] at hw
    simp [hgu, hw]
  · rename_i j want hgu
    split at hg
    · rename_i d hd
      cases hg
      rw [hgu]
      simp only
      have hy : yielded ops a.tmps j = match (a.tmps[d]?) with | some (.bool b) => some b | _ => none := by
        simp only [yielded, hd, Option.bind_some]
        cases a.tmps[d]? with
        | none => rfl
        | some v => cases v <;> rfl
      rw [hy]
      have he := henv d
      simp only [wantedA] at hw
      split at hw
      · rename_i x hx
        cases hw
        rw [hx] at he
        have := bool_inv he
        have hlt : d < a.tmps.size := by
          rcases Nat.lt_or_ge d a.tmps.size with h | h
          · exact h
          · rw [Array.getD_eq_getD_getElem?, Array.getElem?_eq_none h] at this
            cases this
        rw [Array.getD_eq_getD_getElem?, Array.getElem?_eq_getElem hlt] at this
        simp only [Option.getD_some] at this
        rw [Array.getElem?_eq_getElem hlt, this]
        cases x <;> cases want <;> rfl
      · rename_i hx
        cases hw
        rw [hx] at he
        have hu : a.tmps.getD d Go.undef = .tuple #[] := by
          generalize a.tmps.getD d Go.undef = u at he
          cases pv_inv he; rfl
        rcases Nat.lt_or_ge d a.tmps.size with hlt | hge
        · rw [Array.getD_eq_getD_getElem?, Array.getElem?_eq_getElem hlt] at hu
          simp only [Option.getD_some] at hu
          rw [Array.getElem?_eq_getElem hlt, hu]
          rfl
        · rw [Array.getElem?_eq_none hge]; rfl
      · cases hw
    · cases hg
theorem callable_run {f : Nat} {vals : Array Value} (h : Callable P f = true) : (callFunc f vals).run P w = .ok (.enter f vals) w := by
  unfold Callable at h
  split at h
  · rename_i fn hfn
    simp only [Bool.and_eq_true, Bool.not_eq_true', beq_eq_false_iff_ne] at h
    obtain ⟨b, hb⟩ := Option.isSome_iff_exists.1 h.1
    simp [callFunc, hfn, h.2, hb]
  · cases h
theorem clo_inv {x : AV} {u : Value} {p : Nat × List AV × List AV} (hx : ARel κ x u) (h : cloOf x = some p) : ∃ vs us : Array Value, u = .func (.func p.1) vs us ∧ vs.size = p.2.1.length ∧ us.size = p.2.2.length ∧
    (∀ (i : Nat) (x : AV), p.2.1[i]? = some x → ARel κ x (vs.getD i Go.undef)) ∧ ∀ (i : Nat) (x : AV), p.2.2[i]? = some x → ARel κ x (us.getD i Go.undef) := by
  unfold cloOf at h
  split at h
  · cases h
    cases pv_inv hx with
    | clo _ _ _ vs us h1 h2 h3 h4 =>
      refine ⟨vs, us, rfl, by simpa using h1, by simpa using h3, fun i x hx => ?_, fun i x hx => ?_⟩
      · simp only [List.getElem?_map, Option.map_eq_some_iff] at hx
        obtain ⟨q, hq, rfl⟩ := hx
        exact .pv _ _ (h2 i q hq)
      · simp only [List.getElem?_map, Option.map_eq_some_iff] at hx
        obtain ⟨q, hq, rfl⟩ := hx
        exact .pv _ _ (h4 i q hq)
  · cases h
    cases hx with
    | clo _ _ _ vs us h1 h2 h3 h4 => exact ⟨vs, us, rfl, h1, h3, h2, h4⟩
  · cases h
theorem rel_arr_append {l k : List AV} {xs zs : Array Value} (hl : xs.size = l.length) (h : ∀ (i : Nat) (x : AV), l[i]? = some x → ARel κ x (xs.getD i Go.undef)) (g : ∀ (i : Nat) (x : AV), k[i]? = some x → ARel κ x (zs.getD i Go.undef)) :
    ∀ (i : Nat) (x : AV), (l ++ k)[i]? = some x → ARel κ x ((xs ++ zs).getD i Go.undef) := by
  have := rel_append (κ := κ) (l := l) (k := k) (xs := xs.toList) (zs := zs.toList) (by simpa using hl.symm) (by simpa [getD_toList] using h) (by simpa [getD_toList] using g)
  intro i x hx
  rw [getD_toList]; simpa using this i x hx
theorem eqIn_sl {w : World} (d : Nat) {t e : TypeId} (hu : P.underlying t = some (.slice e)) (A : Option Addr) (n c : Nat) : (Op.equalIn (d + 1) t (.slice A n c) (.slice none 0 0)).run P w = .ok A.isNone w := by
  cases A <;> simp [Op.equalIn, run_underlying hu]
theorem cT_beq {op : Op} {kd : Nat} {ng : Bool} {ax ay : AX} (h : cT P op = some (.beq kd ng ax ay)) : ∃ bo t x y z, op = .binOp bo t x y z ∧ beqKind P t = some kd ∧ ((bo = .eql ∧ ng = false) ∨ (bo = .neq ∧ ng = true)) ∧ cX x = some ax ∧ cX y = some ay := by
  cases op with
  | binOp bo t x y z =>
    simp only [cT] at h
    split at h
    · obtain ⟨ax', ay', hx, hy, he⟩ := c2_inv h
      cases he
      exact ⟨_, _, _, _, _, rfl, ‹_›, .inl ⟨rfl, rfl⟩, hx, hy⟩
    · obtain ⟨ax', ay', hx, hy, he⟩ := c2_inv h
      cases he
      exact ⟨_, _, _, _, _, rfl, ‹_›, .inr ⟨rfl, rfl⟩, hx, hy⟩
    · exfalso
      revert h
      (repeat' split) <;> (intro h; obtain ⟨_, _, _, _, he⟩ := c2_inv h; cases he)
  | _ =>
    exfalso
    unfold cT at h
    revert h
    (repeat' split) <;> (intro h; first
      | (cases h; done)
      | (obtain ⟨_, _, he⟩ := c1_inv h; cases he; done)
      | (obtain ⟨_, _, _, _, he⟩ := c2_inv h; cases he; done)
      | (obtain ⟨_, _, _, _, _, _, he⟩ := c3_inv h; cases he; done)
      | (cases ‹_ = Op.binOp _ _ _ _ _›; done)
      | (simp at h; done))
theorem cX_nils {x : Operand} (h : cX x = some (.c .nils)) (a : Act) : a.eval x = .slice none 0 0 := by
  cases x with
  | tmp t => simp [cX] at h
  | const v =>
    simp only [cX, Option.map_eq_some_iff] at h
    obtain ⟨p, hp, he⟩ := h
    cases he
    have := cV_rel (w := default) (imm := fun _ _ => False) hp
    cases this; rfl
  | global g => simp [cX] at h
  | func f => simp [cX] at h
theorem nilB_run {E : Nat → AV} {o : Oper} {op : TOp} (hc : cT P o.op = some op) (hE : ∀ i, i ∈ op.slots → ARel κ (E i) (a.tmps.getD i Go.undef)) (hn : nilB E op = true) :
    ∃ b, (execOp a.eval o).run P κ.w = .ok (.value (.bool b)) κ.w := by
  unfold nilB at hn
  split at hn
  · rename_i ng x
    split at hn
    · rename_i hev
      obtain ⟨dst, op, type, pos, after, guard⟩ := o
      obtain ⟨bo, t, X, Y, z, rfl, hk, hbo, hX, hY⟩ := cT_beq hc
      have hx := cX_rel (κ := κ) (E := E) (a := a) hX (fun i hi => hE i (by simp [TOp.slots, hi]))
      rw [hev] at hx
      have hy := cX_nils hY a
      obtain ⟨e, hu⟩ : ∃ e, P.underlying t = some (.slice e) := by
        unfold beqKind at hk
        split at hk <;> first | exact ⟨_, ‹_›⟩ | cases hk
      obtain ⟨A, n, c, hs⟩ : ∃ A n c, a.eval X = .slice A n c := by
        generalize a.eval X = u at hx
        cases pv_inv hx <;> exact ⟨_, _, _, rfl⟩
      have he : Op.equal t (.slice A n c) (.slice none 0 0) = Op.equalIn (9999 + 1) t (.slice A n c) (.slice none 0 0) := rfl
      have hmain := eqIn_sl (P := P) (w := κ.w) 9999 hu A n c
      rcases hbo with ⟨rfl, _⟩ | ⟨rfl, _⟩
      · refine ⟨A.isNone, ?_⟩
        simp [execOp, hs, hy, eqGuard_at_slice, binOp, he, hmain]
      · refine ⟨!A.isNone, ?_⟩
        simp [execOp, hs, hy, eqGuard_at_slice, binOp, he, hmain]
    · cases hn
  · cases hn
theorem oper_sound {mu : Bool × Bool} {o : Oper} {op : AOp} {F : St → Prop} {K : Act → World → Prop} {Q : Exit → Act → World → Prop} (hc : cA P mu o.op = some op) (h : Rel c κ0 N s a w κ)
    (hd : dstOk o.dst N = true) (hr : doOp P c.G F s o.dst op) (hK : ∀ s a w κ, Rel c κ0 N s a w κ → F s → K a w) : o.wp P a w K Q := by
  have hw := h.w_eq
  subst hw
  obtain ⟨mu, fz⟩ := mu
  cases fz with
  | true =>
    obtain ⟨g, x, rfl, hz⟩ := cF_op hc
    simp only [doOp, onSome] at hr
    split at hr
    · rename_i p hp
      obtain ⟨u, κ', h1, h2, h3, h4⟩ := fOp_sound (P := P) (κ := κ) (E := s.E) (a := a) (new := s.next) hz h.rel (fun i _ => h.env i) hp
      unfold Oper.wp
      rw [h1]
      exact hK _ _ _ κ' ((h.step h3 h4).put (κ' := κ') (w' := κ'.w) hd h2) hr
    · exact hr.elim
  | false =>
  simp only [cA] at hc
  unfold cA0 at hc
  split at hc
  · rename_i t ht
    replace ht := cT1_some ht
    cases hc
    simp only [doOp, onSomeN] at hr
    split at hr
    · rename_i v hv
      obtain ⟨u, h1, h2⟩ := tOp_sound (P := P) (κ := κ) (E := s.E) (a := a) ht (fun i _ => h.env i) hv
      unfold Oper.wp
      rw [h1]
      exact hK _ _ _ κ (h.put (κ' := κ) (w' := κ.w) hd h2) hr
    · obtain ⟨hnb, hall⟩ := hr
      obtain ⟨b, h1⟩ := nilB_run (P := P) (κ := κ) (E := s.E) (a := a) ht (fun i _ => h.env i) hnb
      unfold Oper.wp
      rw [h1]
      exact hK _ _ _ κ (h.put (κ' := κ) (w' := κ.w) hd (.pv _ _ (.bool b))) (hall b)
  · split at hc
    · rename_i m hm
      cases hc
      simp only [doOp, onSome] at hr
      split at hr
      · rename_i p hp
        obtain ⟨x, u, κ', h1, h2, h3, h4, h5, _⟩ := mOp_sound (P := P) hm h.rel h.size_le (fun _ => h.fresh s.next (Nat.le_refl _)) (fun i _ => h.env i) hp
        have hR := (h.step h4 h5).put (κ' := κ') (w' := κ'.w) hd h3
        unfold Oper.wp
        rw [h1]
        rcases h2 with rfl | ⟨rfl, rfl⟩
        · exact hK _ _ _ κ' hR hr
        · exact hK _ _ _ κ' hR hr
      · exact hr.elim
    · split at hc
      · rename_i f args argTypes hop
        split at hc
        · rename_i af xs hf hxs
          cases hc
          simp only [doOp, onSome] at hr
          split at hr
          · rename_i p hp
            obtain ⟨vs, us, hfu, hvs, hus, hv1, hu1⟩ := clo_inv (cX_rel (κ := κ) (E := s.E) (a := a) hf (fun i _ => h.env i)) hp
            obtain ⟨hxl, hxr⟩ := cXs_rel (κ := κ) (E := s.E) (a := a) hxs (fun i _ => h.env i)
            have hmid : ∀ (i : Nat) (x : AV), (xs.map (·.ev s.E))[i]? = some x → ARel κ x ((args.map a.eval).getD i Go.undef) := by
              intro i x hx
              rw [getD_toList]; simpa using hxr i x hx
            have hall := rel_arr_append (κ := κ) (by simp [hvs]; exact hxl) (rel_arr_append (κ := κ) hvs hv1 hmid) hu1
            simp only [callC] at hr
            obtain ⟨hcal, hC⟩ := acall_sound (vals := vs ++ args.map a.eval ++ us) h hr (by simp [hvs, hus]; simpa using hxl) hall
            have hrun : (execOp a.eval o).run P κ.w = .ok (.enter p.1 (vs ++ args.map a.eval ++ us)) κ.w := by
              simp [execOp, hop, resolve, hfu, Deferred.ofValue, invoke, callable_run hcal]
            unfold Oper.wp
            rw [hrun]
            simp only [Oper.upon_enter]
            refine hC.mono ?_
            rintro e w' ⟨u, v, s', κ', rfl, hR, hv, hk⟩
            exact hK _ _ _ κ' (hR.put (κ' := κ') (w' := w') hd hv) hk
          · exact hr.elim
        · cases hc; simp [badOp, doOp, AX.ev, cloOf, onSome] at hr
      · cases hc; simp [badOp, doOp, AX.ev, cloOf, onSome] at hr
theorem vcOps_sound {muts : List Nat} {ops : Array Oper} {Q : Exit → Act → World → Prop} {F : St → Prop} (hQ : ∀ s a w κ, Rel c κ0 N s a w κ → F s → Q .normal a w) : ∀ (l : List Oper) (aops : List AOper) (s : St) (a : Act) (w : World) (κ : Kap),
    cOps P muts N ops l = some aops → Rel c κ0 N s a w κ → vcOps P c.G aops F s → wpList P ops Q l a w
  | [], aops, s, a, w, κ, hc, h, hv => by
    simp [cOps] at hc; subst hc
    exact hQ s a w κ h hv
  | o :: r, aops, s, a, w, κ, hc, h, hv => by
    simp only [cOps] at hc
    split at hc
    · rename_i ao ar ho hr
      cases hc
      unfold cOper at ho
      split at ho
      · rename_i g op hg hop
        split at ho
        · rename_i hd
          cases ho
          simp only [vcOps, onSome] at hv
          split at hv
          · rename_i b hb
            have hwant := wanted_sound (ops := ops) (o := o) hg h.env hb
            refine wpList_step fun K hK => ?_
            rw [hwant]
            cases b with
            | true =>
              rw [if_pos rfl]
              exact oper_sound hop h hd hv fun s a w κ hR hF => hK _ _ (vcOps_sound hQ r ar s a w κ hr hR hF)
            | false =>
              rw [if_neg (by simp)]
              exact hK _ _ (vcOps_sound hQ r ar _ _ w κ hr (h.put (κ' := κ) (w' := w) hd (.pv _ _ .undef)) hv)
          · exact hv.elim
        · cases ho
      · cases ho
    · cases hc
end
end Go.Ab
set_option linter.unusedVariables false
set_option linter.unusedSimpArgs false
namespace Go.Ab
open Go Go.RowKit
section
variable {β : Type}
def appL (g : Nat → β) : List (Nat × β) → Nat → β
  | [] => g
  | p :: r => appL (fun x => if x = p.1 then p.2 else g x) r
def keysL (u : List (Nat × β)) : List Nat := u.map (·.1)
theorem appL_not {r : Nat} : ∀ (u : List (Nat × β)) (g : Nat → β), r ∉ keysL u → appL g u r = g r
  | [], g, _ => rfl
  | p :: q, g, h => by
    simp only [keysL, List.map_cons, List.mem_cons, not_or] at h
    rw [appL, appL_not q _ h.2, if_neg h.1]
theorem appL_at {r : Nat} : ∀ (u : List (Nat × β)) (g g' : Nat → β), (r ∈ keysL u ∨ g r = g' r) → appL g u r = appL g' u r
  | [], g, g', h => by
    rcases h with h | h
    · simp [keysL] at h
    · exact h
  | p :: q, g, g', h => by
    rw [appL, appL]
    refine appL_at q _ _ ?_
    by_cases hp : r = p.1
    · right; simp [hp]
    · rcases h with h | h
      · simp only [keysL, List.map_cons, List.mem_cons] at h
        exact .inl (h.resolve_left hp)
      · right; simp [hp, h]
def accS (S : Nat → Bool) : List (List (Nat × β)) → Nat → (Nat → β) → Nat → β
  | [], _, g => g
  | u :: r, k, g => accS S r (k + 1) (if S k = true then appL g u else g)
theorem accS_congr {S S' : Nat → Bool} {r : Nat} : ∀ (W : List (List (Nat × β))) (k : Nat) (g g' : Nat → β), (∀ i u, W[i]? = some u → r ∈ keysL u → S (k + i) = S' (k + i)) → g r = g' r → accS S W k g r = accS S' W k g' r
  | [], k, g, g', _, h => h
  | u :: q, k, g, g', hs, h => by
    rw [accS, accS]
    refine accS_congr q (k + 1) _ _ (fun i v hv hr => ?_) ?_
    · have := hs (i + 1) v (by simpa using hv) hr
      rw [show k + 1 + i = k + (i + 1) by omega]; exact this
    · by_cases hr : r ∈ keysL u
      · have := hs 0 u (by simp) hr
        simp only [Nat.add_zero] at this
        rw [this]
        split
        · exact appL_at u _ _ (.inl hr)
        · exact h
      · split <;> split <;> simp [appL_not u _ hr, h]
theorem accS_last {S : Nat → Bool} {r : Nat} : ∀ (W : List (List (Nat × β))) (k i : Nat) (u : List (Nat × β)) (g g' : Nat → β), W[i]? = some u → S (k + i) = true → r ∈ keysL u → (∀ j v, i < j → W[j]? = some v → r ∈ keysL v → S (k + j) = false) →
    accS S W k g r = appL g' u r
  | [], k, i, u, g, g', h, _, _, _ => by simp at h
  | v :: q, k, i, u, g, g', h, hS, hr, hl => by
    rw [accS]
    cases i with
    | zero =>
      simp only [List.getElem?_cons_zero, Option.some.injEq] at h
      subst h
      simp only [Nat.add_zero] at hS
      rw [if_pos hS]
      have hz : accS S q (k + 1) (appL g v) r = accS (fun _ => false) q (k + 1) (appL g v) r :=
        accS_congr q (k + 1) _ _ (fun j w hw hrw => by
          have := hl (j + 1) w (by omega) (by simpa using hw) hrw
          rw [show k + 1 + j = k + (j + 1) by omega]; exact this) rfl
      have hno : ∀ (W : List (List (Nat × β))) (k : Nat) (g : Nat → β), accS (fun _ => false) W k g = g := by
        intro W
        induction W with
        | nil => intros; rfl
        | cons a b ih => intro k g; rw [accS]; simpa using ih (k + 1) g
      rw [hz, hno]
      exact appL_at v _ _ (.inl hr)
    | succ i =>
      exact accS_last q (k + 1) i u _ g' (by simpa using h) (by rw [show k + 1 + i = k + (i + 1) by omega]; exact hS) hr (fun j w hj hw hrw => by
        have := hl (j + 1) w (by omega) (by simpa using hw) hrw
        rw [show k + 1 + j = k + (j + 1) by omega]; exact this)
theorem accS_step {S S' : Nat → Bool} {W : List (List (Nat × β))} {i : Nat} {u : List (Nat × β)} {g : Nat → β} (hi : W[i]? = some u) (h1 : S' i = true) (h2 : ∀ j, j ≠ i → S' j = S j)
    (ho : ∀ j v r, j ≠ i → W[j]? = some v → r ∈ keysL v → r ∈ keysL u → i < j → S j = false) : accS S' W 0 g = appL (accS S W 0 g) u := by
  funext r
  by_cases hr : r ∈ keysL u
  · refine accS_last W 0 i u g _ hi (by simpa using h1) hr (fun j v hj hv hrv => ?_)
    rw [Nat.zero_add, h2 j (by omega)]
    exact ho j v r (by omega) hv hrv hr hj
  · rw [appL_not u _ hr]
    refine accS_congr W 0 g g (fun j v hv hrv => ?_) rfl
    rw [Nat.zero_add]
    refine h2 j ?_
    rintro rfl
    rw [hi] at hv; cases hv
    exact hr hrv
theorem accS_read {S : Nat → Bool} {W : List (List (Nat × β))} {i r : Nat} {g : Nat → β} (hi : S i = false) (ho : ∀ j v, j ≠ i → W[j]? = some v → r ∈ keysL v → (j < i ∧ S j = true) ∨ (i < j ∧ S j = false)) :
    accS S W 0 g r = accS (fun j => decide (j < i)) W 0 g r := by
  refine accS_congr W 0 g g (fun j v hv hrv => ?_) rfl
  rw [Nat.zero_add]
  by_cases hj : j = i
  · subst hj; simp [hi]
  · rcases ho j v hj hv hrv with ⟨h1, h2⟩ | ⟨h1, h2⟩
    · simp [h1, h2]
    · rw [h2]; simp; omega
theorem accS_all (S : Nat → Bool) : ∀ (W : List (List (Nat × β))) (k : Nat) (g : Nat → β), (∀ i, i < W.length → S (k + i) = true) → accS S W k g = accS (fun _ => true) W k g
  | [], k, g, _ => rfl
  | v :: q, k, g, h => by
    have h0 := h 0 (by simp)
    rw [Nat.add_zero] at h0
    rw [accS, accS, if_pos h0, if_pos rfl]
    exact accS_all S q (k + 1) _ (fun i hi => by rw [show k + 1 + i = k + (i + 1) by omega]; exact h (i + 1) (by simp; omega))
end
theorem ev_congr {E E' : Nat → AV} {x : AX} (h : ∀ i ∈ x.slots, E i = E' i) : x.ev E = x.ev E' := by
  cases x with
  | t i => exact h i (by simp [AX.slots])
  | c p => rfl
theorem evs_congr {E E' : Nat → AV} {xs : List AX} (h : ∀ i ∈ xs.flatMap AX.slots, E i = E' i) : xs.map (·.ev E) = xs.map (·.ev E') :=
  List.map_congr_left fun x hx => ev_congr fun i hi => h i (List.mem_flatMap.2 ⟨x, hx, hi⟩)
theorem evo_congr {E E' : Nat → AV} {x : Option AX} (h : ∀ i ∈ oslots x, E i = E' i) : x.map (·.ev E) = x.map (·.ev E') := by
  cases x with
  | none => rfl
  | some x => simp only [Option.map_some]; rw [ev_congr (x := x) (fun i hi => h i (by simpa [oslots] using hi))]
theorem TOp.run_congr {E E' : Nat → AV} {o : TOp} (h : ∀ i ∈ o.slots, E i = E' i) : o.run E = o.run E' := by
  cases o <;> simp only [TOp.run, TOp.slots, List.mem_append] at h ⊢
  case mv x => rw [ev_congr h]
  case pick c a b => rw [ev_congr (x := c) (fun i hi => h i (.inl (.inl hi))), ev_congr (x := a) (fun i hi => h i (.inl (.inr hi))), ev_congr (x := b) (fun i hi => h i (.inr hi))]
  case build zs ps =>
    have : (ps.map fun p => (p.1, p.2.1, p.2.2.ev E)) = ps.map fun p => (p.1, p.2.1, p.2.2.ev E') :=
      List.map_congr_left fun p hp => by rw [ev_congr (x := p.2.2) (fun i hi => h i (List.mem_flatMap.2 ⟨p, hp, hi⟩))]
    rw [this]
  case faddr off x => rw [ev_congr h]
  case field g sz off x => rw [ev_congr h]
  case len st x => rw [ev_congr h]
  case neg x => rw [ev_congr h]
  case not x => rw [ev_congr h]
  case compl x => rw [ev_congr h]
  case conv k x => rw [ev_congr h]
  case convS x => rw [ev_congr h]
  case convIS x => rw [ev_congr h]
  case ext x i => rw [ev_congr h]
  case nilck x => rw [ev_congr h]
  case sliceL sz x l hh => rw [ev_congr (x := x) (fun i hi => h i (.inl (.inl hi))), evo_congr (x := l) (fun i hi => h i (.inl (.inr hi))), evo_congr (x := hh) (fun i hi => h i (.inr hi))]
  case sliceS x l hh => rw [ev_congr (x := x) (fun i hi => h i (.inl (.inl hi))), evo_congr (x := l) (fun i hi => h i (.inl (.inr hi))), evo_congr (x := hh) (fun i hi => h i (.inr hi))]
  case clo f fs cs => rw [evs_congr (xs := fs) (fun i hi => h i (.inl hi)), evs_congr (xs := cs) (fun i hi => h i (.inr hi))]
  all_goals
    rename_i x y
    rw [ev_congr (x := x) (fun i hi => h i (.inl hi)), ev_congr (x := y) (fun i hi => h i (.inr hi))]
def AV.name : AV → List Nat
  | .ptr r _ => [r]
  | .row r _ _ _ => [r]
  | .olist r _ _ => [r]
  | _ => []
def XOp.reads (E : Nat → AV) : XOp → List Nat
  | .cap _ x => (x.ev E).name
  | .resl _ x _ => (x.ev E).name
  | .copy _ x y | .apart x y => (x.ev E).name ++ (y.ev E).name
  | .appz _ _ _ _ x _ => (x.ev E).name
def MOp.reads (E : Nat → AV) : MOp → List Nat
  | .load _ _ x | .sliceA _ _ x _ _ | .clear _ _ x | .toStr x => (x.ev E).name
  | .store _ x _ => (x.ev E).name
  | .append _ _ _ _ x y => (x.ev E).name ++ (y.ev E).name
  | .xop o => o.reads E
  | _ => []
theorem elemsOf_congr {σ σ' : Store} {sz : Nat} {y : AV} (h : ∀ r ∈ y.name, σ r = σ' r) : elemsOf σ sz y = elemsOf σ' sz y := by
  cases y with
  | row r s off len => simp only [elemsOf, h r (by simp [AV.name])]
  | pv p => cases p <;> rfl
  | _ => rfl
theorem srcC_congr {σ σ' : Store} {sz : Nat} {y : AV} (h : ∀ r ∈ y.name, σ r = σ' r) : srcC sz σ y = srcC sz σ' y := by
  cases y with
  | row r s off len => simp only [srcC, h r (by simp [AV.name])]
  | _ => simp only [srcC]; rw [elemsOf_congr h]
theorem XOp.reads_congr {E E' : Nat → AV} {o : XOp} (h : ∀ i ∈ o.slots, E i = E' i) : o.reads E = o.reads E' := by
  cases o <;> simp only [XOp.slots, XOp.reads, List.mem_append] at h ⊢
  case cap sz x => rw [ev_congr h]
  case resl sz x y => rw [ev_congr (x := x) (fun i hi => h i (.inl hi))]
  case copy sz x y => rw [ev_congr (x := x) (fun i hi => h i (.inl hi)), ev_congr (x := y) (fun i hi => h i (.inr hi))]
  case apart x y => rw [ev_congr (x := x) (fun i hi => h i (.inl hi)), ev_congr (x := y) (fun i hi => h i (.inr hi))]
  case appz e sz b zs x y => rw [ev_congr (x := x) (fun i hi => h i (.inl hi))]
theorem XOp.run_congr {new : Nat} {E E' : Nat → AV} {σ σ' : Store} {o : XOp} (h : ∀ i ∈ o.slots, E i = E' i) (hr : ∀ r ∈ o.reads E, σ r = σ' r) : o.run new E σ = o.run new E' σ' := by
  cases o <;> simp only [XOp.run, XOp.slots, XOp.reads, List.mem_append] at h hr ⊢
  case cap sz x =>
    rw [← ev_congr (x := x) h]
    congr 1
    cases hx : x.ev E with
    | row r s off len => simp only [rCap]; rw [hr r (by simp [hx, AV.name])]
    | _ => rfl
  case resl sz x y =>
    rw [← ev_congr (x := x) (fun i hi => h i (.inl hi)), ← ev_congr (x := y) (fun i hi => h i (.inr hi))]
    congr 1
    cases hx : x.ev E with
    | row r s off len =>
      cases y.ev E with
      | pv p => cases p <;> simp only [rResl]; rw [hr r (by simp [hx, AV.name])]
      | _ => rfl
    | _ => rfl
  case copy sz x y =>
    rw [← ev_congr (x := x) (fun i hi => h i (.inl hi)), ← ev_congr (x := y) (fun i hi => h i (.inr hi))]
    cases hx : x.ev E with
    | row r s off len => simp only [rCopy]; rw [hr r (.inl (by simp [hx, AV.name])), srcC_congr (fun q hq => hr q (.inr hq))]
    | _ => rfl
  case apart x y =>
    rw [← ev_congr (x := x) (fun i hi => h i (.inl hi)), ← ev_congr (x := y) (fun i hi => h i (.inr hi))]
    congr 1
    cases hx : x.ev E with
    | olist r s l =>
      cases hy : y.ev E with
      | row q s off len => simp only [rApart]; rw [hr r (.inl (by simp [hx, AV.name])), hr q (.inr (by simp [hy, AV.name]))]
      | _ => rfl
    | _ => rfl
  case appz e sz b zs x y =>
    rw [← ev_congr (x := x) (fun i hi => h i (.inl hi)), ← ev_congr (x := y) (fun i hi => h i (.inr hi))]
    cases hx : x.ev E with
    | row r s off len =>
      cases y.ev E with
      | pv p => cases p <;> simp only [rAppz]; rw [hr r (by simp [hx, AV.name])]
      | _ => rfl
    | _ => rfl
theorem MOp.run_congr {G : Nat → List PV} {new : Nat} {E E' : Nat → AV} {σ σ' : Store} {o : MOp} (h : ∀ i ∈ o.slots, E i = E' i) (hr : ∀ r ∈ o.reads E, σ r = σ' r) : o.run G new E σ = o.run G new E' σ' := by
  cases o <;> simp only [MOp.run, MOp.slots, MOp.reads, List.mem_append] at h hr ⊢
  case box T x => rw [ev_congr h]
  case xop o => exact XOp.run_congr h hr
  case cbox T x => rw [ev_congr h]
  case load g sz x =>
    rw [← ev_congr (x := x) h]
    congr 1
    cases hx : x.ev E with
    | ptr r o => simp only [rLoad]; rw [hr r (by simp [hx, AV.name])]
    | pv p => cases p <;> rfl
    | _ => rfl
  case store sz x v =>
    rw [← ev_congr (x := x) (fun i hi => h i (.inl hi)), ← ev_congr (x := v) (fun i hi => h i (.inr hi))]
    congr 1
    cases hx : x.ev E with
    | ptr r o => simp only [rStore]; rw [hr r (by simp [hx, AV.name])]
    | _ => rfl
  case toStr x =>
    rw [← ev_congr (x := x) h]
    unfold rToStr
    rw [elemsOf_congr (fun r hrr => hr r hrr)]
  case bslice mu e sz len xs => rw [evs_congr h]
  case append mu e sz by_ x y =>
    rw [← ev_congr (x := x) (fun i hi => h i (.inl hi)), ← ev_congr (x := y) (fun i hi => h i (.inr hi))]
    unfold rAppend
    rw [elemsOf_congr (fun r hrr => hr r (.inr hrr))]
    cases elemsOf σ' sz (y.ev E) with
    | none => rfl
    | some ys =>
      simp only
      cases hx : x.ev E with
      | olist r s l => cases mu <;> simp only [hr r (.inl (by simp [hx, AV.name]))]
      | row r s off len => cases mu <;> simp only [hr r (.inl (by simp [hx, AV.name]))]
      | pv p => cases p <;> cases mu <;> rfl
      | _ => cases mu <;> rfl
  case mk mu e sz by_ zs x y => rw [← ev_congr (x := x) (fun i hi => h i (.inl hi)), ← ev_congr (x := y) (fun i hi => h i (.inr hi))]
  case clear sz zs x =>
    rw [← ev_congr (x := x) h]
    congr 1
    cases hx : x.ev E with
    | row r s off len => simp only [rClear]; rw [hr r (by simp [hx, AV.name])]
    | _ => rfl
  case sliceA n sz x l hh =>
    rw [← ev_congr (x := x) (fun i hi => h i (.inl (.inl hi))), evo_congr (x := l) (fun i hi => h i (.inl (.inr hi))), evo_congr (x := hh) (fun i hi => h i (.inr hi))]
    cases hx : x.ev E with
    | ptr r o => simp only; rw [hr r (by simp [hx, AV.name])]
    | _ => rfl
end Go.Ab
