/- The walk of slices.Delete of one table. The walk of slices.Delete of one index. The walk of slices.DeleteFunc of a table's indexes. The walks of Drop and DropIndex. -/
import Derived.Test.YtcgpflkaejbkhaaGreatDoorJW
import Derived.Deep.RegionLaw
import Derived.Deep.RegionHeld3
namespace Go.Proofs.YtcgpflkaejbkhaaGreatDoor
open Go.RowKit

theorem zero_tab (w : World) : (zeroValue 25).run Tryz.prog w = .ok (.agg #[.string ⟨#[]⟩, .slice none 0 0, .int .i64 0, .int .i64 0, .int .i64 0]) w := by kernel_rfl
/-- append of elements to the beginning of their own row, as a step of a region that draws its order -/
theorem step_cut (w : World) {ops : Array Oper} {o : Oper} {a : Act} {K : Act → World → Prop} {Q : Exit → Act → World → Prop} {E : Prop} (hgd : o.guard = none) (s x : Operand)
    (ho : o.op = .call { callee := .builtin .append, args := #[s, x], argTypes := #[33, 33] }) (g k m p cap c2 : Nat) (A : Addr) (cur : Array Value) (news : List Value) (hs : a.eval s = .slice (some ⟨g, 0, none⟩) k cap) (hx : a.eval x = .slice (some A) m c2) (hp : p = k + m)
    (hg : w.heap[g]? = some (.cells cur 25 (0, 0))) (hl : news.length = m * 5) (hn : ∀ j u, news[j]? = some u → w.cell? (A.add j) = some u) (h1 : ∀ u ∈ news, u.oneCell' = true) (hroom : k + m ≤ cap) (hfit : k * 5 + news.length ≤ cur.size)
    (h : K (a.put o.dst (.slice (some ⟨g, 0, none⟩) p cap)) (w.setRow g (cur.toList.take (k * 5) ++ news ++ cur.toList.drop (k * 5 + news.length)).toArray)) :
    if Region.wanted o (yielded ops a.tmps) = true then Oper.wp Tryz.prog o a w K Q else E := by
  have hw : Region.wanted o (yielded ops a.tmps) = true := by simp [Region.wanted, hgd]
  rw [if_pos hw]
  obtain ⟨i0, hi0, hz0, hz1, hz2⟩ := info_parts info35
  have hrun := run_append_room (P := Tryz.prog) w 33 o.type 25 i0 Tryz.underlying33 hi0 g k cap cur hg A m c2 news (by rw [hz1]; exact hl) hn h1 hroom (by rw [hz1]; exact hfit)
  rw [hz1] at hrun
  unfold Oper.wp
  simp only [execOp, ho, resolve, invoke, builtin, Sem.run_bind, Sem.run_pure, Result.andThen_ok, List.map_toArray, List.map_cons, List.map_nil, hs, hx, hrun]
  rw [← hp]
  exact h
theorem grown_row (W : World) (g : Nat) (cur : Array Value) : W.grownBy (W.setRow g cur) (some g) := by
  refine ⟨rfl, rfl, rfl, by simp [World.setRow], fun k hk hne => ?_⟩
  have hgk : g ≠ k := fun e => hne (by rw [e])
  simp [World.setRow, Array.getElem?_modify, hgk]
/-- clear of elements of a row of tables: what stands ahead of them stands -/
theorem run_clear_tab (W : World) (ty : TypeId) (g p n c : Nat) (L R : List Value) (hp : L.length = p * 5) (hn : 0 < n) (hR : n * 5 ≤ R.length) (hg : W.heap[g]? = some (.cells (L ++ R).toArray 25 (0, 0))) :
    ∃ W', (Builtin.clear_ #[33] ty #[.slice (some ⟨g, p * 5, none⟩) n c]).run Tryz.prog W = .ok (.tuple #[]) W' ∧ W.grownBy W' (some g) ∧ ∃ R', W'.heap[g]? = some (.cells (L ++ R').toArray 25 (0, 0)) := by
  obtain ⟨vs, hvs⟩ : ∃ vs, vs = (Builtin.zeroCells (Value.agg #[.string ⟨#[]⟩, .slice none 0 0, .int .i64 0, .int .i64 0, .int .i64 0]).cells n).toList := ⟨_, rfl⟩
  have hlen : vs.length = n * 5 := by
    rw [hvs, Array.length_toList]
    exact size_zeroCells _ n
  have hone : ∀ v ∈ vs, v.oneCell' = true := by
    intro v hv
    rw [hvs] at hv
    have hmem : ∀ (i : Nat) (h : i < (Builtin.zeroCells (Value.agg #[.string ⟨#[]⟩, .slice none 0 0, .int .i64 0, .int .i64 0, .int .i64 0]).cells n).toList.length), ((Builtin.zeroCells (Value.agg #[.string ⟨#[]⟩, .slice none 0 0, .int .i64 0, .int .i64 0, .int .i64 0]).cells n).toList[i]).oneCell' = true := by
      intro i h
      simp only [Builtin.zeroCells, Value.cells] at h ⊢
      simp only [Array.getElem_toList]
      have hm := Nat.mod_lt i (by decide : 0 < 5)
      generalize hq : i % 5 = q at hm
      simp [hq]
      match q, hm with
      | 0, _ => rfl
      | 1, _ => rfl
      | 2, _ => rfl
      | 3, _ => rfl
      | 4, _ => rfl
    obtain ⟨i, hi, rfl⟩ := List.mem_iff_getElem.1 hv
    exact hmem i hi
  have hst := run_storeCells_at (P := Tryz.prog) g (p * 5) 25 vs 0 (L ++ R).toArray W hg (by simp; omega) hone
  refine ⟨W.setRow g ((L ++ R).toArray.toList.take (p * 5 + 0) ++ vs ++ (L ++ R).toArray.toList.drop (p * 5 + 0 + vs.length)).toArray, ?_, grown_row W g _, vs ++ R.drop (n * 5), ?_⟩
  · obtain ⟨m, rfl⟩ : ∃ m, n = m + 1 := ⟨n - 1, by omega⟩
    simp only [Builtin.clear_]
    simp [run_underlying Tryz.underlying33, ← hvs, hst]
  · rw [setRow_heap W g _ _ 25 _ hg]
    congr 2
    simp only [Nat.add_zero]
    rw [show p * 5 = L.length from hp.symm, List.take_left', hlen]
    · simp [List.drop_append]
    · rfl
theorem tabs_one (l : List Tab) : ∀ u ∈ (l.map tabL).flatten, u.oneCell' = true := by
  intro u hu
  obtain ⟨x, hx, hu⟩ := List.mem_flatten.1 hu
  obtain ⟨c, _, rfl⟩ := List.mem_map.1 hx
  exact tab_one c u hu
theorem tabs_len (l : List Tab) : (l.map tabL).flatten.length = l.length * 5 := by rw [flat_len (tab_len l), List.length_map]
/-- what Delete answers -/
def DelP (w : World) (g cap n : Nat) (l : List Tab) (e : Ending) (w' : World) : Prop := e = .returned (.slice (some ⟨g, 0, none⟩) n cap) ∧ RowT w' g l ∧ w.grownBy w' (some g)
set_option maxRecDepth 100000 in
set_option maxHeartbeats 8000000 in
theorem del_tab (g cap n k : Nat) (l : List Tab) (w : World) (h : RowT w g l) (hl : l.length = n) (hk : k < n) (hc : n ≤ cap) (_hc2 : cap ≤ maxLen) :
    Calls Tryz.prog 64 #[.slice (some ⟨g, 0, none⟩) n cap, .int .i64 (k : Int), .int .i64 ((k : Int) + 1)] w (DelP w g cap (n - 1) (l.eraseIdx k)) := by
  obtain ⟨j, hj⟩ : ∃ j, j = k + 1 := ⟨_, rfl⟩
  have hjj : ((k : Int) + 1) = (j : Int) := by omega
  rw [hjj]
  obtain ⟨rest, hr⟩ := h
  obtain ⟨news, hnews⟩ : ∃ news, news = ((l.drop j).map tabL).flatten := ⟨_, rfl⟩
  have hlen : news.length = (n - j) * 5 := by rw [hnews, tabs_len, List.length_drop, hl]
  obtain ⟨L, hL⟩ : ∃ L, L = ((l.take k).map tabL).flatten := ⟨_, rfl⟩
  have hLl : L.length = k * 5 := by rw [hL, tabs_len, List.length_take, hl, Nat.min_eq_left (by omega)]
  obtain ⟨tk, htk⟩ : ∃ tk, l = l.take k ++ tk :: l.drop j := by
    subst hj
    exact ⟨l[k]'(by omega), by rw [← List.drop_eq_getElem_cons (by omega), List.take_append_drop]⟩
  have hrow : (l.map tabL).flatten ++ rest = L ++ (tabL tk ++ (news ++ rest)) := by
    conv => lhs; rw [htk]
    rw [hL, hnews]
    simp
  have hera : l.eraseIdx k = l.take k ++ l.drop j := by rw [hj, List.eraseIdx_eq_take_drop_succ]
  obtain ⟨cur, hcur⟩ : ∃ cur : Array Value, cur = (L ++ (tabL tk ++ (news ++ rest))).toArray := ⟨_, rfl⟩
  rw [hrow, ← hcur] at hr
  have hcs : cur.size = k * 5 + 5 + (n - j) * 5 + rest.length := by
    rw [hcur]
    simp [hLl, hlen, tabL]
    omega
  obtain ⟨W1, hW1⟩ : ∃ W1, W1 = w.drew.setRow g (cur.toList.take (k * 5) ++ news ++ cur.toList.drop (k * 5 + news.length)).toArray := ⟨_, rfl⟩
  have hrd : w.drew.heap[g]? = some (.cells cur 25 (0, 0)) := hr
  obtain ⟨p, hp⟩ : ∃ p, p = k + (n - j) := ⟨_, rfl⟩
  have hp1 : p = n - 1 := by omega
  have hW1r : ∃ R, W1.heap[g]? = some (.cells (((l.eraseIdx k).map tabL).flatten ++ R).toArray 25 (0, 0)) ∧ 5 ≤ R.length := by
    refine ⟨cur.toList.drop (k * 5 + news.length), ?_, ?_⟩
    · rw [hW1, setRow_heap w.drew g _ _ 25 _ hrd, hera]
      congr 2
      rw [hcur]
      simp only [List.take_left' hLl]
      rw [hL, hnews]
      simp
    · rw [List.length_drop, Array.length_toList, hcs, hlen]; omega
  obtain ⟨R, hR, hR5⟩ := hW1r
  have hlen2 : ((l.eraseIdx k).map tabL).flatten.length = p * 5 := by rw [tabs_len, List.length_eraseIdx, hl, if_pos hk, hp1]
  have hg1 : w.grownBy W1 (some g) := by
    rw [hW1]
    exact (grown_of_below ((Below.refl _ w).drew) (some g)).trans (grown_row _ _ _)
  have hclr : ∀ ty, ∃ W2, (Builtin.clear_ #[33] ty #[.slice (some ⟨g, p * 5, none⟩) (n - p) (cap - p)]).run Tryz.prog W1 = .ok (.tuple #[]) W2 ∧ DelP w g cap p (l.eraseIdx k) (.returned (.slice (some ⟨g, 0, none⟩) p cap)) W2 := fun ty => by
    obtain ⟨W2, h1, h2, R', h3⟩ := run_clear_tab W1 ty g p (n - p) (cap - p) _ R hlen2 (by omega) (by omega) hR
    exact ⟨W2, h1, rfl, ⟨R', h3⟩, hg1.trans h2⟩
  obtain ⟨A, hA, hsrc⟩ : ∃ A : Addr, (if cap = j then (some ⟨g, 0, none⟩ : Option Addr) else some ⟨g, j * 5, none⟩) = some A ∧ Hid (∀ i u, news[i]? = some u → w.drew.cell? (A.add i) = some u) := by
    by_cases h : cap = j
    · refine ⟨⟨g, 0, none⟩, by simp [h], fun i u hu => ?_⟩
      have h0 : news.length = 0 := by rw [hlen]; omega
      rw [List.length_eq_zero_iff.1 h0] at hu
      simp at hu
    · refine ⟨⟨g, j * 5, none⟩, by simp [h], fun i u hu => ?_⟩
      rw [Addr.add_lit]
      refine (cell_of_row w.drew g _ _ _ _ hrd).trans ?_
      rw [hcur, List.getElem?_toArray, List.getElem?_append_right (by omega), hLl, List.getElem?_append_right (by simp [tabL]; omega)]
      have hi := (List.getElem?_eq_some_iff.1 hu).1
      rw [show j * 5 + i - k * 5 - (tabL tk).length = i by simp [tabL]; omega, List.getElem?_append_left hi]
      exact hu
  have HSRC := hsrc
  have HR := Lib.hid hrd
  have HNL := Lib.hid hlen
  have HN1 := Lib.hid (show ∀ u ∈ news, u.oneCell' = true by rw [hnews]; exact tabs_one _)
  have HFIT := Lib.hid (show k * 5 + news.length ≤ cur.size by rw [hcs, hlen]; omega)
  have HW := Lib.hid hW1
  have HCL := Lib.hid hclr
  have e1 : ((k : Int) == (j : Int)) = false := beq_eq_false_iff_ne.2 (by omega)
  have hkc : k ≤ cap := by omega
  have hjc : j ≤ cap := by omega
  have hkj : k ≤ j := by omega
  have hjn : j ≤ n := by omega
  have hpn : p ≤ n := by omega
  have hP1 := Lib.hid hp1
  have hP := Lib.hid hp
  have hroom : k + (n - j) ≤ cap := by omega
  have hcpp : ¬ cap = p := by omega
  unfold maxLen at _hc2
  generalize l.eraseIdx k = LL at HCL ⊢
  rw [← hp1]
  clear hl hnews hL hLl htk hrow hera hcur hr hcs hW1 hrd hR hR5 hlen2 hg1 hclr hlen hsrc hjj hj hp hp1
  go_enter Tryz.func64, Tryz.ntmps64
  go_wp2_with fail
  go_region_law (first
    | (refine step_cut _ (by rfl) (.tmp 22) (.tmp 25) (by rfl) g k (n - j) p cap (cap - j) A cur news (by simp [Act.eval, Act.put]) (by simp [Act.eval, Act.put]) hP.out HR.out HNL.out HSRC.out HN1.out hroom HFIT.out ?_
       rw [← HW.out])
    | fail)
  all_goals
    obtain ⟨W2, hcl, hq⟩ := HCL.out 0
    have HQ2 := Lib.hid hq
    have hcp : ¬ cap = p := hcpp
    clear hq
    go_wp2_with fail
    go_ret
    exact HQ2.out
end Go.Proofs.YtcgpflkaejbkhaaGreatDoor
namespace Go.Proofs.YtcgpflkaejbkhaaGreatDoor
open Go.RowKit

theorem zero_idx (w : World) : (zeroValue 28).run Tryz.prog w = .ok (.agg #[.string ⟨#[]⟩, .string ⟨#[]⟩, .slice none 0 0, .int .i64 0, .int .i64 0, .int .i64 0]) w := by kernel_rfl
/-- append of elements to the beginning of their own row, as a step of a region that draws its order -/
theorem step_cutX (w : World) {ops : Array Oper} {o : Oper} {a : Act} {K : Act → World → Prop} {Q : Exit → Act → World → Prop} {E : Prop} (hgd : o.guard = none) (s x : Operand)
    (ho : o.op = .call { callee := .builtin .append, args := #[s, x], argTypes := #[34, 34] }) (g k m p cap c2 : Nat) (A : Addr) (cur : Array Value) (news : List Value) (hs : a.eval s = .slice (some ⟨g, 0, none⟩) k cap) (hx : a.eval x = .slice (some A) m c2) (hp : p = k + m)
    (hg : w.heap[g]? = some (.cells cur 28 (0, 0))) (hl : news.length = m * 6) (hn : ∀ j u, news[j]? = some u → w.cell? (A.add j) = some u) (h1 : ∀ u ∈ news, u.oneCell' = true) (hroom : k + m ≤ cap) (hfit : k * 6 + news.length ≤ cur.size)
    (h : K (a.put o.dst (.slice (some ⟨g, 0, none⟩) p cap)) (w.setRow g (cur.toList.take (k * 6) ++ news ++ cur.toList.drop (k * 6 + news.length)).toArray)) :
    if Region.wanted o (yielded ops a.tmps) = true then Oper.wp Tryz.prog o a w K Q else E := by
  have hw : Region.wanted o (yielded ops a.tmps) = true := by simp [Region.wanted, hgd]
  rw [if_pos hw]
  obtain ⟨i0, hi0, hz0, hz1, hz2⟩ := info_parts info28
  have hrun := run_append_room (P := Tryz.prog) w 34 o.type 28 i0 Tryz.underlying34 hi0 g k cap cur hg A m c2 news (by rw [hz1]; exact hl) hn h1 hroom (by rw [hz1]; exact hfit)
  rw [hz1] at hrun
  unfold Oper.wp
  simp only [execOp, ho, resolve, invoke, builtin, Sem.run_bind, Sem.run_pure, Result.andThen_ok, List.map_toArray, List.map_cons, List.map_nil, hs, hx, hrun]
  rw [← hp]
  exact h
/-- clear of elements of a row of tables: what stands ahead of them stands -/
theorem run_clear_idx (W : World) (ty : TypeId) (g p n c : Nat) (L R : List Value) (hp : L.length = p * 6) (hn : 0 < n) (hR : n * 6 ≤ R.length) (hg : W.heap[g]? = some (.cells (L ++ R).toArray 28 (0, 0))) :
    ∃ W', (Builtin.clear_ #[34] ty #[.slice (some ⟨g, p * 6, none⟩) n c]).run Tryz.prog W = .ok (.tuple #[]) W' ∧ W.grownBy W' (some g) ∧ ∃ R', W'.heap[g]? = some (.cells (L ++ R').toArray 28 (0, 0)) := by
  obtain ⟨vs, hvs⟩ : ∃ vs, vs = (Builtin.zeroCells (Value.agg #[.string ⟨#[]⟩, .string ⟨#[]⟩, .slice none 0 0, .int .i64 0, .int .i64 0, .int .i64 0]).cells n).toList := ⟨_, rfl⟩
  have hlen : vs.length = n * 6 := by
    rw [hvs, Array.length_toList]
    exact size_zeroCells _ n
  have hone : ∀ v ∈ vs, v.oneCell' = true := by
    intro v hv
    rw [hvs] at hv
    have hmem : ∀ (i : Nat) (h : i < (Builtin.zeroCells (Value.agg #[.string ⟨#[]⟩, .string ⟨#[]⟩, .slice none 0 0, .int .i64 0, .int .i64 0, .int .i64 0]).cells n).toList.length), ((Builtin.zeroCells (Value.agg #[.string ⟨#[]⟩, .string ⟨#[]⟩, .slice none 0 0, .int .i64 0, .int .i64 0, .int .i64 0]).cells n).toList[i]).oneCell' = true := by
      intro i h
      simp only [Builtin.zeroCells, Value.cells] at h ⊢
      simp only [Array.getElem_toList]
      have hm := Nat.mod_lt i (by decide : 0 < 6)
      generalize hq : i % 6 = q at hm
      simp [hq]
      match q, hm with
      | 0, _ => rfl
      | 1, _ => rfl
      | 2, _ => rfl
      | 3, _ => rfl
      | 4, _ => rfl
      | 5, _ => rfl
    obtain ⟨i, hi, rfl⟩ := List.mem_iff_getElem.1 hv
    exact hmem i hi
  have hst := run_storeCells_at (P := Tryz.prog) g (p * 6) 28 vs 0 (L ++ R).toArray W hg (by simp; omega) hone
  refine ⟨W.setRow g ((L ++ R).toArray.toList.take (p * 6 + 0) ++ vs ++ (L ++ R).toArray.toList.drop (p * 6 + 0 + vs.length)).toArray, ?_, grown_row W g _, vs ++ R.drop (n * 6), ?_⟩
  · obtain ⟨m, rfl⟩ : ∃ m, n = m + 1 := ⟨n - 1, by omega⟩
    simp only [Builtin.clear_]
    simp [run_underlying Tryz.underlying34, ← hvs, hst]
  · rw [setRow_heap W g _ _ 28 _ hg]
    congr 2
    simp only [Nat.add_zero]
    rw [show p * 6 = L.length from hp.symm, List.take_left', hlen]
    · simp [List.drop_append]
    · rfl
theorem idxs_one (l : List Idx) : ∀ u ∈ (l.map idxL).flatten, u.oneCell' = true := by
  intro u hu
  obtain ⟨x, hx, hu⟩ := List.mem_flatten.1 hu
  obtain ⟨c, _, rfl⟩ := List.mem_map.1 hx
  exact idx_one c u hu
theorem idxs_len (l : List Idx) : (l.map idxL).flatten.length = l.length * 6 := by rw [flat_len (idx_len l), List.length_map]
/-- what Delete answers -/
def DelX (w : World) (g cap n : Nat) (l : List Idx) (e : Ending) (w' : World) : Prop := e = .returned (.slice (some ⟨g, 0, none⟩) n cap) ∧ RowX w' g l ∧ w.grownBy w' (some g)
set_option maxRecDepth 100000 in
set_option maxHeartbeats 8000000 in
theorem del_idx (g cap n k : Nat) (l : List Idx) (w : World) (h : RowX w g l) (hl : l.length = n) (hk : k < n) (hc : n ≤ cap) (_hc2 : cap ≤ maxLen) :
    Calls Tryz.prog 67 #[.slice (some ⟨g, 0, none⟩) n cap, .int .i64 (k : Int), .int .i64 ((k : Int) + 1)] w (DelX w g cap (n - 1) (l.eraseIdx k)) := by
  obtain ⟨j, hj⟩ : ∃ j, j = k + 1 := ⟨_, rfl⟩
  have hjj : ((k : Int) + 1) = (j : Int) := by omega
  rw [hjj]
  obtain ⟨rest, hr⟩ := h
  obtain ⟨news, hnews⟩ : ∃ news, news = ((l.drop j).map idxL).flatten := ⟨_, rfl⟩
  have hlen : news.length = (n - j) * 6 := by rw [hnews, idxs_len, List.length_drop, hl]
  obtain ⟨L, hL⟩ : ∃ L, L = ((l.take k).map idxL).flatten := ⟨_, rfl⟩
  have hLl : L.length = k * 6 := by rw [hL, idxs_len, List.length_take, hl, Nat.min_eq_left (by omega)]
  obtain ⟨tk, htk⟩ : ∃ tk, l = l.take k ++ tk :: l.drop j := by
    subst hj
    exact ⟨l[k]'(by omega), by rw [← List.drop_eq_getElem_cons (by omega), List.take_append_drop]⟩
  have hrow : (l.map idxL).flatten ++ rest = L ++ (idxL tk ++ (news ++ rest)) := by
    conv => lhs; rw [htk]
    rw [hL, hnews]
    simp
  have hera : l.eraseIdx k = l.take k ++ l.drop j := by rw [hj, List.eraseIdx_eq_take_drop_succ]
  obtain ⟨cur, hcur⟩ : ∃ cur : Array Value, cur = (L ++ (idxL tk ++ (news ++ rest))).toArray := ⟨_, rfl⟩
  rw [hrow, ← hcur] at hr
  have hcs : cur.size = k * 6 + 6 + (n - j) * 6 + rest.length := by
    rw [hcur]
    simp [hLl, hlen, idxL]
    omega
  obtain ⟨W1, hW1⟩ : ∃ W1, W1 = w.drew.setRow g (cur.toList.take (k * 6) ++ news ++ cur.toList.drop (k * 6 + news.length)).toArray := ⟨_, rfl⟩
  have hrd : w.drew.heap[g]? = some (.cells cur 28 (0, 0)) := hr
  obtain ⟨p, hp⟩ : ∃ p, p = k + (n - j) := ⟨_, rfl⟩
  have hp1 : p = n - 1 := by omega
  have hW1r : ∃ R, W1.heap[g]? = some (.cells (((l.eraseIdx k).map idxL).flatten ++ R).toArray 28 (0, 0)) ∧ 6 ≤ R.length := by
    refine ⟨cur.toList.drop (k * 6 + news.length), ?_, ?_⟩
    · rw [hW1, setRow_heap w.drew g _ _ 28 _ hrd, hera]
      congr 2
      rw [hcur]
      simp only [List.take_left' hLl]
      rw [hL, hnews]
      simp
    · rw [List.length_drop, Array.length_toList, hcs, hlen]; omega
  obtain ⟨R, hR, hR5⟩ := hW1r
  have hlen2 : ((l.eraseIdx k).map idxL).flatten.length = p * 6 := by rw [idxs_len, List.length_eraseIdx, hl, if_pos hk, hp1]
  have hg1 : w.grownBy W1 (some g) := by
    rw [hW1]
    exact (grown_of_below ((Below.refl _ w).drew) (some g)).trans (grown_row _ _ _)
  have hclr : ∀ ty, ∃ W2, (Builtin.clear_ #[34] ty #[.slice (some ⟨g, p * 6, none⟩) (n - p) (cap - p)]).run Tryz.prog W1 = .ok (.tuple #[]) W2 ∧ DelX w g cap p (l.eraseIdx k) (.returned (.slice (some ⟨g, 0, none⟩) p cap)) W2 := fun ty => by
    obtain ⟨W2, h1, h2, R', h3⟩ := run_clear_idx W1 ty g p (n - p) (cap - p) _ R hlen2 (by omega) (by omega) hR
    exact ⟨W2, h1, rfl, ⟨R', h3⟩, hg1.trans h2⟩
  obtain ⟨A, hA, hsrc⟩ : ∃ A : Addr, (if cap = j then (some ⟨g, 0, none⟩ : Option Addr) else some ⟨g, j * 6, none⟩) = some A ∧ Hid (∀ i u, news[i]? = some u → w.drew.cell? (A.add i) = some u) := by
    by_cases h : cap = j
    · refine ⟨⟨g, 0, none⟩, by simp [h], fun i u hu => ?_⟩
      have h0 : news.length = 0 := by rw [hlen]; omega
      rw [List.length_eq_zero_iff.1 h0] at hu
      simp at hu
    · refine ⟨⟨g, j * 6, none⟩, by simp [h], fun i u hu => ?_⟩
      rw [Addr.add_lit]
      refine (cell_of_row w.drew g _ _ _ _ hrd).trans ?_
      rw [hcur, List.getElem?_toArray, List.getElem?_append_right (by omega), hLl, List.getElem?_append_right (by simp [idxL]; omega)]
      have hi := (List.getElem?_eq_some_iff.1 hu).1
      rw [show j * 6 + i - k * 6 - (idxL tk).length = i by simp [idxL]; omega, List.getElem?_append_left hi]
      exact hu
  have HSRC := hsrc
  have HR := Lib.hid hrd
  have HNL := Lib.hid hlen
  have HN1 := Lib.hid (show ∀ u ∈ news, u.oneCell' = true by rw [hnews]; exact idxs_one _)
  have HFIT := Lib.hid (show k * 6 + news.length ≤ cur.size by rw [hcs, hlen]; omega)
  have HW := Lib.hid hW1
  have HCL := Lib.hid hclr
  have e1 : ((k : Int) == (j : Int)) = false := beq_eq_false_iff_ne.2 (by omega)
  have hkc : k ≤ cap := by omega
  have hjc : j ≤ cap := by omega
  have hkj : k ≤ j := by omega
  have hjn : j ≤ n := by omega
  have hpn : p ≤ n := by omega
  have hP1 := Lib.hid hp1
  have hP := Lib.hid hp
  have hroom : k + (n - j) ≤ cap := by omega
  have hcpp : ¬ cap = p := by omega
  unfold maxLen at _hc2
  generalize l.eraseIdx k = LL at HCL ⊢
  rw [← hp1]
  clear hl hnews hL hLl htk hrow hera hcur hr hcs hW1 hrd hR hR5 hlen2 hg1 hclr hlen hsrc hjj hj hp hp1
  go_enter Tryz.func67, Tryz.ntmps67
  go_wp2_with fail
  go_region_law (first
    | (refine step_cutX _ (by rfl) (.tmp 22) (.tmp 25) (by rfl) g k (n - j) p cap (cap - j) A cur news (by simp [Act.eval, Act.put]) (by simp [Act.eval, Act.put]) hP.out HR.out HNL.out HSRC.out HN1.out hroom HFIT.out ?_
       rw [← HW.out])
    | fail)
  all_goals
    obtain ⟨W2, hcl, hq⟩ := HCL.out 0
    have HQ2 := Lib.hid hq
    have hcp : ¬ cap = p := hcpp
    clear hq
    go_wp2_with fail
    go_ret
    exact HQ2.out
end Go.Proofs.YtcgpflkaejbkhaaGreatDoor
namespace Go.Proofs.YtcgpflkaejbkhaaGreatDoor
open Go.RowKit

theorem RowX.set' {W : World} {g k : Nat} {l : List Idx} (h : RowX W g l) (hk : k < l.length) (y : Idx) : RowX (setIdx W g (k * 6) y) g (l.set k y) := by
  obtain ⟨rest, hr⟩ := h
  have e : l = l.take k ++ l[k] :: l.drop (k + 1) := by rw [← List.drop_eq_getElem_cons hk, List.take_append_drop]
  have e1 : (l.map idxL).flatten ++ rest = ((l.take k).map idxL).flatten ++ idxL l[k] ++ (((l.drop (k + 1)).map idxL).flatten ++ rest) := by
    conv => lhs; rw [e]
    rw [List.map_append, List.map_cons, List.flatten_append, List.flatten_cons]
    simp only [List.append_assoc]
  have e2 : l.set k y = l.take k ++ y :: l.drop (k + 1) := by
    rw [List.set_eq_take_append_cons_drop, if_pos hk]
  rw [e1] at hr
  have h2 := setIdx_list y hr
  rw [flat_takeX l k (by omega)] at h2
  refine ⟨rest, ?_⟩
  rw [h2, e2]
  simp
set_option maxRecDepth 100000 in
set_option maxHeartbeats 2000000 in
theorem same_tab66 (t : Idx) (b : Nat) (nm : ByteArray) (W : World) (h : W.cell? ⟨b, 0, none⟩ = some (.string nm)) : Calls Tryz.prog 66 (#[.agg (idxL t).toArray] ++ #[.pointer (some ⟨b, 0, none⟩)]) W (RetV (.bool (sameN t.table nm)) W) := by
  obtain ⟨tn, tt, ta, tl, tc, tr, tx, ts⟩ := t
  show Calls Tryz.prog 66 #[.agg #[.string tn, .string tt, .slice ta tl tc, .int .i64 tr, .int .i64 tx, .int .i64 ts], .pointer (some ⟨b, 0, none⟩)] W (RetV (.bool (sameN tt nm)) W)
  have HB := Lib.hid (show (tt.toList == nm.toList) = sameN tt nm from rfl)
  have h2 := cell_kept h (below1 W (.cells #[.string tn, .string tt, .slice ta tl tc, .int .i64 tr, .int .i64 tx, .int .i64 ts] 28))
  go_enter Tryz.func66, Tryz.ntmps66
  go_wp2_with fail
  go_ret
  exact ⟨ret_b HB.out, below1 W _⟩
theorem index66 (b : Nat) (nm : ByteArray) (A : Option Addr) (c n : Nat) (l : List Idx) (w : World) (h : IdxsAt w A l) (hn : n = l.length) (hb : w.cell? ⟨b, 0, none⟩ = some (.string nm)) : Calls Tryz.prog 40 #[.slice A n c, .func (.func 66) #[] #[.pointer (some ⟨b, 0, none⟩)]] w (FirstP (tnameAt l nm) n w) := by
  subst hn
  have h1 := index_idx (tnameAt l nm) 66 #[.pointer (some ⟨b, 0, none⟩)] (Go.Proofs.enters_of Tryz.func66 (by kernel_rfl) rfl) A c (l.map idxL) w h (fun j x hx W2 hB2 => by
    rw [List.getElem?_map, Option.map_eq_some_iff] at hx
    obtain ⟨t, ht, rfl⟩ := hx
    have e : tnameAt l nm j = sameN t.table nm := by unfold tnameAt; rw [ht]
    rw [e]
    exact same_tab66 t b nm W2 (cell_kept hb hB2))
  rw [List.length_map] at h1
  exact h1
/-- what DeleteFunc answers -/
def DelFP (w : World) (base : Nat) (A : Option Addr) (cap : Nat) (l : List Idx) (g : Option Nat) (e : Ending) (w' : World) : Prop := e = .returned (.slice A l.length cap) ∧ RowsAt w' base 28 l.length (.slice A l.length cap) (l.map idxL).flatten ∧ w.grownBy w' g
set_option maxRecDepth 100000 in
set_option maxHeartbeats 16000000 in
theorem delf_any (base b : Nat) (nm : ByteArray) (A : Option Addr) (cap n : Nat) (l : List Idx) (w : World) (h : RowsAt w base 28 n (.slice A n cap) (l.map idxL).flatten) (hn : n = l.length) (hl : l.length ≤ 1000) (hb : w.cell? ⟨b, 0, none⟩ = some (.string nm)) (hbg : (Value.slice A n cap).ownBlock ≠ some b) :
    Calls Tryz.prog 65 #[.slice A n cap, .func (.func 66) #[] #[.pointer (some ⟨b, 0, none⟩)]] w (DelFP w base A cap (l.filter fun t => !sameN t.table nm) (Value.slice A n cap).ownBlock) := by
  have hcells := RowsAt.cells h (by omega : 0 < 6) (idx_len l) (by rw [List.length_map]; exact hl)
  obtain ⟨P, hP⟩ : ∃ P, P = tnameAt l nm := ⟨_, rfl⟩
  have hPj : ∀ (j : Nat) (hj : j < l.length), P j = sameN (l[j].table) nm := fun j hj => by rw [hP]; unfold tnameAt; rw [List.getElem?_eq_getElem hj]
  have HIX := Lib.hid (show Calls Tryz.prog 40 #[.slice A n cap, .func (.func 66) #[] #[.pointer (some ⟨b, 0, none⟩)]] w fun e w' => ∃ r : Int, e = .returned (.int .i64 r) ∧ ((r = -1 ∧ (l.filter fun t => !sameN t.table nm) = l) ∨ ∃ k : Nat, r = k ∧ k < n ∧ ((k : Int) == -1) = false ∧ l.take k = (l.take (k + 1)).filter (fun t => !sameN t.table nm)) ∧ Below w.heap.size w w' from
    (index66 b nm A cap n l w hcells.1 hn hb).mono (fun e w' ⟨r, h1, h2, h3⟩ => ⟨r, h1, by
      rw [← hP] at h2
      rcases h2 with ⟨k, hk, rfl, hp, hq⟩ | ⟨rfl, hq⟩
      · refine Or.inr ⟨k, rfl, hk, beq_eq_false_iff_ne.2 (by omega), ?_⟩
        have hkl : k < l.length := by omega
        rw [List.take_succ_eq_append_getElem hkl, List.filter_append]
        have h1 : (l.take k).filter (fun t => !sameN t.table nm) = l.take k := by
          rw [List.filter_eq_self]
          intro a ha
          obtain ⟨i, hi, rfl⟩ := List.mem_iff_getElem.1 ha
          rw [List.length_take] at hi
          have := hq i (by omega)
          rw [hPj i (by omega)] at this
          rw [List.getElem_take, this]
          rfl
        have h2 : [l[k]].filter (fun t => !sameN t.table nm) = [] := by
          rw [hPj k hkl] at hp
          simp [hp]
        rw [h1, h2, List.append_nil]
      · refine Or.inl ⟨rfl, ?_⟩
        rw [List.filter_eq_self]
        intro a ha
        obtain ⟨i, hi, rfl⟩ := List.mem_iff_getElem.1 ha
        have := hq i (by omega)
        rw [hPj i hi] at this
        rw [this]
        rfl, h3⟩))
  have HFULL := Lib.hid (show ∀ w', Below w.heap.size w w' → (l.filter fun t => !sameN t.table nm) = l → DelFP w base A cap (l.filter fun t => !sameN t.table nm) (Value.slice A n cap).ownBlock (.returned (.slice A n cap)) w' from fun w' hB he => by
    rw [he]
    refine ⟨by rw [hn], ?_, grown_of_below hB _⟩
    rw [← hn]
    exact h.grown (grown_of_below hB none) (fun k _ e => by cases e))
  have HROW := Lib.hid (show 0 < n → ∃ g, A = some ⟨g, 0, none⟩ ∧ RowX w g l ∧ n ≤ cap ∧ base ≤ g from fun h0 => by
    rcases h with ⟨e1, e2, e3⟩ | ⟨g, cap', rest, e1, e2, e3, e4⟩
    · omega
    · cases e1
      exact ⟨g, rfl, ⟨rest, e4⟩, e3, e2⟩)
  have HBX := Lib.hid hb
  have HBG := Lib.hid hbg
  have HN := Lib.hid hn
  have eg : ∀ args w, (callFunc 66 args).run Tryz.prog w = .ok (.enter 66 args) w := Go.Proofs.enters_of Tryz.func66 (by kernel_rfl) rfl
  generalize hF : (l.filter fun t => !sameN t.table nm) = F at HIX HFULL ⊢
  have HF := Lib.hid hF
  have hn2 : n ≤ 1000 := by omega
  have HC66 := Lib.hid (show ∀ (x : Idx) (W : World), W.cell? ⟨b, 0, none⟩ = some (.string nm) → Calls Tryz.prog 66 (#[.agg #[.string x.name, .string x.table, .slice x.pa x.pn x.pc, .int .i64 x.state, .int .i64 x.root, .int .i64 x.cursor]] ++ #[.pointer (some ⟨b, 0, none⟩)]) W (RetV (.bool (sameN x.table nm)) W) from fun x W h => same_tab66 x b nm W h)
  obtain ⟨gf, hgf⟩ : ∃ gf : Nat, gf = 66 := ⟨_, rfl⟩
  rw [← hgf] at HIX eg HC66 ⊢
  clear hgf
  clear hcells h hP hPj hb hbg hF hl hn
  go_enter Tryz.func65, Tryz.ntmps65
  go_wp2_with (first
    | (go_at_call 40; (with_reducible refine HIX.out.mono ?_); rintro e w2 ⟨r, rfl, hr, hB2⟩
       have HB2 := Lib.hid hB2
       clear hB2
       rcases hr with ⟨rfl, he⟩ | ⟨k, rfl, hk, hkm, htk⟩)
    | fail)
  · have HQ := Lib.hid (HFULL.out _ HB2.out he)
    clear he
    go_ret
    exact HQ.out
  obtain ⟨g, rfl, hrow, hnc, hbase⟩ := HROW.out (by omega)
  have HST := Lib.hid (show SortX w g n l w2 from ⟨hrow.keep HB2.out, grown_of_below HB2.out _, HN.out.symm⟩)
  have HTK := Lib.hid htk
  have HBS := Lib.hid hbase
  have HBN := Lib.hid (show b ≠ g from fun e => HBG.out (by rw [e]; rfl))
  clear hrow htk hbase
  go_loopw [5, 6] (fun a c wr => ∃ (i j : Nat) (q : List Idx), i < j ∧ j ≤ n ∧ a = .int .i64 i ∧ c = .int .i64 j ∧ Hid (SortX w g n q wr) ∧ Hid (q.take i = (l.take j).filter (fun t => !sameN t.table nm)) ∧ Hid (q.drop j = l.drop j)) (fun _ c _ => n - (intOf c).toNat)
  case atStart => exact ⟨k, k + 1, l, by omega, by omega, rfl, by go_num, HST, HTK, Lib.hid rfl⟩
  case round =>
    obtain ⟨i, j, q, hij, hj, rfl, rfl, HS, HT, HD⟩ := hrel
    obtain ⟨wo, rfl⟩ : ∃ wo : World, wo = wr := ⟨_, rfl⟩
    obtain ⟨hrow, hgrown, hlen⟩ := HS.out
    have HROW2 := Lib.hid hrow
    have HLEN := Lib.hid hlen
    by_cases hjn : j < n
    · obtain ⟨x, hx⟩ : ∃ x, q[j]? = some x := ⟨_, List.getElem?_eq_getElem (by omega)⟩
      obtain ⟨y, hy⟩ : ∃ y, q[i]? = some y := ⟨_, List.getElem?_eq_getElem (by omega)⟩
      have HX := Lib.hid hx
      have hxl : l[j]? = some x := by
        have h1 : (q.drop j)[0]? = some x := by rw [List.getElem?_drop, Nat.add_zero]; exact hx
        rw [HD.out, List.getElem?_drop, Nat.add_zero] at h1
        exact h1
      have HXL := Lib.hid hxl
      have hdn : q.drop (j + 1) = l.drop (j + 1) := by
        have h1 := congrArg (List.drop 1) HD.out
        rwa [List.drop_drop, List.drop_drop] at h1
      have HDN := Lib.hid hdn
      have htn : (l.take (j + 1)).filter (fun t => !sameN t.table nm) = q.take i ++ [x].filter (fun t => !sameN t.table nm) := by
        obtain ⟨h1, h2⟩ := List.getElem?_eq_some_iff.1 hxl
        rw [List.take_succ_eq_append_getElem h1, List.filter_append, HT.out, h2]
      have HTN := Lib.hid htn
      have k0 : wo.cell? ⟨g, j * 6, none⟩ = some (.string x.name) := hrow.cell hx (i := 0) rfl
      have k1 : wo.cell? ⟨g, j * 6 + 1, none⟩ = some (.string x.table) := hrow.cell hx (i := 1) rfl
      have k2 : wo.cell? ⟨g, j * 6 + 2, none⟩ = some (.slice x.pa x.pn x.pc) := hrow.cell hx (i := 2) rfl
      have k3 : wo.cell? ⟨g, j * 6 + 3, none⟩ = some (.int .i64 x.state) := hrow.cell hx (i := 3) rfl
      have k4 : wo.cell? ⟨g, j * 6 + 4, none⟩ = some (.int .i64 x.root) := hrow.cell hx (i := 4) rfl
      have k5 : wo.cell? ⟨g, j * 6 + 5, none⟩ = some (.int .i64 x.cursor) := hrow.cell hx (i := 5) rfl
      have HBC := Lib.hid (show wo.cell? ⟨b, 0, none⟩ = some (.string nm) from hgrown.cell HBX.out (fun e => HBN.out (Option.some.inj e)))
      have HQ4 := Lib.hid (heap_alloc_new wo (.cells #[.string x.name, .string x.table, .slice x.pa x.pn x.pc, .int .i64 x.state, .int .i64 x.root, .int .i64 x.cursor] 28))
      have HB4 := Lib.hid (below1 wo (.cells #[.string x.name, .string x.table, .slice x.pa x.pn x.pc, .int .i64 x.state, .int .i64 x.root, .int .i64 x.cursor] 28))
      obtain ⟨f, hf⟩ : ∃ f, f = sameN x.table nm := ⟨_, rfl⟩
      have HCF := Lib.hid (show ∀ W, Below wo.heap.size wo W → Calls Tryz.prog gf #[.agg #[.string x.name, .string x.table, .slice x.pa x.pn x.pc, .int .i64 x.state, .int .i64 x.root, .int .i64 x.cursor], .pointer (some ⟨b, 0, none⟩)] W (RetV (.bool f) W) from fun W hB => by rw [hf]; exact HC66.out x W (cell_kept HBC.out hB))
      have HFF := Lib.hid hf
      have hjj : ((j : Int) < (n : Int)) = True := eq_true (by omega)
      have hii : i < n := by omega
      have HY := Lib.hid hy
      clear hrow hgrown hlen hx hy hxl hdn htn hf
      cases f with
      | true =>
        go_wp2_with (first
          | (go_at_fn gf; (with_reducible refine (HCF.out _ HB4.out).mono ?_); rintro e w5 ⟨rfl, hB5⟩
             have HB5 := Lib.hid (HB4.out.trans (hB5.mono HB4.out.size))
             clear hB5)
          | fail)
        go_roundw
        case rel => exact ⟨i, j + 1, q, by omega, by omega, rfl, by go_num, Lib.hid (HS.out.keep HB5.out), Lib.hid (by rw [HTN.out]; simp [← HFF.out]), HDN⟩
        case measure => simp [intOf] <;> omega
      | false =>
        go_wp2_with (first
          | (go_at_fn gf; (with_reducible refine (HCF.out _ HB4.out).mono ?_); rintro e w5 ⟨rfl, hB5⟩
             have HB5 := Lib.hid (HB4.out.trans (hB5.mono HB4.out.size))
             have hq5 := (hB5.block wo.heap.size (by simp)).trans HQ4.out
             have b0 := cell_of_row _ _ 0 _ _ _ hq5
             have b1 := cell_of_row _ _ 1 _ _ _ hq5
             have b2 := cell_of_row _ _ 2 _ _ _ hq5
             have b3 := cell_of_row _ _ 3 _ _ _ hq5
             have b4 := cell_of_row _ _ 4 _ _ _ hq5
             have b5 := cell_of_row _ _ 5 _ _ _ hq5
             have HS5 := Lib.hid (HS.out.keep HB5.out)
             have z0 := HS5.out.1.free (i * 6)
             have z1 := HS5.out.1.free (i * 6 + 1)
             have z2 := HS5.out.1.free (i * 6 + 2)
             have z3 := HS5.out.1.free (i * 6 + 3)
             have z4 := HS5.out.1.free (i * 6 + 4)
             have z5 := HS5.out.1.free (i * 6 + 5)
             have y0 : w5.cell? ⟨g, i * 6, none⟩ = some (.string y.name) := HS5.out.1.cell HY.out (i := 0) rfl
             have y1 : w5.cell? ⟨g, i * 6 + 1, none⟩ = some (.string y.table) := HS5.out.1.cell HY.out (i := 1) rfl
             have y2 : w5.cell? ⟨g, i * 6 + 2, none⟩ = some (.slice y.pa y.pn y.pc) := HS5.out.1.cell HY.out (i := 2) rfl
             have y3 : w5.cell? ⟨g, i * 6 + 3, none⟩ = some (.int .i64 y.state) := HS5.out.1.cell HY.out (i := 3) rfl
             have y4 : w5.cell? ⟨g, i * 6 + 4, none⟩ = some (.int .i64 y.root) := HS5.out.1.cell HY.out (i := 4) rfl
             have y5 : w5.cell? ⟨g, i * 6 + 5, none⟩ = some (.int .i64 y.cursor) := HS5.out.1.cell HY.out (i := 5) rfl
             have hkd : SortX w g n (q.set i x) (setIdx w5 g (i * 6) x) := ⟨HS5.out.1.set' (by rw [HLEN.out]; exact hii) x, HS5.out.2.1.trans (setIdx_grown _ _ _ _), by rw [List.length_set]; exact HLEN.out⟩
             dsimp only [setIdx] at hkd
             have HKD := Lib.hid hkd
             clear hB5 hq5 hkd)
          | fail)
        go_roundw
        case rel => exact ⟨i + 1, j + 1, q.set i x, by omega, by omega, by go_num, by go_num, HKD, Lib.hid (by
          rw [HTN.out, List.take_succ_eq_append_getElem (by rw [List.length_set, HLEN.out]; exact hii), List.getElem_set_self, List.take_set_of_le (Nat.le_refl _)]
          simp [← HFF.out]), Lib.hid (by rw [List.drop_set_of_lt (by omega)]; exact HDN.out)⟩
        case measure => simp [intOf] <;> omega
    · obtain rfl : j = n := by omega
      obtain ⟨rest, hr⟩ := hrow
      have hFq : q.take i = F := by rw [HT.out, HN.out, List.take_length]; exact HF.out
      have hFl : F.length = i := by rw [← hFq, List.length_take, hlen]; omega
      have hrr : (q.map idxL).flatten ++ rest = (F.map idxL).flatten ++ (((q.drop i).map idxL).flatten ++ rest) := by
        rw [← hFq, ← List.append_assoc, ← List.flatten_append, ← List.map_append, List.take_append_drop]
      rw [hrr] at hr
      obtain ⟨W2, hcl, hg2, R', hR'⟩ := run_clear_idx wo 0 g i (j - i) (cap - i) _ _ (by rw [idxs_len, hFl]) (by omega) (by rw [List.length_append, idxs_len, List.length_drop, hlen]; omega) hr
      have HFIN := Lib.hid (show DelFP w base (some ⟨g, 0, none⟩) cap F (Value.slice (some ⟨g, 0, none⟩) j cap).ownBlock (.returned (.slice (some ⟨g, 0, none⟩) i cap)) W2 from by
        refine ⟨by rw [hFl], ?_, hgrown.trans hg2⟩
        rw [hFl]
        exact Or.inr ⟨g, cap, R', rfl, HBS.out, by omega, hR'⟩)
      have hci : ¬ cap = i := by omega
      have hic : i ≤ cap := by omega
      have hin : i ≤ j := by omega
      clear hr hrr hFq hFl hlen hgrown hg2 hR'
      go_wp2_with fail
      go_ret
      exact HFIN.out
end Go.Proofs.YtcgpflkaejbkhaaGreatDoor
namespace Go.Proofs.YtcgpflkaejbkhaaGreatDoor
open Go.RowKit

theorem own_cap {w : World} {base e size n cap : Nat} {A : Option Addr} {xs : List Value} (h : w.ownsRow base e size (.slice A n cap) n xs) : cap ≤ maxLen := by
  rcases h.2 with ⟨e1, _⟩ | ⟨g, cap', cur, e1, _, _, _, h5, _⟩
  · cases e1; exact Nat.zero_le _
  · cases e1; exact h5
theorem List.eraseIdx_map_gen {α β : Type} (f : α → β) (l : List α) (k : Nat) : (l.eraseIdx k).map f = (l.map f).eraseIdx k := by
  rw [List.eraseIdx_eq_take_drop_succ, List.eraseIdx_eq_take_drop_succ, List.map_append, List.map_take, List.map_drop]
theorem List.eraseIdx_map_fst {α β : Type} (l : List (α × β)) (k : Nat) : (l.eraseIdx k).map Prod.fst = (l.map Prod.fst).eraseIdx k := List.eraseIdx_map_gen _ _ _
theorem filter_fst (nm : ByteArray) (xs : List (Idx × List Int)) : (xs.map Prod.fst).filter (fun t => !sameN t.table nm) = (xs.filter fun p => !sameN p.1.table nm).map Prod.fst := by
  rw [List.filter_map]
  rfl
theorem filter_px (nm : ByteArray) (xs : List (Idx × List Int)) : (xs.filter fun p => !sameN p.1.table nm).map pxOf = (xs.map pxOf).filter fun x => !sameN x.table nm := by
  rw [List.filter_map]
  rfl
/-- the boxes of DropL -/
structure DropL (w : World) (A : Option Addr) (n c : Nat) (ia : Option Addr) (il ic : Nat) (nm : ByteArray) (W : World) : Prop where
  below : Below w.heap.size w W
  sch : W.heap[w.heap.size]? = some (.cells #[.slice A n c, .slice ia il ic] 36)
  nam : W.heap[w.heap.size + 1]? = some (.cells #[.string nm] 9)
  ans : W.heap[w.heap.size + 1 + 1]? = some (.cells #[.slice none 0 0, .slice none 0 0] 36)
theorem DropL.keep {w : World} {A : Option Addr} {n c : Nat} {ia : Option Addr} {il ic : Nat} {nm : ByteArray} {W W' : World} (h : DropL w A n c ia il ic nm W) (hB : Below W.heap.size W W') : DropL w A n c ia il ic nm W' :=
  ⟨h.below.trans (hB.mono h.below.size), (hB.block _ (heap_lt h.sch)).trans h.sch, (hB.block _ (heap_lt h.nam)).trans h.nam, (hB.block _ (heap_lt h.ans)).trans h.ans⟩
theorem DropL.start (w : World) (A : Option Addr) (n c : Nat) (ia : Option Addr) (il ic : Nat) (nm : ByteArray) : DropL w A n c ia il ic nm (((w.alloc (.cells #[.slice A n c, .slice ia il ic] 36)).alloc (.cells #[.string nm] 9)).alloc (.cells #[.slice none 0 0, .slice none 0 0] 36)) := by
  refine ⟨((below1 w _).alloc (by simp) _).alloc (by simp; omega) _, ?_, ?_, ?_⟩
  · rw [heap_alloc_old _ _ (by simp; omega), heap_alloc_old _ _ (by simp)]; exact heap_alloc_new w _
  · rw [heap_alloc_old _ _ (by simp)]
    have := heap_alloc_new (w.alloc (.cells #[.slice A n c, .slice ia il ic] 36)) (.cells #[.string nm] 9)
    rwa [World.size_alloc] at this
  · have := heap_alloc_new ((w.alloc (.cells #[.slice A n c, .slice ia il ic] 36)).alloc (.cells #[.string nm] 9)) (.cells #[.slice none 0 0, .slice none 0 0] 36)
    rwa [World.size_alloc, World.size_alloc] at this
theorem DropL.done {w : World} {A : Option Addr} {n c : Nat} {ia : Option Addr} {il ic : Nat} {nm : ByteArray} {W : World} (h : DropL w A n c ia il ic nm W) (x y : Value) : Below w.heap.size w ((W.setCell ⟨w.heap.size + 1 + 1, 0, none⟩ x).setCell ⟨w.heap.size + 1 + 1, 1, none⟩ y) :=
  (h.below.setCell (p := ⟨w.heap.size + 1 + 1, 0, none⟩) (by show w.heap.size ≤ w.heap.size + 1 + 1; omega) _).setCell (p := ⟨w.heap.size + 1 + 1, 1, none⟩) (by show w.heap.size ≤ w.heap.size + 1 + 1; omega) _
/-- the boxes of DropXL -/
structure DropXL (w : World) (A : Option Addr) (n c : Nat) (ia : Option Addr) (il ic : Nat) (nm : ByteArray) (W : World) : Prop where
  below : Below w.heap.size w W
  sch : W.heap[w.heap.size]? = some (.cells #[.slice A n c, .slice ia il ic] 36)
  ans : W.heap[w.heap.size + 1]? = some (.cells #[.slice none 0 0, .slice none 0 0] 36)
theorem DropXL.keep {w : World} {A : Option Addr} {n c : Nat} {ia : Option Addr} {il ic : Nat} {nm : ByteArray} {W W' : World} (h : DropXL w A n c ia il ic nm W) (hB : Below W.heap.size W W') : DropXL w A n c ia il ic nm W' :=
  ⟨h.below.trans (hB.mono h.below.size), (hB.block _ (heap_lt h.sch)).trans h.sch, (hB.block _ (heap_lt h.ans)).trans h.ans⟩
theorem DropXL.start (w : World) (A : Option Addr) (n c : Nat) (ia : Option Addr) (il ic : Nat) (nm : ByteArray) : DropXL w A n c ia il ic nm ((w.alloc (.cells #[.slice A n c, .slice ia il ic] 36)).alloc (.cells #[.slice none 0 0, .slice none 0 0] 36)) := by
  refine ⟨(below1 w _).alloc (by simp) _, ?_, ?_⟩
  · rw [heap_alloc_old _ _ (by simp)]; exact heap_alloc_new w _
  · have := heap_alloc_new (w.alloc (.cells #[.slice A n c, .slice ia il ic] 36)) (.cells #[.slice none 0 0, .slice none 0 0] 36)
    rwa [World.size_alloc] at this
theorem DropXL.done {w : World} {A : Option Addr} {n c : Nat} {ia : Option Addr} {il ic : Nat} {nm : ByteArray} {W : World} (h : DropXL w A n c ia il ic nm W) (x y : Value) : Below w.heap.size w ((W.setCell ⟨w.heap.size + 1, 0, none⟩ x).setCell ⟨w.heap.size + 1, 1, none⟩ y) :=
  (h.below.setCell (p := ⟨w.heap.size + 1, 0, none⟩) (by show w.heap.size ≤ w.heap.size + 1; omega) _).setCell (p := ⟨w.heap.size + 1, 1, none⟩) (by show w.heap.size ≤ w.heap.size + 1; omega) _
set_option maxRecDepth 100000 in
set_option maxHeartbeats 16000000 in
theorem drop_none (A : Option Addr) (c : Nat) (ts : List (Tab × List Col)) (ia : Option Addr) (ic : Nat) (xs : List (Idx × List Int)) (nm : ByteArray) (w : World) (hD : DeepAt w A ts) (_hX : DeepIx w ia xs) (hk : findN PT.name (ts.map ptOf) nm = none) :
    Calls Tryz.prog 32 #[.agg #[.slice A ts.length c, .slice ia xs.length ic], .string nm] w (ErrP 130 w) := by
  have HST := Lib.hid (DropL.start w A ts.length c ia xs.length ic nm)
  have HTA := Lib.hid (show ∀ W, Below w.heap.size w W → Calls Tryz.prog 12 #[.agg #[.slice A ts.length c, .slice ia xs.length ic], .string nm] W (RetV (.int .i64 (placeI (findN PT.name (ts.map ptOf) nm))) W) from fun W hB => table_at A c ts ia xs.length ic nm W (DeepAt.keep hB hD))
  rw [hk] at HTA
  simp only [placeI] at HTA
  have r6 : ((-1 : Int) < 0) = True := eq_true (by omega)
  generalize ts.length = n at HST HTA ⊢
  generalize xs.length = mx at HST HTA ⊢
  clear hD _hX hk
  go_enter Tryz.func32, Tryz.ntmps32
  go_wp2_with (first
    | (go_at_call 12; (with_reducible refine (HTA.out _ HST.out.below).mono ?_); rintro e w3 ⟨rfl, hB3⟩
       have HK3 := Lib.hid (HST.out.keep hB3)
       have s0 := cell_of_row _ _ 0 _ _ _ HK3.out.sch
       have s1 := cell_of_row _ _ 1 _ _ _ HK3.out.sch
       have k0 := cell_of_row _ _ 0 _ _ _ HK3.out.nam
       have a0 := cell_of_row _ _ 0 _ _ _ HK3.out.ans
       have a1 := cell_of_row _ _ 1 _ _ _ HK3.out.ans
       have f0 := frozen_of_row _ _ 0 _ _ HK3.out.ans
       have f1 := frozen_of_row _ _ 1 _ _ HK3.out.ans
       clear hB3)
    | fail)
  exact bodyPost_ret (v := .tuple #[.agg #[.slice none 0 0, .slice none 0 0], .int .i64 130]) (by simp [results, Tryz.results32, go_sem, a0, a1]) rfl ⟨rfl, HK3.out.done _ _⟩
set_option maxRecDepth 100000 in
set_option maxHeartbeats 16000000 in
theorem dropx_none (A : Option Addr) (c : Nat) (ts : List (Tab × List Col)) (ia : Option Addr) (ic : Nat) (xs : List (Idx × List Int)) (nm : ByteArray) (w : World) (_hD : DeepAt w A ts) (hX : DeepIx w ia xs) (hk : findN PX.name (xs.map pxOf) nm = none) :
    Calls Tryz.prog 34 #[.agg #[.slice A ts.length c, .slice ia xs.length ic], .string nm] w (ErrP 2 w) := by
  have HST := Lib.hid (DropXL.start w A ts.length c ia xs.length ic nm)
  have HTA := Lib.hid (show ∀ W, Below w.heap.size w W → Calls Tryz.prog 14 #[.agg #[.slice A ts.length c, .slice ia xs.length ic], .string nm] W (RetV (.int .i64 (placeI (findN PX.name (xs.map pxOf) nm))) W) from fun W hB => index_at ia ic xs A ts.length c nm W (DeepIx.keep hB hX))
  rw [hk] at HTA
  simp only [placeI] at HTA
  have r6 : ((-1 : Int) < 0) = True := eq_true (by omega)
  generalize ts.length = n at HST HTA ⊢
  generalize xs.length = mx at HST HTA ⊢
  clear _hD hX hk
  go_enter Tryz.func34, Tryz.ntmps34
  go_wp2_with (first
    | (go_at_call 14; (with_reducible refine (HTA.out _ HST.out.below).mono ?_); rintro e w3 ⟨rfl, hB3⟩
       have HK3 := Lib.hid (HST.out.keep hB3)
       have s0 := cell_of_row _ _ 0 _ _ _ HK3.out.sch
       have s1 := cell_of_row _ _ 1 _ _ _ HK3.out.sch
       have a0 := cell_of_row _ _ 0 _ _ _ HK3.out.ans
       have a1 := cell_of_row _ _ 1 _ _ _ HK3.out.ans
       have f0 := frozen_of_row _ _ 0 _ _ HK3.out.ans
       have f1 := frozen_of_row _ _ 1 _ _ HK3.out.ans
       clear hB3)
    | fail)
  exact bodyPost_ret (v := .tuple #[.agg #[.slice none 0 0, .slice none 0 0], .int .i64 2]) (by simp [results, Tryz.results34, go_sem, a0, a1]) rfl ⟨rfl, HK3.out.done _ _⟩
set_option maxRecDepth 100000 in
set_option maxHeartbeats 16000000 in
theorem dropx_some (A : Option Addr) (c : Nat) (ts : List (Tab × List Col)) (ia : Option Addr) (ic : Nat) (xs : List (Idx × List Int)) (nm : ByteArray) (w : World) (hD : DeepAt w A ts) (hX : DeepIx w ia xs) (hn : ts.length ≤ 1000) (hm : xs.length ≤ 1000) (hl : ∀ p ∈ ts, p.2.length ≤ 1000) (hlx : ∀ p ∈ xs, p.2.length ≤ 1000) (k : Nat) (hk : findN PX.name (xs.map pxOf) nm = some k) :
    Calls Tryz.prog 34 #[.agg #[.slice A ts.length c, .slice ia xs.length ic], .string nm] w (OutP w 0 (ts.map ptOf) ((xs.map pxOf).eraseIdx k)) := by
  have HST := Lib.hid (DropXL.start w A ts.length c ia xs.length ic nm)
  have HTA := Lib.hid (show ∀ W, Below w.heap.size w W → Calls Tryz.prog 14 #[.agg #[.slice A ts.length c, .slice ia xs.length ic], .string nm] W (RetV (.int .i64 (placeI (findN PX.name (xs.map pxOf) nm))) W) from fun W hB => index_at ia ic xs A ts.length c nm W (DeepIx.keep hB hX))
  have hkl : k < xs.length := by have := findN_lt hk; rwa [List.length_map] at this
  rw [hk] at HTA
  simp only [placeI] at HTA
  have r6 : ((k : Int) < 0) = False := eq_false (by omega)
  have HCL := Lib.hid (show ∀ W, Below w.heap.size w W → Calls Tryz.prog 10 #[.agg #[.slice A ts.length c, .slice ia xs.length ic]] W (CloneO W ts xs) from fun W hB =>
    clones_own A c ts ia ic xs W (DeepAt.keep hB hD) (DeepIx.keep hB hX) hn hm hl hlx)
  obtain ⟨T, hT⟩ : ∃ T, T = ts.map ptOf := ⟨_, rfl⟩
  obtain ⟨X, hXX⟩ : ∃ X, X = xs.map pxOf := ⟨_, rfl⟩
  have HT := Lib.hid hT
  have HXX := Lib.hid hXX
  rw [← hT, ← hXX]
  obtain ⟨n, hnn⟩ : ∃ n, n = ts.length := ⟨_, rfl⟩
  obtain ⟨mx, hmm⟩ : ∃ mx, mx = xs.length := ⟨_, rfl⟩
  have HN := Lib.hid hnn
  have HM := Lib.hid hmm
  rw [← hnn] at HST HTA HCL hn 
  rw [← hmm] at HST HTA HCL hm hkl
  rw [← hnn, ← hmm]
  clear hD hX hk hl hlx hT hXX hnn hmm
  go_enter Tryz.func34, Tryz.ntmps34
  go_wp2_with (first
    | (go_at_call 14; (with_reducible refine (HTA.out _ HST.out.below).mono ?_); rintro e w3 ⟨rfl, hB3⟩
       have HK3 := Lib.hid (HST.out.keep hB3)
       have s0 := cell_of_row _ _ 0 _ _ _ HK3.out.sch
       have s1 := cell_of_row _ _ 1 _ _ _ HK3.out.sch
       have a0 := cell_of_row _ _ 0 _ _ _ HK3.out.ans
       have a1 := cell_of_row _ _ 1 _ _ _ HK3.out.ans
       have f0 := frozen_of_row _ _ 0 _ _ HK3.out.ans
       have f1 := frozen_of_row _ _ 1 _ _ HK3.out.ans
       clear hB3)
    | (go_at_call 10; (with_reducible refine (HCL.out _ HK3.out.below).mono ?_); rintro e w7 ⟨va, ua, vc, uc, ts', xs', rfl, hB7, hO, hp1, hp2, hownT, hownX, h63⟩
       have HK7 := Lib.hid (HK3.out.keep hB7)
       rw [← HN.out, ← HM.out] at hO
       have hcapT := hownT
       have hcapX := hownX
       rw [← HN.out] at hcapT
       rw [← HM.out] at hcapX
       have HOT := Lib.hid hcapT
       have HOX := Lib.hid hcapX
       have HO := Lib.hid hO
       have HS7 := Lib.hid hB7.size
       have HB3 := Lib.hid h63
       have HP1 := Lib.hid hp1
       have HP2 := Lib.hid hp2
       clear s0 s1 a0 a1 f0 f1
       rw [← HN.out, ← HM.out]
       clear hB7 hownT hownX hcapT hcapX hO hp1 hp2 h63
       have HL1 := Lib.hid (show ts'.length = n ∧ xs'.length = mx by
         have h1 := congrArg List.length HP1.out
         have h2 := congrArg List.length HP2.out
         rw [List.length_map, List.length_map] at h1 h2
         exact ⟨h1.trans HN.out.symm, h2.trans HM.out.symm⟩)
       have HK8 := Lib.hid (show DropXL w A n c ia mx ic nm (w7.alloc (.cells #[.slice va n vc, .slice ua mx uc] 36)) from HK7.out.keep (below1 w7 _))
       have HMID := Lib.hid (show MidS w (w.heap.size + 1) (w3.heap.size + 3) w7.heap.size (.slice va n vc) (.slice ua mx uc) ts' xs' (w7.alloc (.cells #[.slice va n vc, .slice ua mx uc] 36)) from by
         have h6 := heap_lt HK3.out.ans
         have h7 := HS7.out
         have h9 := heap_lt HK7.out.ans
         have hb0 := HO.out w7.heap.size (Nat.le_refl _)
         refine ⟨HK7.out.below.trans ((below1 w7 _).mono HK7.out.below.size), ?_, ?_, hb0.keep (below1 w7 _), by omega, by omega, HB3.out⟩
         · exact ((below1 w7 _).block _ h9).trans HK7.out.ans
         · exact heap_alloc_new w7 _)
       have m0 := cell_of_row _ _ 0 _ _ _ HMID.out.out
       have m1 := cell_of_row _ _ 1 _ _ _ HMID.out.out
       obtain ⟨g, rfl⟩ : ∃ g, ua = some ⟨g, 0, none⟩ := by
         rcases HOX.out.2 with ⟨_, h0⟩ | ⟨g, cap, cur, e, _⟩
         · omega
         · cases e
           exact ⟨g, rfl⟩
       have HRW := Lib.hid (show RowX (w7.alloc (.cells #[.slice va n vc, .slice (some ⟨g, 0, none⟩) mx uc] 36)) g (xs'.map Prod.fst) ∧ mx ≤ uc ∧ w3.heap.size + 3 ≤ g from by
         have h0 := HMID.out.own.idx
         rw [HL1.out.2] at h0
         exact h0.row_x)
       have HDEL := Lib.hid (show ∀ W, RowX W g (xs'.map Prod.fst) → Calls Tryz.prog 67 #[.slice (some ⟨g, 0, none⟩) mx uc, .int .i64 (k : Int), .int .i64 ((k : Int) + 1)] W (DelX W g uc (mx - 1) ((xs'.map Prod.fst).eraseIdx k)) from fun W h => del_idx g uc mx k _ W h (by rw [List.length_map]; exact HL1.out.2) hkl HRW.out.2.1 (own_cap HOX.out))
       have hk1 : IntKind.i64.wrap ((k : Int) + 1) = (k : Int) + 1 := IntWalk.i64_in _ (by omega))
    | (go_at_call 67; (with_reducible refine (HDEL.out _ HRW.out.1).mono ?_); rintro e w9 ⟨rfl, hr9, hg9⟩
       have HMA := Lib.hid (HMID.out.reidx (u' := .slice (some ⟨g, 0, none⟩) (mx - 1) uc) hg9 (Or.inl rfl) (xs' := xs'.eraseIdx k) (by
         rw [List.length_eraseIdx, HL1.out.2, if_pos hkl, List.eraseIdx_map_fst]
         exact hr9.at HRW.out.2.2 (by have := HRW.out.2.1; omega)) (fun p hp => HMID.out.own.places p (List.mem_of_mem_eraseIdx hp)))
       have z6 := cell_of_row _ _ 0 _ _ _ HMA.out.2
       have z7 := cell_of_row _ _ 1 _ _ _ HMA.out.2
       have g7 := frozen_of_row _ _ 1 _ _ HMA.out.2
       have y6 := cell_of_row _ _ 0 _ _ _ HMA.out.1.out
       have y7 := cell_of_row _ _ 1 _ _ _ HMA.out.1.out
       have q0 := cell_of_row _ _ 0 _ _ _ HMA.out.1.ans
       have q1 := cell_of_row _ _ 1 _ _ _ HMA.out.1.ans
       have f0 := frozen_of_row _ _ 0 _ _ HMA.out.1.ans
       have f1 := frozen_of_row _ _ 1 _ _ HMA.out.1.ans
       clear hr9 hg9 m0 m1)
    | fail)
  refine bodyPost_ret (v := .tuple #[.agg #[.slice va n vc, .slice (some ⟨g, 0, none⟩) (mx - 1) uc], .int .i64 0]) (by simp [results, Tryz.results34, go_sem, q0, q1]) rfl ?_
  have hfin := HMA.out.1.done HL1.out.1.symm (by rw [List.length_eraseIdx, HL1.out.2, if_pos hkl]) (.slice va n vc) (.slice (some ⟨g, 0, none⟩) (mx - 1) uc)
  rw [List.eraseIdx_map_gen, HP1.out, HP2.out, ← HXX.out, ← HT.out] at hfin
  exact hfin
set_option maxRecDepth 100000 in
set_option maxHeartbeats 16000000 in
theorem drop_some (A : Option Addr) (c : Nat) (ts : List (Tab × List Col)) (ia : Option Addr) (ic : Nat) (xs : List (Idx × List Int)) (nm : ByteArray) (w : World) (hD : DeepAt w A ts) (hX : DeepIx w ia xs) (hn : ts.length ≤ 1000) (hm : xs.length ≤ 1000) (hl : ∀ p ∈ ts, p.2.length ≤ 1000) (hlx : ∀ p ∈ xs, p.2.length ≤ 1000) (k : Nat) (hk : findN PT.name (ts.map ptOf) nm = some k) :
    Calls Tryz.prog 32 #[.agg #[.slice A ts.length c, .slice ia xs.length ic], .string nm] w (OutP w 0 ((ts.map ptOf).eraseIdx k) ((xs.map pxOf).filter fun x => !sameN x.table nm)) := by
  have HST := Lib.hid (DropL.start w A ts.length c ia xs.length ic nm)
  have HTA := Lib.hid (show ∀ W, Below w.heap.size w W → Calls Tryz.prog 12 #[.agg #[.slice A ts.length c, .slice ia xs.length ic], .string nm] W (RetV (.int .i64 (placeI (findN PT.name (ts.map ptOf) nm))) W) from fun W hB => table_at A c ts ia xs.length ic nm W (DeepAt.keep hB hD))
  have hkl : k < ts.length := by have := findN_lt hk; rwa [List.length_map] at this
  rw [hk] at HTA
  simp only [placeI] at HTA
  have r6 : ((k : Int) < 0) = False := eq_false (by omega)
  have HCL := Lib.hid (show ∀ W, Below w.heap.size w W → Calls Tryz.prog 10 #[.agg #[.slice A ts.length c, .slice ia xs.length ic]] W (CloneO W ts xs) from fun W hB =>
    clones_own A c ts ia ic xs W (DeepAt.keep hB hD) (DeepIx.keep hB hX) hn hm hl hlx)
  obtain ⟨T, hT⟩ : ∃ T, T = ts.map ptOf := ⟨_, rfl⟩
  obtain ⟨X, hXX⟩ : ∃ X, X = xs.map pxOf := ⟨_, rfl⟩
  have HT := Lib.hid hT
  have HXX := Lib.hid hXX
  rw [← hT, ← hXX]
  obtain ⟨n, hnn⟩ : ∃ n, n = ts.length := ⟨_, rfl⟩
  obtain ⟨mx, hmm⟩ : ∃ mx, mx = xs.length := ⟨_, rfl⟩
  have HN := Lib.hid hnn
  have HM := Lib.hid hmm
  rw [← hnn] at HST HTA HCL hn hkl
  rw [← hmm] at HST HTA HCL hm 
  rw [← hnn, ← hmm]
  clear hD hX hk hl hlx hT hXX hnn hmm
  go_enter Tryz.func32, Tryz.ntmps32
  go_wp2_with (first
    | (go_at_call 12; (with_reducible refine (HTA.out _ HST.out.below).mono ?_); rintro e w3 ⟨rfl, hB3⟩
       have HK3 := Lib.hid (HST.out.keep hB3)
       have s0 := cell_of_row _ _ 0 _ _ _ HK3.out.sch
       have s1 := cell_of_row _ _ 1 _ _ _ HK3.out.sch
       have k0 := cell_of_row _ _ 0 _ _ _ HK3.out.nam
       have a0 := cell_of_row _ _ 0 _ _ _ HK3.out.ans
       have a1 := cell_of_row _ _ 1 _ _ _ HK3.out.ans
       have f0 := frozen_of_row _ _ 0 _ _ HK3.out.ans
       have f1 := frozen_of_row _ _ 1 _ _ HK3.out.ans
       clear hB3)
    | (go_at_call 10; (with_reducible refine (HCL.out _ HK3.out.below).mono ?_); rintro e w7 ⟨va, ua, vc, uc, ts', xs', rfl, hB7, hO, hp1, hp2, hownT, hownX, h63⟩
       have HK7 := Lib.hid (HK3.out.keep hB7)
       rw [← HN.out, ← HM.out] at hO
       have hcapT := hownT
       have hcapX := hownX
       rw [← HN.out] at hcapT
       rw [← HM.out] at hcapX
       have HOT := Lib.hid hcapT
       have HOX := Lib.hid hcapX
       have HO := Lib.hid hO
       have HS7 := Lib.hid hB7.size
       have HB3 := Lib.hid h63
       have HP1 := Lib.hid hp1
       have HP2 := Lib.hid hp2
       clear s0 s1 k0 a0 a1 f0 f1
       rw [← HN.out, ← HM.out]
       clear hB7 hownT hownX hcapT hcapX hO hp1 hp2 h63
       have HL1 := Lib.hid (show ts'.length = n ∧ xs'.length = mx by
         have h1 := congrArg List.length HP1.out
         have h2 := congrArg List.length HP2.out
         rw [List.length_map, List.length_map] at h1 h2
         exact ⟨h1.trans HN.out.symm, h2.trans HM.out.symm⟩)
       have HK8 := Lib.hid (show DropL w A n c ia mx ic nm (w7.alloc (.cells #[.slice va n vc, .slice ua mx uc] 36)) from HK7.out.keep (below1 w7 _))
       have HMID := Lib.hid (show MidS w (w.heap.size + 1 + 1) (w3.heap.size + 3) w7.heap.size (.slice va n vc) (.slice ua mx uc) ts' xs' (w7.alloc (.cells #[.slice va n vc, .slice ua mx uc] 36)) from by
         have h6 := heap_lt HK3.out.ans
         have h7 := HS7.out
         have h9 := heap_lt HK7.out.ans
         have hb0 := HO.out w7.heap.size (Nat.le_refl _)
         refine ⟨HK7.out.below.trans ((below1 w7 _).mono HK7.out.below.size), ?_, ?_, hb0.keep (below1 w7 _), by omega, by omega, HB3.out⟩
         · exact ((below1 w7 _).block _ h9).trans HK7.out.ans
         · exact heap_alloc_new w7 _)
       have m0 := cell_of_row _ _ 0 _ _ _ HMID.out.out
       have m1 := cell_of_row _ _ 1 _ _ _ HMID.out.out
       obtain ⟨g, rfl⟩ : ∃ g, va = some ⟨g, 0, none⟩ := by
         rcases HOT.out.2 with ⟨_, h0⟩ | ⟨g, cap, cur, e, _⟩
         · omega
         · cases e
           exact ⟨g, rfl⟩
       have HRW := Lib.hid (show RowT (w7.alloc (.cells #[.slice (some ⟨g, 0, none⟩) n vc, .slice ua mx uc] 36)) g (ts'.map Prod.fst) ∧ n ≤ vc ∧ w3.heap.size + 3 ≤ g from by
         have h0 := HMID.out.own.tab
         rw [HL1.out.1] at h0
         exact h0.row_t)
       have HDEL := Lib.hid (show ∀ W, RowT W g (ts'.map Prod.fst) → Calls Tryz.prog 64 #[.slice (some ⟨g, 0, none⟩) n vc, .int .i64 (k : Int), .int .i64 ((k : Int) + 1)] W (DelP W g vc (n - 1) ((ts'.map Prod.fst).eraseIdx k)) from fun W h => del_tab g vc n k _ W h (by rw [List.length_map]; exact HL1.out.1) hkl HRW.out.2.1 (own_cap HOT.out))
       have HDF := Lib.hid (show ∀ W, RowsAt W (w3.heap.size + 3) 28 xs'.length (.slice ua mx uc) ((xs'.map Prod.fst).map idxL).flatten → W.cell? ⟨w.heap.size + 1, 0, none⟩ = some (.string nm) → (Value.slice ua mx uc).ownBlock ≠ some (w.heap.size + 1) → Calls Tryz.prog 65 #[.slice ua mx uc, .func (.func 66) #[] #[.pointer (some ⟨w.heap.size + 1, 0, none⟩)]] W (DelFP W (w3.heap.size + 3) ua uc ((xs'.map Prod.fst).filter fun t => !sameN t.table nm) (Value.slice ua mx uc).ownBlock) from fun W h1 h2 h3 => delf_any (w3.heap.size + 3) (w.heap.size + 1) nm ua uc mx (xs'.map Prod.fst) W (by rw [HL1.out.2] at h1; exact h1) (by rw [List.length_map]; exact HL1.out.2.symm) (by rw [List.length_map, HL1.out.2]; exact hm) h2 h3)
       have hk1 : IntKind.i64.wrap ((k : Int) + 1) = (k : Int) + 1 := IntWalk.i64_in _ (by omega))
    | (go_at_call 64; (with_reducible refine (HDEL.out _ HRW.out.1).mono ?_); rintro e w9 ⟨rfl, hr9, hg9⟩
       have HM9 := Lib.hid (HMID.out.retab (v' := .slice (some ⟨g, 0, none⟩) (n - 1) vc) hg9 (Or.inl rfl) (ts' := ts'.eraseIdx k) (by
         rw [List.length_eraseIdx, HL1.out.1, if_pos hkl, List.eraseIdx_map_fst]
         exact hr9.at HRW.out.2.2 (by have := HRW.out.2.1; omega)) (fun p hp => HMID.out.own.cols p (List.mem_of_mem_eraseIdx hp)))
       have HNM := Lib.hid (show (w9.setCell ⟨w7.heap.size, 0, none⟩ (.slice (some ⟨g, 0, none⟩) (n - 1) vc)).cell? ⟨w.heap.size + 1, 0, none⟩ = some (.string nm) from by
         have h1 := HK8.out.nam
         have h2 := HMID.out.far
         have h3 := HRW.out.2.2
         have h4 := (hg9.block (w.heap.size + 1) (heap_lt h1) (fun e => by have := Option.some.inj e; omega)).trans h1
         have h5 : (w9.setCell ⟨w7.heap.size, 0, none⟩ (.slice (some ⟨g, 0, none⟩) (n - 1) vc)).heap[w.heap.size + 1]? = some (.cells #[.string nm] 9) := by rw [heap_setFar _ (by omega)]; exact h4
         exact cell_of_row _ _ 0 _ _ _ h5)
       have z6 := cell_of_row _ _ 0 _ _ _ HM9.out.2
       have z7 := cell_of_row _ _ 1 _ _ _ HM9.out.2
       have g6 := frozen_of_row _ _ 0 _ _ HM9.out.2
       have y6 := cell_of_row _ _ 0 _ _ _ HM9.out.1.out
       have y7 := cell_of_row _ _ 1 _ _ _ HM9.out.1.out
       clear hr9 hg9 m0 m1)
    | (go_at_call 65; (with_reducible refine (HDF.out _ HM9.out.1.own.idx HNM.out (fun e => by have h1 := (HM9.out.1.own.idx.block e).1; have h2 := HM9.out.1.far; omega)).mono ?_); rintro e w10 ⟨rfl, hr10, hg10⟩
       have HMA := Lib.hid (HM9.out.1.reidx (u' := .slice ua (xs'.filter fun p => !sameN p.1.table nm).length uc) hg10 (Or.inl (by cases ua <;> rfl)) (xs' := xs'.filter fun p => !sameN p.1.table nm) (by
         rw [filter_fst, List.length_map] at hr10
         exact hr10) (fun p hp => HM9.out.1.own.places p (List.mem_filter.1 hp).1))
       have hle : (List.filter (fun t => !sameN t.table nm) (xs'.map Prod.fst)).length = (xs'.filter fun p => !sameN p.1.table nm).length := by rw [filter_fst, List.length_map]
       rw [hle]
       generalize hu : (xs'.filter fun p => !sameN p.1.table nm).length = nu at HMA ⊢
       have HU := Lib.hid hu
       have z6 := cell_of_row _ _ 0 _ _ _ HMA.out.2
       have z7 := cell_of_row _ _ 1 _ _ _ HMA.out.2
       have g7 := frozen_of_row _ _ 1 _ _ HMA.out.2
       have y6 := cell_of_row _ _ 0 _ _ _ HMA.out.1.out
       have y7 := cell_of_row _ _ 1 _ _ _ HMA.out.1.out
       have q0 := cell_of_row _ _ 0 _ _ _ HMA.out.1.ans
       have q1 := cell_of_row _ _ 1 _ _ _ HMA.out.1.ans
       have f0 := frozen_of_row _ _ 0 _ _ HMA.out.1.ans
       have f1 := frozen_of_row _ _ 1 _ _ HMA.out.1.ans
       clear hr10 hg10 hle hu)
    | fail)
  refine bodyPost_ret (v := .tuple #[.agg #[.slice (some ⟨g, 0, none⟩) (n - 1) vc, .slice ua nu uc], .int .i64 0]) (by simp [results, Tryz.results32, go_sem, q0, q1]) rfl ?_
  have hfin := HMA.out.1.done (by rw [List.length_eraseIdx, HL1.out.1, if_pos hkl]) HU.out.symm (.slice (some ⟨g, 0, none⟩) (n - 1) vc) (.slice ua nu uc)
  rw [List.eraseIdx_map_gen, filter_px, HP1.out, HP2.out, ← HXX.out, ← HT.out] at hfin
  exact hfin
end Go.Proofs.YtcgpflkaejbkhaaGreatDoor
