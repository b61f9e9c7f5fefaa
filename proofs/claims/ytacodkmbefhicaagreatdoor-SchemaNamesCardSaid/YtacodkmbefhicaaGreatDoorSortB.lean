/- A row of tables that is put in order: what it holds, two that change places. -/
import Derived.Test.YtacodkmbefhicaaGreatDoorSortA
namespace Go.Proofs.YtacodkmbefhicaaGreatDoor
open Go.RowKit

/-- a block of the call's own that begins with tables -/
def RowT (W : World) (g : Nat) (l : List Tab) : Prop := ∃ rest : List Value, W.heap[g]? = some (.cells ((l.map tabL).flatten ++ rest).toArray 35 (0, 0))
theorem RowT.cell {W : World} {g : Nat} {l : List Tab} (h : RowT W g l) {j : Nat} {t : Tab} (hj : l[j]? = some t) {i : Nat} {u : Value} (hi : (tabL t)[i]? = some u) : W.cell? ⟨g, j * 5 + i, none⟩ = some u := by
  obtain ⟨rest, hr⟩ := h
  rw [cell_of_row W g _ _ _ _ hr]
  have e := flat_get (K := 5) (tab_len l) (j := j) (x := tabL t) (by rw [List.getElem?_map, hj]; rfl) hi
  have hlt := (List.getElem?_eq_some_iff.1 e).1
  rw [List.getElem?_toArray, List.getElem?_append_left hlt]
  exact e
theorem RowT.free {W : World} {g : Nat} {l : List Tab} (h : RowT W g l) (j : Nat) : W.frozen? ⟨g, j, none⟩ = false := by
  obtain ⟨rest, hr⟩ := h
  exact frozen_of_row _ _ _ _ _ hr
theorem RowT.lt {W : World} {g : Nat} {l : List Tab} (h : RowT W g l) : g < W.heap.size := by
  obtain ⟨rest, hr⟩ := h
  exact heap_lt hr
theorem RowT.keep {W W' : World} {g : Nat} {l : List Tab} (h : RowT W g l) (hB : Below W.heap.size W W') : RowT W' g l := by
  obtain ⟨rest, hr⟩ := h
  exact ⟨rest, (hB.block g (heap_lt hr)).trans hr⟩
theorem RowT.drew {W : World} {g : Nat} {l : List Tab} (h : RowT W g l) : RowT W.drew g l := h
/-- the block with a list of cells -/
theorem set_list {W : World} {g : Nat} {L : List Value} (h : W.heap[g]? = some (.cells L.toArray 35 (0, 0))) (p : Nat) (u : Value) : (W.setCell ⟨g, p, none⟩ u).heap[g]? = some (.cells (L.set p u).toArray 35 (0, 0)) := by
  rw [setCell_eq_setRow W g p _ 35 _ _ h, setRow_heap W g _ _ 35 _ h]
  congr 2
  simp
theorem set_mid (pre post M : List Value) (i : Nat) (u : Value) (hi : i < M.length) : (pre ++ M ++ post).set (pre.length + i) u = pre ++ M.set i u ++ post := by
  rw [List.append_assoc, List.set_append_right _ _ (by omega), List.append_assoc, show pre.length + i - pre.length = i by omega, List.set_append_left _ _ hi]
theorem grown_set (W : World) (b j : Nat) (v : Value) : W.grownBy (W.setCell ⟨b, j, none⟩ v) (some b) :=
  ⟨rfl, rfl, rfl, by simp [World.setCell], fun k _ hne => heap_setFar v (fun e => hne (by rw [e]))⟩
/-- two neighbours change places -/
def swapT (l : List Tab) (j : Nat) : List Tab := match l[j]?, l[j + 1]? with
  | some x, some y => (l.set j y).set (j + 1) x
  | _, _ => l
theorem swapT_len (l : List Tab) (j : Nat) : (swapT l j).length = l.length := by
  unfold swapT
  split <;> simp
theorem swap_parts {l : List Tab} {j : Nat} {x y : Tab} (hx : l[j]? = some x) (hy : l[j + 1]? = some y) : l = l.take j ++ x :: y :: l.drop (j + 2) ∧ swapT l j = l.take j ++ y :: x :: l.drop (j + 2) := by
  have h1 := (List.getElem?_eq_some_iff.1 hx)
  have h2 := (List.getElem?_eq_some_iff.1 hy)
  obtain ⟨hj, e1⟩ := h1
  obtain ⟨hj2, e2⟩ := h2
  have hd : l.drop j = x :: y :: l.drop (j + 2) := by
    rw [List.drop_eq_getElem_cons hj, e1, List.drop_eq_getElem_cons hj2, e2]
  have hl : l = l.take j ++ x :: y :: l.drop (j + 2) := by
    conv => lhs; rw [← List.take_append_drop j l, hd]
  refine ⟨hl, ?_⟩
  unfold swapT
  rw [hx, hy]
  dsimp only
  have ht : (l.take j).length = j := by rw [List.length_take]; omega
  generalize l.take j = p at hl ht ⊢
  generalize l.drop (j + 2) = q at hl ⊢
  subst hl
  subst ht
  rw [List.set_append_right _ _ (Nat.le_refl _), Nat.sub_self, List.set_append_right _ _ (by omega), show p.length + 1 - p.length = 1 by omega]
  rfl
/-- one table's cells are written -/
def setTab (W : World) (g p : Nat) (t : Tab) : World := ((((W.setCell ⟨g, p, none⟩ (.string t.name)).setCell ⟨g, p + 1, none⟩ (.slice t.ca t.cn t.cc)).setCell ⟨g, p + 2, none⟩ (.int .i64 t.root)).setCell ⟨g, p + 3, none⟩ (.int .i64 t.next)).setCell ⟨g, p + 4, none⟩ (.int .i64 t.rows)
theorem setTab_grown (W : World) (g p : Nat) (t : Tab) : W.grownBy (setTab W g p t) (some g) :=
  ((((grown_set W g p _).trans (grown_set _ g _ _)).trans (grown_set _ g _ _)).trans (grown_set _ g _ _)).trans (grown_set _ g _ _)
theorem setTab_list {W : World} {g : Nat} {pre post : List Value} {t0 : Tab} (t : Tab) (h : W.heap[g]? = some (.cells (pre ++ tabL t0 ++ post).toArray 35 (0, 0))) : (setTab W g pre.length t).heap[g]? = some (.cells (pre ++ tabL t ++ post).toArray 35 (0, 0)) := by
  unfold setTab
  have h1 := set_list h (pre.length + 0) (.string t.name)
  rw [set_mid pre post _ 0 _ (by simp [tabL])] at h1
  have h2 := set_list h1 (pre.length + 1) (.slice t.ca t.cn t.cc)
  rw [set_mid pre post _ 1 _ (by simp [tabL])] at h2
  have h3 := set_list h2 (pre.length + 2) (.int .i64 t.root)
  rw [set_mid pre post _ 2 _ (by simp [tabL])] at h3
  have h4 := set_list h3 (pre.length + 3) (.int .i64 t.next)
  rw [set_mid pre post _ 3 _ (by simp [tabL])] at h4
  have h5 := set_list h4 (pre.length + 4) (.int .i64 t.rows)
  rw [set_mid pre post _ 4 _ (by simp [tabL])] at h5
  exact h5
theorem flat_take (l : List Tab) (j : Nat) (hj : j ≤ l.length) : ((l.take j).map tabL).flatten.length = j * 5 := by
  rw [flat_len (tab_len _), List.length_map, List.length_take, Nat.min_eq_left hj]
theorem RowT.swap {W : World} {g : Nat} {l : List Tab} (h : RowT W g l) {j : Nat} {x y : Tab} (hx : l[j]? = some x) (hy : l[j + 1]? = some y) :
    RowT (setTab (setTab W g (j * 5) y) g ((j + 1) * 5) x) g (swapT l j) ∧ RowT (setTab (setTab W g ((j + 1) * 5) x) g (j * 5) y) g (swapT l j) := by
  obtain ⟨rest, hr⟩ := h
  obtain ⟨hl, hs⟩ := swap_parts hx hy
  have hj := (List.getElem?_eq_some_iff.1 hx).1
  have hp := flat_take l j (Nat.le_of_lt hj)
  rw [hs]
  generalize l.drop (j + 2) = q at hl
  have hf : (l.map tabL).flatten = ((l.take j).map tabL).flatten ++ (tabL x ++ (tabL y ++ (q.map tabL).flatten)) := by
    conv => lhs; rw [hl]
    simp
  rw [hf] at hr
  have hf2 : ((l.take j ++ y :: x :: q).map tabL).flatten = ((l.take j).map tabL).flatten ++ (tabL y ++ (tabL x ++ (q.map tabL).flatten)) := by simp
  unfold RowT
  rw [hf2]
  generalize ((l.take j).map tabL).flatten = p at hr hp
  generalize (q.map tabL).flatten = z at hr
  have hpy : (p ++ tabL y).length = (j + 1) * 5 := by rw [List.length_append, hp, show (tabL y).length = 5 from rfl]; omega
  have hpx : (p ++ tabL x).length = (j + 1) * 5 := by rw [List.length_append, hp, show (tabL x).length = 5 from rfl]; omega
  refine ⟨⟨rest, ?_⟩, ⟨rest, ?_⟩⟩
  · have h1 := setTab_list (pre := p) (t0 := x) (post := tabL y ++ z ++ rest) y (by rw [hr]; simp [List.append_assoc])
    have h2 := setTab_list (pre := p ++ tabL y) (t0 := y) (post := z ++ rest) x (by rw [h1]; simp [List.append_assoc])
    rw [hpy, hp] at h2
    rw [h2]
    simp [List.append_assoc]
  · have h1 := setTab_list (pre := p ++ tabL x) (t0 := y) (post := z ++ rest) x (by rw [hr]; simp [List.append_assoc])
    have h2 := setTab_list (pre := p) (t0 := x) (post := tabL x ++ z ++ rest) y (by rw [h1]; simp [List.append_assoc])
    rw [hpx, hp] at h2
    rw [h2]
    simp [List.append_assoc]
end Go.Proofs.YtacodkmbefhicaaGreatDoor
