/- Lists of indexes: how they stand in memory; one more is put behind them. -/
import Derived.Test.YtcnkghcdjicldaaPlaces
namespace Go.Proofs.Ytcnkghcdjicldaa
open Go.RowKit

/-- an index as a planner sees it -/
structure DefT where
  tab : Int
  A : Option Addr
  c : Nat
  cols : List Int
@[reducible] def DefT.cells (d : DefT) : List Value := [.int .i64 d.tab, .slice d.A d.cols.length d.c, .bool false]
/-- indexes as they stand in memory -/
def DefsAt (w : World) (A : Option Addr) (c : Nat) (ds : List DefT) : Prop := CellsAt w 3 A (ds.map DefT.cells) ∧ (∀ d ∈ ds, Ints w d.A d.c d.cols) ∧ ds.length ≤ c ∧ c ≤ maxLen
/-- what they say -/
def pureD (ds : List DefT) : List (Int × List Int) := ds.map (fun d => (d.tab, d.cols))
def RetD (L : List (Int × List Int)) (w : World) (e : Ending) (w' : World) : Prop := ∃ ds A c, pureD ds = L ∧ e = .returned (.slice A ds.length c) ∧ DefsAt w' A c ds ∧ Below w.heap.size w w'
theorem DefsAt.keep {w w' : World} {A : Option Addr} {c : Nat} {ds : List DefT} (h : DefsAt w A c ds) (hB : Below w.heap.size w w') : DefsAt w' A c ds :=
  ⟨h.1.keep hB, fun d hd => (h.2.1 d hd).keep hB, h.2.2.1, h.2.2.2⟩
theorem DefsAt.nil (w : World) : DefsAt w none 0 [] := by
  refine ⟨⟨by simp, .inl rfl⟩, ?_, Nat.le_refl _, by unfold maxLen; omega⟩
  intro d hd
  cases hd
theorem info36 : (Try.prog.info? 36).map (fun i => (i.zero, i.size, i.bytes)) = some (some (.agg #[.int .i64 0, .slice none 0 0, .bool false]), 3, 40) := by kernel_rfl
theorem flat_len (ds : List DefT) : (ds.flatMap DefT.cells).length = ds.length * 3 := by
  induction ds with
  | nil => rfl
  | cons d ds ih => rw [List.flatMap_cons, List.length_append, ih]; simp [DefT.cells]; omega
theorem flat_get (ds : List DefT) (j i : Nat) (d : DefT) (hd : ds[j]? = some d) (hi : i < 3) : (ds.flatMap DefT.cells)[j * 3 + i]? = d.cells[i]? := by
  induction ds generalizing j with
  | nil => simp at hd
  | cons x ds ih =>
    cases j with
    | zero =>
      simp only [List.getElem?_cons_zero, Option.some.injEq] at hd
      subst hd
      rw [List.flatMap_cons, List.getElem?_append_left (by simp [DefT.cells]; omega)]
      simp
    | succ j =>
      rw [List.flatMap_cons, List.getElem?_append_right (by simp [DefT.cells]; omega)]
      have : (j + 1) * 3 + i - x.cells.length = j * 3 + i := by simp [DefT.cells]; omega
      rw [this]
      exact ih j (by simpa using hd)
theorem flat_one (ds : List DefT) : ∀ u ∈ ds.flatMap DefT.cells, u.oneCell' = true := by
  intro u hu
  obtain ⟨d, _, hd⟩ := List.mem_flatMap.1 hu
  simp only [DefT.cells, List.mem_cons, List.mem_nil_iff, or_false] at hd
  rcases hd with rfl | rfl | rfl <;> rfl
/-- cells of a block, read as indexes -/
theorem cells_of_block {w : World} {b : Nat} {cs : Array Value} {T : TypeId} {ds : List DefT} (h : w.heap[b]? = some (.cells cs T (0, 0))) (hp : cs.toList.take (ds.length * 3) = ds.flatMap DefT.cells) (hl : ds.length ≤ maxLen) : CellsAt w 3 (some ⟨b, 0, none⟩) (ds.map DefT.cells) := by
  refine ⟨by rw [List.length_map]; exact hl, .inr ⟨b, 0, rfl, heap_lt h, fun j x hx => ?_⟩⟩
  rw [List.getElem?_map] at hx
  obtain ⟨d, hd, rfl⟩ := Option.map_eq_some_iff.1 hx
  refine ⟨rfl, fun i v hv => ?_⟩
  have hi : i < 3 := by
    rcases Nat.lt_or_ge i 3 with g | g
    · exact g
    · rw [List.getElem?_eq_none (by simp [DefT.cells]; omega)] at hv; cases hv
  have hj : j < ds.length := by
    rcases Nat.lt_or_ge j ds.length with g | g
    · exact g
    · rw [List.getElem?_eq_none g] at hd; cases hd
  have e : cs[0 + j * 3 + i]? = some v := by
    rw [← Array.getElem?_toList]
    have h2 : (cs.toList.take (ds.length * 3))[0 + j * 3 + i]? = some v := by rw [hp, Nat.zero_add, flat_get ds j i d hd hi]; exact hv
    rw [List.getElem?_take] at h2
    split at h2
    · exact h2
    · cases h2
  exact (cell_of_row w b _ _ _ _ h).trans e
end Go.Proofs.Ytcnkghcdjicldaa
