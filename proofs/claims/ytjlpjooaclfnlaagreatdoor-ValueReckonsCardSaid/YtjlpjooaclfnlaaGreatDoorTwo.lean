/- Two boxed values and a result's row, as they stand while a function cleans them. -/
import Derived.Test.YtjlpjooaclfnlaaGreatDoorWhole
import Derived.Deep.RegionLaw
import Derived.Deep.Cut
import Derived.Deep.CutBlock
namespace Go.Proofs.YtjlpjooaclfnlaaGreatDoor
open Go.RowKit

/-- four cells, stored one behind the other -/
@[reducible] def set4 (W : World) (b : Nat) (u0 u1 u2 u3 : Value) : World := (((W.setCell ⟨b, 0, none⟩ u0).setCell ⟨b, 1, none⟩ u1).setCell ⟨b, 2, none⟩ u2).setCell ⟨b, 3, none⟩ u3
def Row4 (W : World) (b : Nat) (u0 u1 u2 u3 : Value) : Prop := W.heap[b]? = some (.cells #[u0, u1, u2, u3] 24 (0, 0))

theorem heap_setAt {W : World} {b j : Nat} {cs : Array Value} {T : TypeId} (h : W.heap[b]? = some (.cells cs T (0, 0))) (v : Value) : (W.setCell ⟨b, j, none⟩ v).heap[b]? = some (.cells (cs.setIfInBounds j v) T (0, 0)) := by
  rw [setCell_eq_setRow W b j cs T (0, 0) _ h, setRow_heap W b _ _ T _ h]
theorem heap_setFar {W : World} {b j k : Nat} (v : Value) (h : k ≠ b) : (W.setCell ⟨b, j, none⟩ v).heap[k]? = W.heap[k]? := by
  simp only [World.setCell, Array.getElem?_modify]
  rw [if_neg (fun e => h e.symm)]

section
variable {W w2 : World} {b : Nat} {u0 u1 u2 u3 v0 v1 v2 v3 : Value}
theorem Row4.set (h : Row4 W b u0 u1 u2 u3) (v0 v1 v2 v3 : Value) : Row4 (set4 W b v0 v1 v2 v3) b v0 v1 v2 v3 := by
  have h0 := heap_setAt (j := 0) h v0
  have h1 := heap_setAt (j := 1) h0 v1
  have h2 := heap_setAt (j := 2) h1 v2
  have h3 := heap_setAt (j := 3) h2 v3
  simpa [Row4] using h3
theorem Row4.far {k : Nat} (h : Row4 W k u0 u1 u2 u3) (hk : k ≠ b) (v0 v1 v2 v3 : Value) : Row4 (set4 W b v0 v1 v2 v3) k u0 u1 u2 u3 := by
  unfold Row4 set4
  rw [heap_setFar _ hk, heap_setFar _ hk, heap_setFar _ hk, heap_setFar _ hk]
  exact h
theorem Row4.lt (h : Row4 W b u0 u1 u2 u3) : b < W.heap.size := by
  rcases Nat.lt_or_ge b W.heap.size with g | g
  · exact g
  · unfold Row4 at h; rw [Array.getElem?_eq_none g] at h; cases h
theorem Row4.keep {B : Nat} (h : Row4 W b u0 u1 u2 u3) (hB : Below B W w2) (hb : b < B) : Row4 w2 b u0 u1 u2 u3 := (hB.block b hb).trans h
theorem Row4.call (h : Row4 W b u0 u1 u2 u3) (hB : Below W.heap.size W w2) : Row4 w2 b u0 u1 u2 u3 := h.keep hB h.lt
/-- what the walk asks of a row -/
theorem Row4.cells (h : Row4 W b u0 u1 u2 u3) : (W.cell? ⟨b, 0, none⟩ = some u0 ∧ W.cell? ⟨b, 1, none⟩ = some u1 ∧ W.cell? ⟨b, 2, none⟩ = some u2 ∧ W.cell? ⟨b, 3, none⟩ = some u3) ∧ (W.frozen? ⟨b, 0, none⟩ = false ∧ W.frozen? ⟨b, 1, none⟩ = false ∧ W.frozen? ⟨b, 2, none⟩ = false ∧ W.frozen? ⟨b, 3, none⟩ = false) :=
  ⟨⟨cell_of_row W b 0 _ _ _ h, cell_of_row W b 1 _ _ _ h, cell_of_row W b 2 _ _ _ h, cell_of_row W b 3 _ _ _ h⟩, ⟨frozen_of_row W b 0 _ _ h, frozen_of_row W b 1 _ _ h, frozen_of_row W b 2 _ _ h, frozen_of_row W b 3 _ _ h⟩⟩
theorem size_set4 (W : World) (b : Nat) (u0 u1 u2 u3 : Value) : (set4 W b u0 u1 u2 u3).heap.size = W.heap.size := by simp [set4]
theorem Row4.new (W : World) (u0 u1 u2 u3 : Value) : Row4 (W.alloc (.cells #[u0, u1, u2, u3] 24)) W.heap.size u0 u1 u2 u3 := heap_alloc_new W _
theorem Row4.alloc (h : Row4 W b u0 u1 u2 u3) (o : Obj) : Row4 (W.alloc o) b u0 u1 u2 u3 := (Below.heap_alloc _ _ _ h.lt).trans h
end

/-- two rows behind a world, and nothing else turned -/
def Two (w W : World) (a0 a1 a2 a3 b0 b1 b2 b3 : Value) : Prop := Row4 W w.heap.size a0 a1 a2 a3 ∧ Row4 W (w.heap.size + 1) b0 b1 b2 b3 ∧ Below w.heap.size w W
section
variable {w W w2 : World} {a0 a1 a2 a3 b0 b1 b2 b3 : Value}
theorem Two.start (w : World) (a0 a1 a2 a3 b0 b1 b2 b3 : Value) : Two w ((w.alloc (.cells #[a0, a1, a2, a3] 24)).alloc (.cells #[b0, b1, b2, b3] 24)) a0 a1 a2 a3 b0 b1 b2 b3 := by
  refine ⟨(Row4.new w a0 a1 a2 a3).alloc _, ?_, by go_grown⟩
  have := Row4.new (w.alloc (.cells #[a0, a1, a2, a3] 24)) b0 b1 b2 b3
  rwa [World.size_alloc] at this
theorem Two.call (h : Two w W a0 a1 a2 a3 b0 b1 b2 b3) (hB : Below W.heap.size W w2) : Two w w2 a0 a1 a2 a3 b0 b1 b2 b3 := ⟨h.1.call hB, h.2.1.call hB, h.2.2.trans (hB.mono h.2.2.size)⟩
theorem Two.setA (h : Two w W a0 a1 a2 a3 b0 b1 b2 b3) (u0 u1 u2 u3 : Value) : Two w (set4 W w.heap.size u0 u1 u2 u3) u0 u1 u2 u3 b0 b1 b2 b3 :=
  ⟨h.1.set _ _ _ _, h.2.1.far (by omega) _ _ _ _, (((h.2.2.setCell (p := ⟨w.heap.size, 0, none⟩) (Nat.le_refl _) _).setCell (p := ⟨w.heap.size, 1, none⟩) (Nat.le_refl _) _).setCell (p := ⟨w.heap.size, 2, none⟩) (Nat.le_refl _) _).setCell (p := ⟨w.heap.size, 3, none⟩) (Nat.le_refl _) _⟩
theorem Two.setB (h : Two w W a0 a1 a2 a3 b0 b1 b2 b3) (u0 u1 u2 u3 : Value) : Two w (set4 W (w.heap.size + 1) u0 u1 u2 u3) a0 a1 a2 a3 u0 u1 u2 u3 :=
  ⟨h.1.far (by omega) _ _ _ _, h.2.1.set _ _ _ _, (((h.2.2.setCell (p := ⟨w.heap.size + 1, 0, none⟩) (Nat.le_succ _) _).setCell (p := ⟨w.heap.size + 1, 1, none⟩) (Nat.le_succ _) _).setCell (p := ⟨w.heap.size + 1, 2, none⟩) (Nat.le_succ _) _).setCell (p := ⟨w.heap.size + 1, 3, none⟩) (Nat.le_succ _) _⟩
theorem Two.drew (h : Two w W a0 a1 a2 a3 b0 b1 b2 b3) : Two w W.drew a0 a1 a2 a3 b0 b1 b2 b3 := h.call (Below.refl _ _).drew
end
end Go.Proofs.YtjlpjooaclfnlaaGreatDoor
