/- A value's row that a call makes: what was there stays. -/
import Derived.Test.YtjlpjooaclfnlaaGreatDoorTruths
namespace Go.Proofs.YtjlpjooaclfnlaaGreatDoor
open Go.RowKit

/-- a new row of four cells, stored -/
@[reducible] def box4 (W : World) (u0 u1 u2 u3 : Value) : World := set4 (W.alloc (.cells #[.int .i64 0, .int .i64 0, .float .f64 0, .string ⟨#[]⟩] 24)) W.heap.size u0 u1 u2 u3
section
variable {W w w2 : World} {b : Nat} {a0 a1 a2 a3 : Value}
theorem Row4.made (W : World) (u0 u1 u2 u3 : Value) : Row4 (box4 W u0 u1 u2 u3) W.heap.size u0 u1 u2 u3 := (Row4.new W _ _ _ _).set u0 u1 u2 u3
theorem Row4.past (h : Row4 W b a0 a1 a2 a3) (u0 u1 u2 u3 : Value) : Row4 (box4 W u0 u1 u2 u3) b a0 a1 a2 a3 := (h.alloc _).far (Nat.ne_of_lt h.lt) u0 u1 u2 u3
theorem below_past (h : Below w.heap.size w W) (u0 u1 u2 u3 : Value) : Below w.heap.size w (box4 W u0 u1 u2 u3) := by
  have h1 := h.alloc h.size (.cells #[.int .i64 0, .int .i64 0, .float .f64 0, .string ⟨#[]⟩] 24)
  exact (((h1.setCell (p := ⟨W.heap.size, 0, none⟩) h.size _).setCell (p := ⟨W.heap.size, 1, none⟩) h.size _).setCell (p := ⟨W.heap.size, 2, none⟩) h.size _).setCell (p := ⟨W.heap.size, 3, none⟩) h.size _
theorem below_call (h : Below w.heap.size w W) (hB : Below W.heap.size W w2) : Below w.heap.size w w2 := h.trans (hB.mono h.size)
end
/-- two new rows of four cells, stored -/
@[reducible] def box44 (W : World) (u0 u1 u2 u3 v0 v1 v2 v3 : Value) : World := set4 (set4 ((W.alloc (.cells #[.int .i64 0, .int .i64 0, .float .f64 0, .string ⟨#[]⟩] 24)).alloc (.cells #[.int .i64 0, .int .i64 0, .float .f64 0, .string ⟨#[]⟩] 24)) W.heap.size u0 u1 u2 u3) (W.heap.size + 1) v0 v1 v2 v3
theorem Row4.made2 (w W : World) (h : Below w.heap.size w W) (u0 u1 u2 u3 v0 v1 v2 v3 : Value) : Row4 (box44 W u0 u1 u2 u3 v0 v1 v2 v3) W.heap.size u0 u1 u2 u3 ∧ Row4 (box44 W u0 u1 u2 u3 v0 v1 v2 v3) (W.heap.size + 1) v0 v1 v2 v3 ∧ Below w.heap.size w (box44 W u0 u1 u2 u3 v0 v1 v2 v3) := by
  have T := ((Two.start W (.int .i64 0) (.int .i64 0) (.float .f64 0) (.string ⟨#[]⟩) (.int .i64 0) (.int .i64 0) (.float .f64 0) (.string ⟨#[]⟩)).setA u0 u1 u2 u3).setB v0 v1 v2 v3
  exact ⟨T.1, T.2.1, h.trans (T.2.2.mono h.size)⟩
end Go.Proofs.YtjlpjooaclfnlaaGreatDoor
