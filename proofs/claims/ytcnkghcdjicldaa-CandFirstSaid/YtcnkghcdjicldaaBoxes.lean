/- A query's box, and a row of numbers of the call's own, as they stand in loops. -/
import Derived.Test.YtcnkghcdjicldaaHeldR
namespace Go.Proofs.Ytcnkghcdjicldaa
open Go.RowKit

/-- a box in memory -/
def BoxC (W : World) (b : Nat) (cs : Array Value) : Prop := W.heap[b]? = some (.cells cs 26 (0, 0))
theorem BoxC.keep {W w2 : World} {b : Nat} {cs : Array Value} (h : BoxC W b cs) (hB : Below W.heap.size W w2) : BoxC w2 b cs := (hB.block b (heap_lt h)).trans h
/-- what holds in held's loops -/
def HeldIn (w wr : World) (cs : Array Value) (out : Value) (zs : List Int) : Prop := Below w.heap.size w wr ∧ BoxC wr w.heap.size cs ∧ wr.ownsRow (w.heap.size + 1) 3 1 out zs.length (intsV zs)
section
variable {w wr w2 : World} {cs : Array Value} {out : Value} {zs : List Int}
theorem HeldIn.call (h : HeldIn w wr cs out zs) (hB : Below wr.heap.size wr w2) : HeldIn w w2 cs out zs :=
  ⟨h.1.trans (hB.mono h.1.size), h.2.1.keep hB, own_kept h.2.2 hB (Nat.le_refl _)⟩
theorem HeldIn.drew (h : HeldIn w wr cs out zs) : HeldIn w wr.drew cs out zs := h.call (Below.refl _ _).drew
theorem HeldIn.alloc (h : HeldIn w wr cs out zs) (o : Obj) : HeldIn w (wr.alloc o) cs out zs := h.call (below1 wr o)
/-- a number more -/
theorem HeldIn.app (h : HeldIn w wr cs out zs) {x : Value} {e : TypeId} {out2 : Value} {z : Int} (hg : (wr.alloc (.cells #[x] e)).grownBy w2 out.ownBlock) (ho : w2.ownsRow (w.heap.size + 1) 3 1 out2 (zs.length + 1) (intsV zs ++ [.int .i64 z])) : HeldIn w w2 cs out2 (zs ++ [z]) := by
  have h1 := h.alloc (.cells #[x] e)
  have hlt := heap_lt h1.2.1
  have hb : Below (w.heap.size + 1) (wr.alloc (.cells #[x] e)) w2 := Below.grown (Below.refl _ _) hg (by omega) (own_ge h1.2.2)
  exact ⟨h1.1.trans (hb.mono (Nat.le_succ _)), (hb.block _ (Nat.lt_succ_self _)).trans h1.2.1, owns_cast ho (by simp [intsV]) (intsV_length _)⟩
end
end Go.Proofs.Ytcnkghcdjicldaa
