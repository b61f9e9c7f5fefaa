/- Small words for this claim: what a call answers; bytes in a block of their own. -/
import Derived.Test.YtoafiombpokpaaaGreatDoorRows
import Derived.Below
import Derived.WalkKit
import Derived.WalkSmall
import Derived.ProofKit
import Derived.Lib.Hide
import Derived.IntWalk
import Derived.Laws.IdiomStrings
import Derived.Laws.Concat
import Derived.Lib.Strings
namespace Go.Proofs.YtoafiombpokpaaaGreatDoor
open Go.RowKit

def RetV (v : Value) (w : World) (e : Ending) (w' : World) : Prop := e = .returned v ∧ Below w.heap.size w w'
def RetT (w : World) (e : Ending) (w' : World) : Prop := e = .returned (.bool true) ∧ Below w.heap.size w w'
theorem ret_bool {a b : Bool} (h : a = b) : Ending.returned (.bool a) = .returned (.bool b) := by rw [h]
theorem below1 (w : World) (o : Obj) : Below w.heap.size w (w.alloc o) := (Below.refl _ _).alloc (Nat.le_refl _) _
theorem cell_kept {w w2 : World} {b o : Nat} {v : Value} (h : w.cell? ⟨b, o, none⟩ = some v) (hB : Below w.heap.size w w2) : w2.cell? ⟨b, o, none⟩ = some v := (hB.cell (p := ⟨b, o, none⟩) (World.block_lt_of_cell? w _ h)).trans h
theorem heap_lt {W : World} {g : Nat} {o : Obj} (q : W.heap[g]? = some o) : g < W.heap.size := (Array.getElem?_eq_some_iff.1 q).1
theorem heap_setFar {W : World} {b j k : Nat} (v : Value) (h : k ≠ b) : (W.setCell ⟨b, j, none⟩ v).heap[k]? = W.heap[k]? := by
  simp only [World.setCell, Array.getElem?_modify]
  rw [if_neg (fun e => h e.symm)]

/-- a byte as a cell -/
def byteV (c : UInt8) : Value := .int .u8 (c.toNat : Int)
/-- a block whose first cells are bytes -/
def BytesAt (W : World) (b : Nat) (l : List UInt8) : Prop := ∃ (rest : List Value) (N : Nat), W.heap[b]? = some (.cells (l.map byteV ++ rest).toArray 5 (N, N + 1)) ∧ N = l.length + rest.length
theorem BytesAt.keep {W w2 : World} {b : Nat} {l : List UInt8} (h : BytesAt W b l) (hB : Below W.heap.size W w2) : BytesAt w2 b l := by
  obtain ⟨rest, N, h1, h2⟩ := h
  exact ⟨rest, N, (hB.block b (heap_lt h1)).trans h1, h2⟩
theorem BytesAt.lt {W : World} {b : Nat} {l : List UInt8} (h : BytesAt W b l) : b < W.heap.size := by
  obtain ⟨rest, N, h1, h2⟩ := h
  exact heap_lt h1
theorem BytesAt.cell {W : World} {b : Nat} {l : List UInt8} (h : BytesAt W b l) {j : Nat} {c : UInt8} (hj : l[j]? = some c) : W.cell? ⟨b, j, none⟩ = some (.int .u8 (c.toNat : Int)) := by
  obtain ⟨rest, N, h1, h2⟩ := h
  have hlt := (List.getElem?_eq_some_iff.1 hj).1
  rw [cell_of_row W b j _ _ _ h1, List.getElem?_toArray, List.getElem?_append_left (by simpa using hlt), List.getElem?_map, hj]
  rfl
theorem BytesAt.free {W : World} {b : Nat} {l : List UInt8} (h : BytesAt W b l) {j : Nat} (hj : j < l.length) : W.frozen? ⟨b, j, none⟩ = false := by
  obtain ⟨rest, N, h1, h2⟩ := h
  have : ¬ N ≤ j := by omega
  simp [World.frozen?, h1, this]
theorem BytesAt.set {W : World} {b : Nat} {l : List UInt8} (h : BytesAt W b l) {j : Nat} (hj : j < l.length) (c : UInt8) (z : Int) (hz : z = (c.toNat : Int)) : BytesAt (W.setCell ⟨b, j, none⟩ (.int .u8 z)) b (l.set j c) := by
  obtain ⟨rest, N, h1, h2⟩ := h
  subst hz
  refine ⟨rest, N, ?_, by rw [List.length_set]; exact h2⟩
  rw [setCell_eq_setRow W b j _ 5 _ _ h1, setRow_heap W b _ _ 5 _ h1]
  congr 2
  apply Array.ext'
  simp [hj, List.map_set, byteV]
/-- '[]byte(s)' -/
theorem conv_bytes (w : World) (s : ByteArray) : (convert 9 58 (.string s)).run Tryz.prog w = .ok (.slice (some ⟨w.heap.size, 0, none⟩) s.size (grownCap w s.size 0 5))
      (w.drew.alloc (.cells (bytesRow s (grownCap w s.size 0 5)) 5 ((bytesRow s (grownCap w s.size 0 5)).size, (bytesRow s (grownCap w s.size 0 5)).size + 1))) :=
  run_bytes_of_string w 9 58 5 s Tryz.underlying9 Tryz.underlying58 Tryz.underlying5
theorem bytes_new (w : World) (s : ByteArray) (cap : Nat) : BytesAt (w.drew.alloc (.cells (bytesRow s cap) 5 ((bytesRow s cap).size, (bytesRow s cap).size + 1))) w.heap.size s.data.toList := by
  refine ⟨List.replicate (cap - s.size) (.int .u8 0), (bytesRow s cap).size, ?_, by unfold bytesRow; rw [Array.size_append, Array.size_map, Array.size_replicate, List.length_replicate]; rfl⟩
  have := heap_alloc_new w.drew (.cells (bytesRow s cap) 5 ((bytesRow s cap).size, (bytesRow s cap).size + 1))
  refine this.trans ?_
  congr 2
  apply Array.ext'
  simp [bytesRow]
  intro a _
  rfl
/-- 'string(b)' -/
theorem BytesAt.text {W : World} {b : Nat} {l : List UInt8} (h : BytesAt W b l) (n cap : Nat) (hn : n = l.length) : (convert 58 9 (.slice (some ⟨b, 0, none⟩) n cap)).run Tryz.prog W = .ok (.string ⟨l.toArray⟩) W := by
  subst hn
  exact run_convert_bytes_back W 58 9 5 ⟨b, 0, none⟩ cap l Tryz.underlying58 Tryz.underlying5 Tryz.underlying9 (fun j hj => by
    rw [Addr.add_lit, Nat.zero_add]
    exact h.cell (List.getElem?_eq_getElem hj))
theorem add_text (w : World) (a b : ByteArray) (h : a.size + b.size ≤ 1000) : (Op.stringOp .add a b).run Tryz.prog w = .ok (.string (a ++ b)) w := run_string_add_sum w a b (by omega)
end Go.Proofs.YtoafiombpokpaaaGreatDoor
