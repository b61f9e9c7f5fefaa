/- Which columns of a table the parts of a query hold: plain. -/
import Derived.Test.YtcnkghcdjicldaaSmall
namespace Go.Proofs.Ytcnkghcdjicldaa
open Go.RowKit

/-- is a part's one side a column of the table, held by one of some signs? -/
def testR (q : Qd) (f : Nat) (ops : List ByteArray) (op : ByteArray) (x y : NodeT) : Bool :=
  (x.kind == 2) && (decide (tabR q x.at_ = some f) && (hasS ops op && !readsR q f y))
def sideR (q : Qd) (f : Nat) (ops : List ByteArray) (op : ByteArray) (x y : NodeT) (out : List Int) : List Int :=
  if testR q f ops op x y = true then onceR out (colR q f x.at_) else out
def partR (q : Qd) (f : Nat) (ops : List ByteArray) (out : List Int) (n : NodeT) : List Int :=
  match n.args with
  | [x, y] => if n.kind = 7 then sideR q f ops (turnR n.op) y x (sideR q f ops n.op x y out) else out
  | _ => out
def heldR (q : Qd) (f : Nat) (ops : List ByteArray) : List Int := q.wh.foldl (partR q f ops) []
theorem sideR_le (q : Qd) (f : Nat) (ops : List ByteArray) (op : ByteArray) (x y : NodeT) (out : List Int) : (sideR q f ops op x y out).length ≤ out.length + 1 := by
  unfold sideR
  split
  · exact onceR_le _ _
  · omega
theorem partR_le (q : Qd) (f : Nat) (ops : List ByteArray) (out : List Int) (n : NodeT) : (partR q f ops out n).length ≤ out.length + 2 := by
  unfold partR
  split
  · split
    · rename_i x y _ _
      have h1 := sideR_le q f ops n.op x y out
      have h2 := sideR_le q f ops (turnR n.op) y x (sideR q f ops n.op x y out)
      omega
    · omega
  · omega
theorem fold_snoc {α β : Type} (g : β → α → β) (b : β) (l : List α) (k : Nat) (t : α) (h : l[k]? = some t) : (l.take (k + 1)).foldl g b = g ((l.take k).foldl g b) t := by
  rw [List.take_add_one, h]; simp
theorem heldR_le (q : Qd) (f : Nat) (ops : List ByteArray) (k : Nat) : ((q.wh.take k).foldl (partR q f ops) []).length ≤ 2 * k := by
  induction k with
  | zero => simp
  | succ k ih =>
    cases h : q.wh[k]? with
    | none =>
      have : q.wh.take (k + 1) = q.wh.take k := by rw [List.take_add_one, h]; simp
      rw [this]; omega
    | some t =>
      rw [fold_snoc _ _ _ _ _ h]
      have := partR_le q f ops ((q.wh.take k).foldl (partR q f ops) []) t
      omega
theorem part_skip (q : Qd) (f : Nat) (ops : List ByteArray) (out : List Int) (n : NodeT) (h : n.kind ≠ 7 ∨ n.args.length ≠ 2) : partR q f ops out n = out := by
  unfold partR
  split
  · rename_i x y hxy
    split
    · rename_i hk
      rcases h with h | h
      · exact absurd hk h
      · rw [hxy] at h; exact absurd rfl h
    · rfl
  · rfl
theorem part_two (q : Qd) (f : Nat) (ops : List ByteArray) (out : List Int) (n x y : NodeT) (hk : n.kind = 7) (ha : n.args = [x, y]) : partR q f ops out n = sideR q f ops (turnR n.op) y x (sideR q f ops n.op x y out) := by
  unfold partR
  rw [ha]
  simp only
  rw [if_pos hk]
end Go.Proofs.Ytcnkghcdjicldaa
