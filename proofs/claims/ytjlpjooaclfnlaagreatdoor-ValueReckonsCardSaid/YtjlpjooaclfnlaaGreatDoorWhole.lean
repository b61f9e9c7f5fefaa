/- The walk of package value's whole. -/
import Derived.Test.YtjlpjooaclfnlaaGreatDoorRAnd
import Derived.IntWalk
namespace Go.Proofs.YtjlpjooaclfnlaaGreatDoor
open Go.RowKit

/-- a whole number of 64 bits -/
def In64 (n : Int) : Prop := -9223372036854775808 ≤ n ∧ n ≤ 9223372036854775807
theorem wrap64_eq {n : Int} (h : In64 n) : wrap64 n = n := IntWalk.wrap64_in n h

set_option maxRecDepth 100000 in
set_option maxHeartbeats 1000000 in
theorem whole_add (a b : Int) (w : World) : Calls Tryz.prog 46 #[.string ⟨#[43]⟩, .int .i64 a, .int .i64 b] w fun e w' => e = .returned (.tuple #[.int .i64 (wrap64 (a + b)), .bool (decide (wrap64 (a + b) > a) == decide (b > 0))]) ∧ w = w' := by
  go_enter Tryz.func46, Tryz.ntmps46
  go_wp2_with fail
  go_ret2
  exact ⟨rfl, rfl⟩

set_option maxRecDepth 100000 in
set_option maxHeartbeats 1000000 in
theorem whole_sub (a b : Int) (w : World) : Calls Tryz.prog 46 #[.string ⟨#[45]⟩, .int .i64 a, .int .i64 b] w fun e w' => e = .returned (.tuple #[.int .i64 (wrap64 (a - b)), .bool (decide (wrap64 (a - b) < a) == decide (b > 0))]) ∧ w = w' := by
  go_enter Tryz.func46, Tryz.ntmps46
  go_wp2_with fail
  go_ret2
  exact ⟨rfl, rfl⟩

theorem op_ne {l m : List UInt8} (h : l ≠ m) : (l == m) = false := by rw [beq_eq_false_iff_ne]; exact h
set_option maxRecDepth 100000 in
set_option maxHeartbeats 1000000 in
theorem whole_else (op : ByteArray) (a b : Int) (w : World) (h1 : op.toList ≠ [43]) (h2 : op.toList ≠ [45]) (h3 : op.toList ≠ [42]) : Calls Tryz.prog 46 #[.string op, .int .i64 a, .int .i64 b] w fun e w' => e = .returned (.tuple #[.int .i64 0, .bool false]) ∧ w = w' := by
  have b1 := op_ne h1
  have b2 := op_ne h2
  have b3 := op_ne h3
  clear h1 h2 h3
  go_enter Tryz.func46, Tryz.ntmps46
  go_wp2_with fail
  go_ret2
  exact ⟨rfl, rfl⟩

set_option maxRecDepth 100000 in
set_option maxHeartbeats 1000000 in
theorem whole_mul0 (a b : Int) (w : World) (h : (a == 0 || b == 0) = true) : Calls Tryz.prog 46 #[.string ⟨#[42]⟩, .int .i64 a, .int .i64 b] w fun e w' => e = .returned (.tuple #[.int .i64 0, .bool true]) ∧ w = w' := by
  by_cases ha : a = 0
  · subst ha
    go_enter Tryz.func46, Tryz.ntmps46
    go_wp2_with fail
    go_ret2
    exact ⟨rfl, rfl⟩
  · have hb0 : b = 0 := by simpa [ha] using h
    have ha' : (a == 0) = false := by simpa using ha
    subst hb0
    clear h ha
    go_enter Tryz.func46, Tryz.ntmps46
    go_wp2_with fail
    go_ret2
    exact ⟨rfl, rfl⟩

/-- does a product that is wrapped read as one that fits? -/
def mulOk (a b : Int) : Bool := decide (wrap64 ((wrap64 (a * b)).tdiv b) = a) && !(decide (a = -1) && decide (b = -9223372036854775808)) && !(decide (b = -1) && decide (a = -9223372036854775808))
theorem ret_ib {n m : Int} {x y : Bool} (g : n = m) (h : x = y) : Ending.returned (.tuple #[.int .i64 n, .bool x]) = .returned (.tuple #[.int .i64 m, .bool y]) := by rw [g, h]
set_option maxRecDepth 100000 in
set_option maxHeartbeats 1000000 in
theorem whole_mul (a b : Int) (w : World) (ha : (a == 0) = false) (hb : (b == 0) = false) : Calls Tryz.prog 46 #[.string ⟨#[42]⟩, .int .i64 a, .int .i64 b] w fun e w' => e = .returned (.tuple #[.int .i64 (wrap64 (a * b)), .bool (mulOk a b)]) ∧ w = w' := by
  have hb0 : ¬ b = 0 := by simpa using hb
  go_enter Tryz.func46, Tryz.ntmps46
  go_wp2_with fail
  all_goals
    go_ret2
    refine ⟨ret_ib (by simp [*]) (by unfold mulOk; clear hb ha; simp_all <;> (first | decide | rfl)), rfl⟩
end Go.Proofs.YtjlpjooaclfnlaaGreatDoor
