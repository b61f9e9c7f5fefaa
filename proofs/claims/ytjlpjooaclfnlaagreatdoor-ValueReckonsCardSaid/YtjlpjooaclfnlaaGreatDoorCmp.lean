/- The walks of cmp.Compare and strings.Compare. -/
import Derived.Test.YtjlpjooaclfnlaaGreatDoorTwo
import Derived.Lib.Bytealg
namespace Go.Proofs.YtjlpjooaclfnlaaGreatDoor
open Go.RowKit

def cmpZ (x y : Int) : Int := if x < y then -1 else if y < x then 1 else 0
set_option maxHeartbeats 400000 in
theorem nan58_any (x : Int) (w : World) : Calls Tryz.prog 58 #[.int .i64 x] w fun e w' => e = .returned (.bool false) ∧ w = w' := by
  go_enter Tryz.func58, Tryz.ntmps58
  go_wp2
  go_ret
  exact ⟨rfl, rfl⟩
set_option maxHeartbeats 400000 in
theorem nan61_any (x : Int) (w : World) : Calls Tryz.prog 61 #[.int .i64 x] w fun e w' => e = .returned (.bool false) ∧ w = w' := by
  go_enter Tryz.func61, Tryz.ntmps61
  go_wp2
  go_ret
  exact ⟨rfl, rfl⟩
set_option maxHeartbeats 400000 in
theorem nan59_any (x : Nat) (w : World) : Calls Tryz.prog 59 #[.float .f64 x] w fun e w' => e = .returned (.bool (!feq x x)) ∧ w = w' := by
  go_enter Tryz.func59, Tryz.ntmps59
  go_wp2
  go_ret
  exact ⟨rfl, rfl⟩
set_option maxHeartbeats 400000 in
theorem cmp41_any (x y : Int) (w : World) : Calls Tryz.prog 41 #[.int .i64 x, .int .i64 y] w fun e w' => e = .returned (.int .i64 (cmpZ x y)) ∧ w = w' := by
  go_enter Tryz.func41, Tryz.ntmps41
  go_wp2_with (go_at_call 58; (with_reducible refine (nan58_any _ _).mono ?_); rintro e w' ⟨rfl, rfl⟩)
  all_goals
    go_ret
    exact ⟨ret_i64 (by unfold cmpZ; (repeat' split) <;> first | rfl | omega), rfl⟩
set_option maxHeartbeats 400000 in
theorem cmp45_any (x y : Int) (w : World) : Calls Tryz.prog 45 #[.int .i64 x, .int .i64 y] w fun e w' => e = .returned (.int .i64 (cmpZ x y)) ∧ w = w' := by
  go_enter Tryz.func45, Tryz.ntmps45
  go_wp2_with (go_at_call 61; (with_reducible refine (nan61_any _ _).mono ?_); rintro e w' ⟨rfl, rfl⟩)
  all_goals
    go_ret
    exact ⟨ret_i64 (by unfold cmpZ; (repeat' split) <;> first | rfl | omega), rfl⟩
/-- which of two floats that are numbers comes first -/
def fcmpZ (x y : Nat) : Int := if (FloatKind.f64.format.order x y == some .lt) = true then -1 else if (FloatKind.f64.format.order x y == some .gt) = true then 1 else 0
set_option maxHeartbeats 400000 in
theorem cmp43_any (x y : Nat) (w : World) (hx : feq x x = true) (hy : feq y y = true) : Calls Tryz.prog 43 #[.float .f64 x, .float .f64 y] w fun e w' => e = .returned (.int .i64 (fcmpZ x y)) ∧ w = w' := by
  have HX := Lib.hid (fun w => nan59_any x w)
  have HY := Lib.hid (fun w => nan59_any y w)
  rw [hx] at HX
  rw [hy] at HY
  clear hx hy
  go_enter Tryz.func43, Tryz.ntmps43
  go_wp2_with (first
    | (go_at_call 59; (with_reducible refine (HX.out _).mono ?_); rintro e w' ⟨rfl, rfl⟩)
    | (go_at_call 59; (with_reducible refine (HY.out _).mono ?_); rintro e w' ⟨rfl, rfl⟩)
    | fail)
  all_goals
    go_ret
    exact ⟨ret_i64 (by unfold fcmpZ; (repeat' split) <;> first | rfl | (simp_all; done)), rfl⟩
set_option maxHeartbeats 1000000 in
set_option maxRecDepth 100000 in
theorem cmp60_any (a b : ByteArray) (w : World) : Calls Tryz.prog 60 #[.string a, .string b] w fun e w' => e = .returned (.int .i64 (Lib.compareBytes a.data.toList b.data.toList)) ∧ w = w' := by
  go_enter Tryz.func60, Tryz.ntmps60
  go_wp2
  rw [run_callFunc_extern Tryz.func71 (by kernel_rfl) (by kernel_rfl) (by kernel_rfl) (e := Extern.BytealgCompare.compare) (by kernel_rfl), Lib.run_compareString]
  simp only [Result.andThen]
  rw [Oper.upon_value]
  go_wp2
  go_ret
  exact ⟨rfl, rfl⟩
set_option maxHeartbeats 1000000 in
theorem strcmp_any (a b : ByteArray) (w : World) : Calls Tryz.prog 44 #[.string a, .string b] w fun e w' => e = .returned (.int .i64 (Lib.compareBytes a.data.toList b.data.toList)) ∧ w = w' := by
  go_enter Tryz.func44, Tryz.ntmps44
  go_wp2_with (go_at_call 60; (with_reducible refine (cmp60_any _ _ _).mono ?_); rintro e w' ⟨rfl, rfl⟩)
  go_ret
  exact ⟨rfl, rfl⟩
end Go.Proofs.YtjlpjooaclfnlaaGreatDoor
