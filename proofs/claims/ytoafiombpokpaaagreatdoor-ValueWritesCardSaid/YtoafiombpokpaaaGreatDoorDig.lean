/- The walk of the program's digits: what is written of a float. -/
import Derived.Test.YtoafiombpokpaaaGreatDoorFloB
import Derived.Lib.Hide
import Derived.Test.YtoafiombpokpaaaGreatDoorWrP
import Derived.Shelf.Strings.SlTrimAscii
namespace Go.Proofs.YtoafiombpokpaaaGreatDoor
open Go.RowKit

theorem neg_float (w : World) (f : Nat) : (Op.unary .neg (.float .f64 f)).run Tryz.prog w = .ok (.float .f64 (f ^^^ 9223372036854775808)) w := by rfl
set_option maxHeartbeats 1000000 in
theorem isinf_up (f : Nat) (w : World) : Calls Tryz.prog 27 #[.float .f64 f, .int .i64 1] w fun e w' => e = .returned (.bool (gtM f)) ∧ w = w' := by
  unfold gtM
  go_enter Tryz.func27, Tryz.ntmps27
  go_wp2
  go_ret
  exact ⟨rfl, rfl⟩
set_option maxHeartbeats 1000000 in
theorem isinf_down (f : Nat) (hf : f < 18446744073709551616) (w : World) : Calls Tryz.prog 27 #[.float .f64 f, .int .i64 (-1)] w fun e w' => e = .returned (.bool (ltM f)) ∧ w = w' := by
  rw [← gt_neg hf]
  have hn := neg_float
  unfold gtM
  go_enter Tryz.func27, Tryz.ntmps27
  go_wp2

  go_ret
  exact ⟨rfl, rfl⟩
theorem number_any (f : Nat) (w : World) : Calls Tryz.prog 18 #[.float .f64 f] w fun e w' => e = .returned (.bool (feq f f)) ∧ w = w' := by
  unfold feq
  go_enter Tryz.func18, Tryz.ntmps18
  go_wp2
  go_ret
  exact ⟨rfl, rfl⟩
end Go.Proofs.YtoafiombpokpaaaGreatDoor
