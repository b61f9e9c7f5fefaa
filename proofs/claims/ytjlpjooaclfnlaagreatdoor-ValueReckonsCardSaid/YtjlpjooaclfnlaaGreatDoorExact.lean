/- The walk of the document's Exact. -/
import Derived.Test.YtjlpjooaclfnlaaGreatDoorRefs
import Derived.WalkSmall
namespace Go.Proofs.YtjlpjooaclfnlaaGreatDoor
open Go.RowKit

/-- a callee that leaves the world alone, in a quiet region -/
theorem quiet_here {P : Program} {f : FuncId} {args : Array Value} {w : World} {n : Nat} {v : Value} (h : Calls P f args (w.drewN n) fun e w' => e = .returned v ∧ w.drewN n = w') : Calls P f args (w.drewN n) fun e w'' => e = .returned v ∧ ∃ m, w'' = w.drewN m :=
  h.mono fun _ _ ⟨he, hm⟩ => ⟨he, n, hm.symm⟩

theorem float_bits (f : Nat) (w : World) : (callFunc 62 #[.float .f64 f]).run Tryz.prog w = .ok (.value (.int .u64 f)) w := by kernel_rfl
set_option maxRecDepth 100000 in
theorem signbit_any (f : Nat) (w : World) : Calls Tryz.prog 48 #[.float .f64 f] w fun e w' => e = .returned (.bool (decide (wrap64 (f : Int) < 0))) ∧ w = w' := by
  have hb := float_bits f
  go_enter Tryz.func48, Tryz.ntmps48
  go_wp2_with fail
  go_ret
  exact ⟨rfl, rfl⟩

set_option maxRecDepth 100000 in
set_option maxHeartbeats 2000000 in
theorem exact_same (k n : Int) (f : Nat) (s : ByteArray) (w : World) (hf : feq f f = true) : Calls Tryz.prog 17 #[vV k n f s, vV k n f s] w (RetV (.bool true) w) := by
  have hb : (FloatKind.f64.format.order f f == some .eq) = true := hf
  have hn : ∀ w, Calls Tryz.prog 47 #[.float .f64 f] w fun e w' => e = .returned (.bool true) ∧ w = w' := fun w => by have := number_any f w; rw [hf] at this; exact this
  have HN := Lib.hid hn
  clear hn hf
  go_enter Tryz.func17, Tryz.ntmps17
  go_wp2_with fail
  go_quiet (first
    | ((with_reducible refine quiet_here (HN.out _)))
    | ((with_reducible refine quiet_here (signbit_any f _)))
    | fail)
  go_wp2_with fail
  go_ret
  exact ⟨rfl, below_drewN (by go_grown) nq⟩

set_option maxRecDepth 100000 in
set_option maxHeartbeats 2000000 in
theorem exact_nan (k n : Int) (f g : Nat) (s : ByteArray) (w : World) (hf : feq f f = false) (hg : feq g g = false) : Calls Tryz.prog 17 #[vV k n f s, vV k n g s] w (RetV (.bool true) w) := by
  have HN := Lib.hid (show ∀ w, Calls Tryz.prog 47 #[.float .f64 f] w fun e w' => e = .returned (.bool false) ∧ w = w' from fun w => by have := number_any f w; rw [hf] at this; exact this)
  have HG := Lib.hid (show ∀ w, Calls Tryz.prog 47 #[.float .f64 g] w fun e w' => e = .returned (.bool false) ∧ w = w' from fun w => by have := number_any g w; rw [hg] at this; exact this)
  clear hf hg
  go_enter Tryz.func17, Tryz.ntmps17
  go_wp2_with fail
  go_quiet (first
    | ((with_reducible refine quiet_here (HN.out _)))
    | ((with_reducible refine quiet_here (HG.out _)))
    | fail)
  go_wp2_with fail
  go_ret
  exact ⟨rfl, below_drewN (by go_grown) nq⟩
end Go.Proofs.YtjlpjooaclfnlaaGreatDoor
