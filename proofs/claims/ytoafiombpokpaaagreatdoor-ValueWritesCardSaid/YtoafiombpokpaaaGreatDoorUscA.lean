/- The walks of strconv's small functions on numbers: floors of logarithms, roundings. -/
import Derived.Test.YtoafiombpokpaaaGreatDoorWalks
import Derived.Test.YtoafiombpokpaaaGreatDoorShelf
import Derived.Laws.BitsAllLaws
namespace Go.Proofs.YtoafiombpokpaaaGreatDoor
open Go.RowKit

theorem ret_u64 {a b : Int} (h : a = b) : Ending.returned (.int .u64 a) = .returned (.int .u64 b) := by rw [h]
theorem log10_any (x : Int) (h : -100000 ≤ x) (h2 : x ≤ 100000) (w : World) : Calls Tryz.prog 61 #[.int .i64 x] w fun e w' => e = .returned (.int .i64 (x * 78913 / 262144)) ∧ w = w' := by
  go_enter Tryz.func61, Tryz.ntmps61
  go_wp2
  go_ret
  exact ⟨rfl, rfl⟩
theorem log2_any (x : Int) (h : -100000 ≤ x) (h2 : x ≤ 100000) (w : World) : Calls Tryz.prog 104 #[.int .i64 x] w fun e w' => e = .returned (.int .i64 (x * 108853 / 32768)) ∧ w = w' := by
  go_enter Tryz.func104, Tryz.ntmps104
  go_wp2
  go_ret
  exact ⟨rfl, rfl⟩
theorem skewed_any (x : Int) (h : -100000 ≤ x) (h2 : x ≤ 100000) (w : World) : Calls Tryz.prog 102 #[.int .i64 x] w fun e w' => e = .returned (.int .i64 ((x * 631305 - 261663) / 2097152)) ∧ w = w' := by
  go_enter Tryz.func102, Tryz.ntmps102
  go_wp2
  go_ret
  exact ⟨rfl, rfl⟩
theorem bool2u_any (b : Bool) (w : World) : Calls Tryz.prog 123 #[.bool b] w fun e w' => e = .returned (.int .u64 (if b then 1 else 0)) ∧ w = w' := by
  cases b <;> (
    go_enter Tryz.func123, Tryz.ntmps123
    go_wp2
    go_ret
    exact ⟨rfl, rfl⟩)
theorem ceil_any (u : Nat) (_h : u < 18446744073709551616) (w : World) : Calls Tryz.prog 107 #[.int .u64 u] w fun e w' => e = .returned (.int .u64 (((u + 3) % 18446744073709551616 / 4 : Nat) : Int)) ∧ w = w' := by
  go_enter Tryz.func107, Tryz.ntmps107
  go_wp2
  go_ret
  exact ⟨ret_u64 (by rw [IntKind.wrap_u64]; omega), rfl⟩
theorem floor_any (u : Nat) (h : u < 18446744073709551616) (w : World) : Calls Tryz.prog 108 #[.int .u64 u] w fun e w' => e = .returned (.int .u64 ((u / 4 : Nat) : Int)) ∧ w = w' := by
  go_enter Tryz.func108, Tryz.ntmps108
  go_wp2
  go_ret
  exact ⟨ret_u64 (by omega), rfl⟩
theorem round_any (u : Nat) (h : u < 18446744073709551616) (w : World) : Calls Tryz.prog 109 #[.int .u64 u] w fun e w' => e = .returned (.int .u64 (((u + 1 + u / 4 % 2) % 18446744073709551616 / 4 : Nat) : Int)) ∧ w = w' := by
  have hb := u64_and_nat (u / 4) 1 (by omega) (by omega)
  go_enter Tryz.func109, Tryz.ntmps109
  go_wp2
  go_ret
  refine ⟨ret_u64 ?_, rfl⟩
  rw [nat_mask1] at hb
  rw [show ((u : Int) / 4) = ((u / 4 : Nat) : Int) by omega, show (1 : Int) = ((1 : Nat) : Int) from rfl, hb, IntKind.wrap_u64, IntKind.wrap_u64]
  omega
theorem nudge_any (u : Nat) (d : Int) (_h : u < 18446744073709551616) (_h1 : -1 ≤ d) (_h2 : d ≤ 1) (w : World) : Calls Tryz.prog 106 #[.int .u64 u, .int .i64 d] w fun e w' => e = .returned (.int .u64 ((((u : Int) + d) % 18446744073709551616).toNat : Int)) ∧ w = w' := by
  go_enter Tryz.func106, Tryz.ntmps106
  go_wp2
  go_ret
  exact ⟨ret_u64 (by rw [IntKind.wrap_u64, IntKind.wrap_u64]; omega), rfl⟩
end Go.Proofs.YtoafiombpokpaaaGreatDoor
