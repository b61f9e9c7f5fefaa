/- Bits of a float's word. -/
import Derived.Test.YtoafiombpokpaaaGreatDoorFtoB
namespace Go.Proofs.YtoafiombpokpaaaGreatDoor

theorem and_ex (n : Nat) : bits .and .i64 (n : Int) 2047 = ((n % 2048 : Nat) : Int) := by
  have h1 : (BitVec.ofInt 64 2047).toNat = 2 ^ 11 - 1 := by decide
  have key : (BitVec.ofInt 64 (n : Int) &&& BitVec.ofInt 64 2047).toNat = ((n : Int) % ((2 ^ 64 : Nat) : Int)).toNat % 2 ^ 11 := by
    rw [BitVec.toNat_and, BitVec.toNat_ofInt, h1, Nat.and_two_pow_sub_one_eq_mod]
  show IntKind.i64.wrap ((BitVec.ofInt 64 (n : Int) &&& BitVec.ofInt 64 2047).toNat : Nat) = _
  rw [key, IntKind.wrap_i64]
  omega
theorem and_mt (n : Nat) : bits .and .u64 (n : Int) 4503599627370495 = ((n % 4503599627370496 : Nat) : Int) := by
  have h1 : (BitVec.ofInt 64 4503599627370495).toNat = 2 ^ 52 - 1 := by decide
  have key : (BitVec.ofInt 64 (n : Int) &&& BitVec.ofInt 64 4503599627370495).toNat = ((n : Int) % ((2 ^ 64 : Nat) : Int)).toNat % 2 ^ 52 := by
    rw [BitVec.toNat_and, BitVec.toNat_ofInt, h1, Nat.and_two_pow_sub_one_eq_mod]
  show IntKind.u64.wrap ((BitVec.ofInt 64 (n : Int) &&& BitVec.ofInt 64 4503599627370495).toNat : Nat) = _
  rw [key, IntKind.wrap_u64]
  omega
theorem or_mt (n : Nat) (h : n < 4503599627370496) : bits .or .u64 (n : Int) 4503599627370496 = ((n + 4503599627370496 : Nat) : Int) := by
  have h1 : (BitVec.ofInt 64 4503599627370496).toNat = 2 ^ 52 := by decide
  have h2 : (BitVec.ofInt 64 (n : Int)).toNat = n := by rw [BitVec.toNat_ofInt]; omega
  have key : (BitVec.ofInt 64 (n : Int) ||| BitVec.ofInt 64 4503599627370496).toNat = n + 4503599627370496 := by
    rw [BitVec.toNat_or, h1, h2, Nat.or_comm]
    have h3 := Nat.two_pow_add_eq_or_of_lt (i := 52) (b := n) (by omega) 1
    rw [Nat.mul_one] at h3
    omega
  show IntKind.u64.wrap ((BitVec.ofInt 64 (n : Int) ||| BitVec.ofInt 64 4503599627370496).toNat : Nat) = _
  rw [key, IntKind.wrap_u64]
  omega
end Go.Proofs.YtoafiombpokpaaaGreatDoor
