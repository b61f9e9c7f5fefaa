/- Plain laws of a float's word: which ones are finite; what the two bounds say. -/
import Derived.Test.YtoafiombpokpaaaGreatDoorFloatLaw
import Derived.Test.YtoafiombpokpaaaGreatDoorClean
namespace Go.Proofs.YtoafiombpokpaaaGreatDoor
open Ieee

def maxZ : Nat := 9218868437227405311
def nmaxZ : Nat := 18442240474082181119
/-- above the greatest finite float; below the least one -/
def gtM (f : Nat) : Bool := FloatKind.f64.format.order f 9218868437227405311 == some .gt
def ltM (f : Nat) : Bool := FloatKind.f64.format.order f 18442240474082181119 == some .lt

theorem read_max : double.read maxZ = .number false 9007199254740991 971 := by decide +kernel
theorem read_nmax : double.read nmaxZ = .number true 9007199254740991 971 := by decide +kernel
theorem sw_eq : double.signWeight = 9223372036854775808 := by decide +kernel
theorem bi_eq : double.binade = 4503599627370496 := by decide +kernel
theorem inf_eq : double.infRung = 9218868437227405312 := by decide +kernel

theorem read_big {f : Nat} (h : f / 4503599627370496 % 2048 = 2047) : (∃ s, double.read f = .infinity s) ∨ (∃ s t, double.read f = .nan s t) := by
  have h1 : 9218868437227405312 ≤ f % 9223372036854775808 := by omega
  unfold Format.read
  rw [sw_eq, bi_eq, inf_eq]
  dsimp only
  rw [if_neg (by omega), if_neg (by omega)]
  split
  · exact .inl ⟨_, rfl⟩
  · exact .inr ⟨_, _, rfl⟩
theorem fin_of {f : Nat} (h0 : feq f f = true) (h1 : gtM f = false) (h2 : ltM f = false) : f / 4503599627370496 % 2048 ≠ 2047 := by
  intro h
  have em := read_max
  have en := read_nmax
  unfold maxZ at em
  unfold nmaxZ at en
  rcases read_big h with ⟨s, hs⟩ | ⟨s, t, hs⟩
  · cases s
    · have e : gtM f = true := by
        show (double.order f 9218868437227405311 == some .gt) = true
        unfold Format.order
        rw [hs, em]
        rfl
      rw [e] at h1
      cases h1
    · have e : ltM f = true := by
        show (double.order f 18442240474082181119 == some .lt) = true
        unfold Format.order
        rw [hs, en]
        rfl
      rw [e] at h2
      cases h2
  · have e : feq f f = false := by
      show (double.order f f == some .eq) = false
      unfold Format.order
      rw [hs]
      rfl
    rw [e] at h0
    cases h0

theorem xor_top {f : Nat} (hf : f < 18446744073709551616) : f ^^^ 9223372036854775808 = if f < 9223372036854775808 then f + 9223372036854775808 else f - 9223372036854775808 := by
  have e1 := Nat.xor_div_two_pow (a := f) (b := 9223372036854775808) (n := 63)
  have e2 := Nat.xor_mod_two_pow (a := f) (b := 9223372036854775808) (n := 63)
  simp only [show (2 ^ 63 : Nat) = 9223372036854775808 from rfl, Nat.div_self (show 0 < 9223372036854775808 by decide), Nat.mod_self, Nat.xor_zero] at e1 e2
  by_cases h : f < 9223372036854775808
  · rw [if_pos h]
    rw [Nat.div_eq_of_lt h, Nat.zero_xor] at e1
    rw [Nat.mod_eq_of_lt h] at e2
    omega
  · rw [if_neg h]
    have e3 : f / 9223372036854775808 = 1 := by omega
    rw [e3, Nat.xor_self] at e1
    omega
theorem read_neg {f : Nat} (hf : f < 18446744073709551616) : double.read (f ^^^ 9223372036854775808) = (double.read f).opposite := by
  have hm : (f ^^^ 9223372036854775808) % 9223372036854775808 = f % 9223372036854775808 := by rw [xor_top hf]; split <;> omega
  have hd : ((f ^^^ 9223372036854775808) / 9223372036854775808 % 2 == 1) = !(f / 9223372036854775808 % 2 == 1) := by
    rw [xor_top hf]
    by_cases h : f < 9223372036854775808
    · rw [if_pos h]
      have a : (f + 9223372036854775808) / 9223372036854775808 % 2 = 1 := by omega
      have b : f / 9223372036854775808 % 2 = 0 := by omega
      rw [a, b]
      rfl
    · rw [if_neg h]
      have a : (f - 9223372036854775808) / 9223372036854775808 % 2 = 0 := by omega
      have b : f / 9223372036854775808 % 2 = 1 := by omega
      rw [a, b]
      rfl
  unfold Format.read
  rw [sw_eq, bi_eq, inf_eq]
  dsimp only
  rw [hm, hd]
  split
  · rfl
  · split
    · rfl
    · split <;> rfl
theorem signed_not (s : Bool) (m a : Nat) : signed (!s) m a = - signed s m a := by
  unfold signed
  cases s <;> simp
theorem order_neg (d : Datum) (m : Nat) (e : Int) : (d.opposite.order (.number false m e) = some .gt) ↔ (d.order (.number true m e) = some .lt) := by
  cases d with
  | nan s t => simp [Datum.opposite, Datum.order]
  | infinity s => cases s <;> simp [Datum.opposite, Datum.order]
  | number s n j =>
    simp only [Datum.opposite, Datum.order, Option.some.injEq, cmp_gt, cmp_lt]
    rw [signed_not, show signed true m = fun a => - signed false m a from by funext a; exact signed_not false m a]
    dsimp only
    omega
theorem gt_neg {f : Nat} (hf : f < 18446744073709551616) : gtM (f ^^^ 9223372036854775808) = ltM f := by
  have em := read_max
  have en := read_nmax
  unfold maxZ at em
  unfold nmaxZ at en
  have h : double.order (f ^^^ 9223372036854775808) 9218868437227405311 = some .gt ↔ double.order f 18442240474082181119 = some .lt := by
    unfold Format.order
    rw [read_neg hf, em, en]
    exact order_neg _ _ _
  show (double.order (f ^^^ 9223372036854775808) 9218868437227405311 == some .gt) = (double.order f 18442240474082181119 == some .lt)
  rw [Bool.eq_iff_iff, beq_iff_eq, beq_iff_eq]
  exact h
end Go.Proofs.YtoafiombpokpaaaGreatDoor
