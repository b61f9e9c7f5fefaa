/- The walks of strconv's prescale and uscale. -/
import Derived.Test.YtoafiombpokpaaaGreatDoorUscA
namespace Go.Proofs.YtoafiombpokpaaaGreatDoor
open Go.RowKit

/-- the table of powers of ten, as it lies -/
def PowAt (P : Nat → Nat) (w : World) : Prop := ∀ k, k < 1392 → w.cell? ⟨8, k, none⟩ = some (.int .u64 (P k : Int))
theorem PowAt.keep {P : Nat → Nat} {w w' : World} (h : PowAt P w) (hB : Below w.heap.size w w') : PowAt P w' := fun k hk => cell_kept (h k hk) hB
set_option maxRecDepth 100000 in
theorem prescale_any (P : Nat → Nat) (pb : Nat) (u0 u1 u2 : Value) (e lp : Int) (p : Nat) (hp : p ≤ 690) (h1 : -10000 ≤ e) (h2 : e ≤ 10000) (h3 : -10000 ≤ lp) (h4 : lp ≤ 10000) (w : World) (hP : PowAt P w) (hz : w.heap[pb]? = some (.cells #[u0, u1, u2] 127)) (hpb : 8 < pb) :
    Calls Tryz.prog 103 #[.pointer (some ⟨pb, 0, none⟩), .int .i64 e, .int .i64 ((p : Int) - 348), .int .i64 lp] w fun en w' => en = .returned (.tuple #[]) ∧ w' = ((w.setCell ⟨pb, 0, none⟩ (.int .u64 (P (p * 2)))).setCell ⟨pb, 1, none⟩ (.int .u64 (P (p * 2 + 1)))).setCell ⟨pb, 2, none⟩ (.int .i64 (-(e + lp + 3))) := by
  have t0 := hP (p * 2) (by omega)
  have t1 := hP (p * 2 + 1) (by omega)
  have c0 : w.cell? ⟨pb, 0, none⟩ = some u0 := cell_of_row _ _ 0 _ _ _ hz
  have c1 : w.cell? ⟨pb, 1, none⟩ = some u1 := cell_of_row _ _ 1 _ _ _ hz
  have c2 : w.cell? ⟨pb, 2, none⟩ = some u2 := cell_of_row _ _ 2 _ _ _ hz
  have f0 := frozen_of_row _ _ 0 _ _ hz
  have f1 := frozen_of_row _ _ 1 _ _ hz
  have f2 := frozen_of_row _ _ 2 _ _ hz
  have l0 := heap_lt hz
  have n0 : (pb = 8) = False := eq_false (by omega)
  have n1 : (8 = pb) = False := eq_false (by omega)
  go_enter Tryz.func103, Tryz.ntmps103
  go_wp2
  go_end0
  exact ⟨rfl, rfl⟩
theorem i64_and63 (n : Int) : bits .and .i64 n 63 = n % 64 := by
  have h63 : (BitVec.ofInt 64 63).toNat = 2 ^ 6 - 1 := by decide
  have key : (BitVec.ofInt 64 n &&& BitVec.ofInt 64 63).toNat = (n % ((2 ^ 64 : Nat) : Int)).toNat % 2 ^ 6 := by
    rw [BitVec.toNat_and, BitVec.toNat_ofInt, h63, Nat.and_two_pow_sub_one_eq_mod]
  show IntKind.i64.wrap ((BitVec.ofInt 64 n &&& BitVec.ofInt 64 63).toNat : Nat) = n % 64
  rw [key, IntKind.wrap_i64]
  omega
theorem or_lt {a b : Nat} (ha : a < 18446744073709551616) (hb : b < 18446744073709551616) : a ||| b < 18446744073709551616 := Nat.or_lt_two_pow (n := 64) ha hb
set_option maxRecDepth 100000 in
set_option maxHeartbeats 1000000 in
theorem uscale_core (x hi lo s h m h2 m2 : Nat) (_hx : x < 18446744073709551616) (_hh : hi < 18446744073709551616) (_hl : lo < 18446744073709551616) (hs : s < 64) (b1 : h < 18446744073709551616) (_b2 : m < 18446744073709551616) (_b3 : h2 < 18446744073709551616)
    (HM : ∀ w, Calls Tryz.prog 122 #[.int .u64 x, .int .u64 hi] w fun e w' => e = .returned (.tuple #[.int .u64 (h : Int), .int .u64 (m : Int)]) ∧ w' = w) (HN : ∀ w, Calls Tryz.prog 122 #[.int .u64 x, .int .u64 lo] w fun e w' => e = .returned (.tuple #[.int .u64 (h2 : Int), .int .u64 (m2 : Int)]) ∧ w' = w) :
    ∃ v : Nat, v < 18446744073709551616 ∧ ∀ (pb : Nat) (w : World), w.cell? ⟨pb, 0, none⟩ = some (.int .u64 (hi : Int)) → w.cell? ⟨pb, 1, none⟩ = some (.int .u64 (lo : Int)) → w.cell? ⟨pb, 2, none⟩ = some (.int .i64 (s : Int)) →
      Calls Tryz.prog 105 #[.int .u64 x, .pointer (some ⟨pb, 0, none⟩)] w fun en w' => en = .returned (.int .u64 (v : Int)) ∧ Below w.heap.size w w' := by
  have HM := Lib.hid HM
  have HN := Lib.hid HN
  have hb : bits .and .i64 (s : Int) 63 = (s : Int) := by
    rw [i64_and63]
    omega
  have hq : h / 2 ^ s < 18446744073709551616 := Nat.lt_of_le_of_lt (Nat.div_le_self _ _) b1
  by_cases hA : IntKind.u64.wrap ((h : Int) / 2 ^ s * 2 ^ s) = (h : Int)
  · have a0 : (IntKind.u64.wrap ((h : Int) / 2 ^ s * 2 ^ s) == (h : Int)) = true := beq_iff_eq.2 hA
    have a1 : (IntKind.u64.wrap ((h : Int) / 2 ^ s * 2 ^ s) != (h : Int)) = false := by unfold bne; rw [a0]; rfl
    obtain ⟨b, hbb⟩ : ∃ b : Nat, (b : Int) = if decide (m < h2) = true then 1 else 0 := ⟨if decide (m < h2) = true then 1 else 0, by split <;> rfl⟩
    have HQ := Lib.hid (show ∀ w, Calls Tryz.prog 123 #[.bool (decide (m < h2))] w fun e w' => e = .returned (.int .u64 (b : Int)) ∧ w = w' from fun w => by rw [hbb]; exact bool2u_any _ w)
    have hb1 : b ≤ 1 := by have : (b : Int) ≤ 1 := by rw [hbb]; split <;> decide
                           omega
    obtain ⟨c, hcc⟩ : ∃ c : Nat, (c : Int) = if decide (1 < IntKind.u64.wrap ((m : Int) - (h2 : Int))) = true then 1 else 0 := ⟨if decide (1 < IntKind.u64.wrap ((m : Int) - (h2 : Int))) = true then 1 else 0, by split <;> rfl⟩
    have HQ2 := Lib.hid (show ∀ w, Calls Tryz.prog 123 #[.bool (decide (1 < IntKind.u64.wrap ((m : Int) - (h2 : Int))))] w fun e w' => e = .returned (.int .u64 (c : Int)) ∧ w = w' from fun w => by rw [hcc]; exact bool2u_any _ w)
    have hc1 : c < 18446744073709551616 := by have : (c : Int) ≤ 1 := by rw [hcc]; split <;> decide
                                              omega
    clear hbb hcc
    obtain ⟨h3, hh3⟩ : ∃ h3 : Nat, IntKind.u64.wrap ((h : Int) - (b : Int)) = (h3 : Int) := ⟨(IntKind.u64.wrap ((h : Int) - (b : Int))).toNat, by rw [IntKind.wrap_u64]; omega⟩
    have b3 : h3 < 18446744073709551616 := by rw [IntKind.wrap_u64] at hh3; omega
    have hq3 : h3 / 2 ^ s < 18446744073709551616 := Nat.lt_of_le_of_lt (Nat.div_le_self _ _) b3
    refine ⟨h3 / 2 ^ s ||| c, or_lt hq3 hc1, fun pb w c0 c1 c2 => ?_⟩
    have HO := Lib.hid (u64_or_nat (h3 / 2 ^ s) c hq3 hc1)
    have HF := Lib.hid (show ∀ W, Below w.heap.size w W → True from fun _ _ => trivial)
    clear hA
    go_enter Tryz.func105, Tryz.ntmps105
    go_wp2_with (first
      | (go_at_call 122; (with_reducible refine (HM.out _).mono ?_); rintro e w' ⟨rfl, rfl⟩)
      | (go_at_call 122; (with_reducible refine (HN.out _).mono ?_); rintro e w' ⟨rfl, rfl⟩)
      | (go_at_call 123; (with_reducible refine (HQ.out _).mono ?_); rintro e w' ⟨rfl, rfl⟩)
      | fail)
    go_region_law (first
      | (go_simp; go_at_call 123; (with_reducible refine (HQ2.out _).mono ?_); rintro e w' ⟨rfl, rfl⟩)
      | fail)
    all_goals
      go_wp2_with fail
      go_ret
      refine ⟨ret_u64 ?_, (Below.refl _ _).drew⟩
      have ho := HO.out
      rw [Int.natCast_ediv, Int.natCast_pow] at ho
      exact ho
  · have a0 : (IntKind.u64.wrap ((h : Int) / 2 ^ s * 2 ^ s) == (h : Int)) = false := beq_eq_false_iff_ne.2 hA
    have a1 : (IntKind.u64.wrap ((h : Int) / 2 ^ s * 2 ^ s) != (h : Int)) = true := by unfold bne; rw [a0]; rfl
    have a2 := eq_false hA
    clear hA
    refine ⟨h / 2 ^ s ||| 1, or_lt hq (by decide), fun pb w c0 c1 c2 => ?_⟩
    have HO := Lib.hid (u64_or_nat (h / 2 ^ s) 1 hq (by decide))
    go_enter Tryz.func105, Tryz.ntmps105
    go_wp2_with (first
      | (go_at_call 122; (with_reducible refine (HM.out _).mono ?_); rintro e w' ⟨rfl, rfl⟩)
      | fail)
    go_ret
    refine ⟨ret_u64 ?_, Below.refl _ _⟩
    have ho := HO.out
    rw [Int.natCast_ediv, Int.natCast_pow] at ho
    exact ho
/-- a number scaled -/
theorem uscale_any (x hi lo s : Nat) (hx : x < 18446744073709551616) (hh : hi < 18446744073709551616) (hl : lo < 18446744073709551616) (hs : s < 64) :
    ∃ v : Nat, v < 18446744073709551616 ∧ ∀ (pb : Nat) (w : World), w.cell? ⟨pb, 0, none⟩ = some (.int .u64 (hi : Int)) → w.cell? ⟨pb, 1, none⟩ = some (.int .u64 (lo : Int)) → w.cell? ⟨pb, 2, none⟩ = some (.int .i64 (s : Int)) →
      Calls Tryz.prog 105 #[.int .u64 x, .pointer (some ⟨pb, 0, none⟩)] w fun en w' => en = .returned (.int .u64 (v : Int)) ∧ Below w.heap.size w w' :=
  uscale_core x hi lo s (x * hi / 18446744073709551616) (x * hi % 18446744073709551616) (x * lo / 18446744073709551616) (x * lo % 18446744073709551616) hx hh hl hs (by rw [Nat.div_lt_iff_lt_mul (by decide)]; exact Nat.mul_lt_mul'' hx hh) (Nat.mod_lt _ (by decide)) (by rw [Nat.div_lt_iff_lt_mul (by decide)]; exact Nat.mul_lt_mul'' hx hl) (fun w => Tryz.bits_Mul64 x hi hx hh w) (fun w => Tryz.bits_Mul64 x lo hx hl w)
end Go.Proofs.YtoafiombpokpaaaGreatDoor
