/- The walk of strconv's shortFloat: its three beginnings. -/
import Derived.Test.YtoafiombpokpaaaGreatDoorUscC
namespace Go.Proofs.YtoafiombpokpaaaGreatDoor
open Go.RowKit

theorem and_00 : bits .and .i64 4503599627370496 1 = 0 := by kernel_rfl
set_option maxRecDepth 100000 in
set_option maxHeartbeats 4000000 in
theorem sf_a (e : Int) (he : -1140 ≤ e ∧ e ≤ 1000) (w : World) (hz : -1085 < e) (Q : Ending → World → Prop)
    (HSEG : ∀ a, S87 9223372036854775808 e (-(((e + 11) * 631305 - 261663) / 2097152)) 9223372036854775296 9223372036854776832 0 a → (sfC 7).wp Tryz.prog (bodyPost Tryz.prog Tryz.f87 Q) a w) : Calls Tryz.prog 87 #[.int .u64 9223372036854775808, .int .i64 e] w Q := by
  have HS := Lib.hid HSEG
  clear HSEG
  have HK := Lib.hid (fun w => skewed_any (e + 11) (by omega) (by omega) w)
  have h1 : (-1085 < e) = True := eq_true hz
  have h00 := and_00
  go_enter Tryz.func87, Tryz.ntmps87
  refine wp_seq_k fun K0 hK0 => ?_
  have HK0 := Lib.hid hK0
  clear hK0
  go_wp2_with (first
    | (go_at_call 102; (with_reducible refine (HK.out _).mono ?_); rintro e1 w1 ⟨rfl, rfl⟩)
    | fail)
  refine HK0.out _ _ ?_
  refine wp_seq_k fun K1 hK1 => ?_
  have HK1 := Lib.hid hK1
  clear hK1
  go_wp2_with (first
    | (go_at_call 102; (with_reducible refine (HK.out _).mono ?_); rintro e1 w1 ⟨rfl, rfl⟩)
    | fail)
  refine HK1.out _ _ ?_
  refine wp_seq_k fun K2 hK2 => ?_
  have HK2 := Lib.hid hK2
  clear hK2
  go_wp2_with (first
    | (go_at_call 102; (with_reducible refine (HK.out _).mono ?_); rintro e1 w1 ⟨rfl, rfl⟩)
    | fail)
  refine HK2.out _ _ ?_
  refine wp_seq_k fun K3 hK3 => ?_
  have HK3 := Lib.hid hK3
  clear hK3
  go_wp2_with (first
    | (go_at_call 102; (with_reducible refine (HK.out _).mono ?_); rintro e1 w1 ⟨rfl, rfl⟩)
    | fail)
  refine HK3.out _ _ ?_
  refine wp_seq_k fun K4 hK4 => ?_
  have HK4 := Lib.hid hK4
  clear hK4
  go_wp2_with (first
    | (go_at_call 102; (with_reducible refine (HK.out _).mono ?_); rintro e1 w1 ⟨rfl, rfl⟩)
    | fail)
  refine HK4.out _ _ ?_
  refine wp_seq_k fun K5 hK5 => ?_
  have HK5 := Lib.hid hK5
  clear hK5
  go_wp2_with (first
    | (go_at_call 102; (with_reducible refine (HK.out _).mono ?_); rintro e1 w1 ⟨rfl, rfl⟩)
    | fail)
  refine HK5.out _ _ ?_
  refine wp_seq_k fun K6 hK6 => ?_
  have HK6 := Lib.hid (show ∀ a w', (sfC 7).wp Tryz.prog (bodyPost Tryz.prog Tryz.f87 Q) a w' → K6 a w' from hK6)
  clear hK6
  go_wp2_with (first
    | (go_at_call 102; (with_reducible refine (HK.out _).mono ?_); rintro e1 w1 ⟨rfl, rfl⟩)
    | fail)
  refine HK6.out _ _ (HS.out _ ⟨?_, ?_, ?_, ?_, ?_, ?_, ?_, ?_⟩)
  all_goals first | rfl | skip
set_option maxRecDepth 100000 in
set_option maxHeartbeats 4000000 in
theorem sf_bf (m : Nat) (hm : m < 18446744073709551616) (e : Int) (hm2 : m ≠ 9223372036854775808) (he : -1140 ≤ e ∧ e ≤ 1000) (w : World) (hz : -1085 ≤ e) (mn mx odd : Nat) (Q : Ending → World → Prop)
    (hmn : IntKind.u64.wrap ((m : Int) - 1024) = (mn : Int)) (hmx : IntKind.u64.wrap ((m : Int) + 1024) = (mx : Int)) (hodd : bits .and .i64 ((m : Int) / 2048) 1 = (odd : Int))
    (HSEG : ∀ a, S87 m e (-((e + 11) * 78913 / 262144)) mn mx odd a → (sfC 7).wp Tryz.prog (bodyPost Tryz.prog Tryz.f87 Q) a w) : Calls Tryz.prog 87 #[.int .u64 m, .int .i64 e] w Q := by
  have HS := Lib.hid HSEG
  clear HSEG
  have HK := Lib.hid (fun w => log10_any (e + 11) (by omega) (by omega) w)
  have h0 : ((m : Int) == 9223372036854775808) = false := by rw [beq_eq_false_iff_ne]; omega
  have h1 : (-1085 ≤ e) = True := eq_true hz
  clear hm2
  go_enter Tryz.func87, Tryz.ntmps87
  refine wp_seq_k fun K0 hK0 => ?_
  have HK0 := Lib.hid hK0
  clear hK0
  go_wp2_with (first
    | (go_at_call 61; (with_reducible refine (HK.out _).mono ?_); rintro e1 w1 ⟨rfl, rfl⟩)
    | fail)
  refine HK0.out _ _ ?_
  refine wp_seq_k fun K1 hK1 => ?_
  have HK1 := Lib.hid hK1
  clear hK1
  go_wp2_with (first
    | (go_at_call 61; (with_reducible refine (HK.out _).mono ?_); rintro e1 w1 ⟨rfl, rfl⟩)
    | fail)
  refine HK1.out _ _ ?_
  refine wp_seq_k fun K2 hK2 => ?_
  have HK2 := Lib.hid hK2
  clear hK2
  go_wp2_with (first
    | (go_at_call 61; (with_reducible refine (HK.out _).mono ?_); rintro e1 w1 ⟨rfl, rfl⟩)
    | fail)
  refine HK2.out _ _ ?_
  refine wp_seq_k fun K3 hK3 => ?_
  have HK3 := Lib.hid hK3
  clear hK3
  go_wp2_with (first
    | (go_at_call 61; (with_reducible refine (HK.out _).mono ?_); rintro e1 w1 ⟨rfl, rfl⟩)
    | fail)
  refine HK3.out _ _ ?_
  refine wp_seq_k fun K4 hK4 => ?_
  have HK4 := Lib.hid hK4
  clear hK4
  go_wp2_with (first
    | (go_at_call 61; (with_reducible refine (HK.out _).mono ?_); rintro e1 w1 ⟨rfl, rfl⟩)
    | fail)
  refine HK4.out _ _ ?_
  refine wp_seq_k fun K5 hK5 => ?_
  have HK5 := Lib.hid hK5
  clear hK5
  go_wp2_with (first
    | (go_at_call 61; (with_reducible refine (HK.out _).mono ?_); rintro e1 w1 ⟨rfl, rfl⟩)
    | fail)
  refine HK5.out _ _ ?_
  refine wp_seq_k fun K6 hK6 => ?_
  have HK6 := Lib.hid (show ∀ a w', (sfC 7).wp Tryz.prog (bodyPost Tryz.prog Tryz.f87 Q) a w' → K6 a w' from hK6)
  clear hK6
  go_wp2_with (first
    | (go_at_call 61; (with_reducible refine (HK.out _).mono ?_); rintro e1 w1 ⟨rfl, rfl⟩)
    | fail)
  refine HK6.out _ _ (HS.out _ ⟨?_, ?_, ?_, ?_, ?_, ?_, ?_, ?_⟩)
  all_goals first | rfl | skip
set_option maxRecDepth 100000 in
set_option maxHeartbeats 4000000 in
theorem sf_bt (m : Nat) (hm : m < 18446744073709551616) (e : Int) (hm2 : m = 9223372036854775808 ∧ e ≤ -1085) (he : -1140 ≤ e ∧ e ≤ 1000) (w : World) (hz : -1085 ≤ e) (mn mx odd : Nat) (Q : Ending → World → Prop)
    (hmn : IntKind.u64.wrap ((m : Int) - 1024) = (mn : Int)) (hmx : IntKind.u64.wrap ((m : Int) + 1024) = (mx : Int)) (hodd : bits .and .i64 ((m : Int) / 2048) 1 = (odd : Int))
    (HSEG : ∀ a, S87 m e (-((e + 11) * 78913 / 262144)) mn mx odd a → (sfC 7).wp Tryz.prog (bodyPost Tryz.prog Tryz.f87 Q) a w) : Calls Tryz.prog 87 #[.int .u64 m, .int .i64 e] w Q := by
  have HS := Lib.hid HSEG
  clear HSEG
  have HK := Lib.hid (fun w => log10_any (e + 11) (by omega) (by omega) w)
  have h0 : ((m : Int) == 9223372036854775808) = true := by rw [beq_iff_eq]; omega
  have h3 : (-1085 < e) = False := eq_false (by omega)
  have h1 : (-1085 ≤ e) = True := eq_true hz
  clear hm2
  go_enter Tryz.func87, Tryz.ntmps87
  refine wp_seq_k fun K0 hK0 => ?_
  have HK0 := Lib.hid hK0
  clear hK0
  go_wp2_with (first
    | (go_at_call 61; (with_reducible refine (HK.out _).mono ?_); rintro e1 w1 ⟨rfl, rfl⟩)
    | fail)
  refine HK0.out _ _ ?_
  refine wp_seq_k fun K1 hK1 => ?_
  have HK1 := Lib.hid hK1
  clear hK1
  go_wp2_with (first
    | (go_at_call 61; (with_reducible refine (HK.out _).mono ?_); rintro e1 w1 ⟨rfl, rfl⟩)
    | fail)
  refine HK1.out _ _ ?_
  refine wp_seq_k fun K2 hK2 => ?_
  have HK2 := Lib.hid hK2
  clear hK2
  go_wp2_with (first
    | (go_at_call 61; (with_reducible refine (HK.out _).mono ?_); rintro e1 w1 ⟨rfl, rfl⟩)
    | fail)
  refine HK2.out _ _ ?_
  refine wp_seq_k fun K3 hK3 => ?_
  have HK3 := Lib.hid hK3
  clear hK3
  go_wp2_with (first
    | (go_at_call 61; (with_reducible refine (HK.out _).mono ?_); rintro e1 w1 ⟨rfl, rfl⟩)
    | fail)
  refine HK3.out _ _ ?_
  refine wp_seq_k fun K4 hK4 => ?_
  have HK4 := Lib.hid hK4
  clear hK4
  go_wp2_with (first
    | (go_at_call 61; (with_reducible refine (HK.out _).mono ?_); rintro e1 w1 ⟨rfl, rfl⟩)
    | fail)
  refine HK4.out _ _ ?_
  refine wp_seq_k fun K5 hK5 => ?_
  have HK5 := Lib.hid hK5
  clear hK5
  go_wp2_with (first
    | (go_at_call 61; (with_reducible refine (HK.out _).mono ?_); rintro e1 w1 ⟨rfl, rfl⟩)
    | fail)
  refine HK5.out _ _ ?_
  refine wp_seq_k fun K6 hK6 => ?_
  have HK6 := Lib.hid (show ∀ a w', (sfC 7).wp Tryz.prog (bodyPost Tryz.prog Tryz.f87 Q) a w' → K6 a w' from hK6)
  clear hK6
  go_wp2_with (first
    | (go_at_call 61; (with_reducible refine (HK.out _).mono ?_); rintro e1 w1 ⟨rfl, rfl⟩)
    | fail)
  refine HK6.out _ _ (HS.out _ ⟨?_, ?_, ?_, ?_, ?_, ?_, ?_, ?_⟩)
  all_goals first | rfl | skip
set_option maxRecDepth 100000 in
set_option maxHeartbeats 4000000 in
theorem sf_ct (m : Nat) (_hm : m < 18446744073709551616) (hm2 : m = 9223372036854775808) (z : Nat) (hz : 12 ≤ z ∧ z ≤ 63) (w : World) (mn mx odd : Nat) (Q : Ending → World → Prop)
    (hmn : IntKind.u64.wrap ((m : Int) - IntKind.u64.wrap (2 ^ (z - 1))) = (mn : Int)) (hmx : IntKind.u64.wrap ((m : Int) + IntKind.u64.wrap (2 ^ (z - 1))) = (mx : Int)) (hodd : bits .and .i64 (wrap64 ((m : Int) / 2 ^ z)) 1 = (odd : Int))
    (HSEG : ∀ a, S87 m (-1074 - (z : Int)) 324 mn mx odd a → (sfC 7).wp Tryz.prog (bodyPost Tryz.prog Tryz.f87 Q) a w) : Calls Tryz.prog 87 #[.int .u64 m, .int .i64 (-1074 - (z : Int))] w Q := by
  have HS := Lib.hid HSEG
  clear HSEG
  have HK := Lib.hid (show ∀ w, Calls Tryz.prog 61 #[.int .i64 (-1074)] w fun e w' => e = .returned (.int .i64 (-324)) ∧ w = w' from fun w => log10_any (-1074) (by omega) (by omega) w)
  have h0 : ((m : Int) == 9223372036854775808) = true := by rw [beq_iff_eq]; omega
  have h1 : (-1085 < -1074 - (z : Int)) = False := eq_false (by omega)
  have h2 : (-1085 ≤ -1074 - (z : Int)) = False := eq_false (by omega)
  have q1 : (11 : Int) + (-1085 - (-1074 - (z : Int))) = (z : Int) := by omega
  have q2 : (-1074 - (z : Int) + z) = -1074 := by omega
  clear hm2
  go_enter Tryz.func87, Tryz.ntmps87
  refine wp_seq_k fun K0 hK0 => ?_
  have HK0 := Lib.hid hK0
  clear hK0
  go_wp2_with (first
    | (go_at_call 61; (with_reducible refine (HK.out _).mono ?_); rintro e1 w1 ⟨rfl, rfl⟩)
    | fail)
  refine HK0.out _ _ ?_
  refine wp_seq_k fun K1 hK1 => ?_
  have HK1 := Lib.hid hK1
  clear hK1
  go_wp2_with (first
    | (go_at_call 61; (with_reducible refine (HK.out _).mono ?_); rintro e1 w1 ⟨rfl, rfl⟩)
    | fail)
  refine HK1.out _ _ ?_
  refine wp_seq_k fun K2 hK2 => ?_
  have HK2 := Lib.hid hK2
  clear hK2
  go_wp2_with (first
    | (go_at_call 61; (with_reducible refine (HK.out _).mono ?_); rintro e1 w1 ⟨rfl, rfl⟩)
    | fail)
  refine HK2.out _ _ ?_
  refine wp_seq_k fun K3 hK3 => ?_
  have HK3 := Lib.hid hK3
  clear hK3
  go_wp2_with (first
    | (go_at_call 61; (with_reducible refine (HK.out _).mono ?_); rintro e1 w1 ⟨rfl, rfl⟩)
    | fail)
  refine HK3.out _ _ ?_
  refine wp_seq_k fun K4 hK4 => ?_
  have HK4 := Lib.hid hK4
  clear hK4
  go_wp2_with (first
    | (go_at_call 61; (with_reducible refine (HK.out _).mono ?_); rintro e1 w1 ⟨rfl, rfl⟩)
    | fail)
  refine HK4.out _ _ ?_
  refine wp_seq_k fun K5 hK5 => ?_
  have HK5 := Lib.hid hK5
  clear hK5
  go_wp2_with (first
    | (go_at_call 61; (with_reducible refine (HK.out _).mono ?_); rintro e1 w1 ⟨rfl, rfl⟩)
    | fail)
  refine HK5.out _ _ ?_
  refine wp_seq_k fun K6 hK6 => ?_
  have HK6 := Lib.hid (show ∀ a w', (sfC 7).wp Tryz.prog (bodyPost Tryz.prog Tryz.f87 Q) a w' → K6 a w' from hK6)
  clear hK6
  go_wp2_with (first
    | (go_at_call 61; (with_reducible refine (HK.out _).mono ?_); rintro e1 w1 ⟨rfl, rfl⟩)
    | fail)
  refine HK6.out _ _ (HS.out _ ⟨?_, ?_, ?_, ?_, ?_, ?_, ?_, ?_⟩)
  all_goals first | rfl | skip
set_option maxRecDepth 100000 in
set_option maxHeartbeats 4000000 in
theorem sf_cf (m : Nat) (_hm : m < 18446744073709551616) (hm2 : m ≠ 9223372036854775808) (z : Nat) (hz : 12 ≤ z ∧ z ≤ 63) (w : World) (mn mx odd : Nat) (Q : Ending → World → Prop)
    (hmn : IntKind.u64.wrap ((m : Int) - IntKind.u64.wrap (2 ^ (z - 1))) = (mn : Int)) (hmx : IntKind.u64.wrap ((m : Int) + IntKind.u64.wrap (2 ^ (z - 1))) = (mx : Int)) (hodd : bits .and .i64 (wrap64 ((m : Int) / 2 ^ z)) 1 = (odd : Int))
    (HSEG : ∀ a, S87 m (-1074 - (z : Int)) 324 mn mx odd a → (sfC 7).wp Tryz.prog (bodyPost Tryz.prog Tryz.f87 Q) a w) : Calls Tryz.prog 87 #[.int .u64 m, .int .i64 (-1074 - (z : Int))] w Q := by
  have HS := Lib.hid HSEG
  clear HSEG
  have HK := Lib.hid (show ∀ w, Calls Tryz.prog 61 #[.int .i64 (-1074)] w fun e w' => e = .returned (.int .i64 (-324)) ∧ w = w' from fun w => log10_any (-1074) (by omega) (by omega) w)
  have h0 : ((m : Int) == 9223372036854775808) = false := by rw [beq_eq_false_iff_ne]; omega
  have h1 : (-1085 < -1074 - (z : Int)) = False := eq_false (by omega)
  have h2 : (-1085 ≤ -1074 - (z : Int)) = False := eq_false (by omega)
  have q1 : (11 : Int) + (-1085 - (-1074 - (z : Int))) = (z : Int) := by omega
  have q2 : (-1074 - (z : Int) + z) = -1074 := by omega
  clear hm2
  go_enter Tryz.func87, Tryz.ntmps87
  refine wp_seq_k fun K0 hK0 => ?_
  have HK0 := Lib.hid hK0
  clear hK0
  go_wp2_with (first
    | (go_at_call 61; (with_reducible refine (HK.out _).mono ?_); rintro e1 w1 ⟨rfl, rfl⟩)
    | fail)
  refine HK0.out _ _ ?_
  refine wp_seq_k fun K1 hK1 => ?_
  have HK1 := Lib.hid hK1
  clear hK1
  go_wp2_with (first
    | (go_at_call 61; (with_reducible refine (HK.out _).mono ?_); rintro e1 w1 ⟨rfl, rfl⟩)
    | fail)
  refine HK1.out _ _ ?_
  refine wp_seq_k fun K2 hK2 => ?_
  have HK2 := Lib.hid hK2
  clear hK2
  go_wp2_with (first
    | (go_at_call 61; (with_reducible refine (HK.out _).mono ?_); rintro e1 w1 ⟨rfl, rfl⟩)
    | fail)
  refine HK2.out _ _ ?_
  refine wp_seq_k fun K3 hK3 => ?_
  have HK3 := Lib.hid hK3
  clear hK3
  go_wp2_with (first
    | (go_at_call 61; (with_reducible refine (HK.out _).mono ?_); rintro e1 w1 ⟨rfl, rfl⟩)
    | fail)
  refine HK3.out _ _ ?_
  refine wp_seq_k fun K4 hK4 => ?_
  have HK4 := Lib.hid hK4
  clear hK4
  go_wp2_with (first
    | (go_at_call 61; (with_reducible refine (HK.out _).mono ?_); rintro e1 w1 ⟨rfl, rfl⟩)
    | fail)
  refine HK4.out _ _ ?_
  refine wp_seq_k fun K5 hK5 => ?_
  have HK5 := Lib.hid hK5
  clear hK5
  go_wp2_with (first
    | (go_at_call 61; (with_reducible refine (HK.out _).mono ?_); rintro e1 w1 ⟨rfl, rfl⟩)
    | fail)
  refine HK5.out _ _ ?_
  refine wp_seq_k fun K6 hK6 => ?_
  have HK6 := Lib.hid (show ∀ a w', (sfC 7).wp Tryz.prog (bodyPost Tryz.prog Tryz.f87 Q) a w' → K6 a w' from hK6)
  clear hK6
  go_wp2_with (first
    | (go_at_call 61; (with_reducible refine (HK.out _).mono ?_); rintro e1 w1 ⟨rfl, rfl⟩)
    | fail)
  refine HK6.out _ _ (HS.out _ ⟨?_, ?_, ?_, ?_, ?_, ?_, ?_, ?_⟩)
  all_goals first | rfl | skip
theorem i64_and1 (n : Int) : bits .and .i64 n 1 = n % 2 := by
  have h1 : (BitVec.ofInt 64 1).toNat = 2 ^ 1 - 1 := by decide
  have key : (BitVec.ofInt 64 n &&& BitVec.ofInt 64 1).toNat = (n % ((2 ^ 64 : Nat) : Int)).toNat % 2 ^ 1 := by
    rw [BitVec.toNat_and, BitVec.toNat_ofInt, h1, Nat.and_two_pow_sub_one_eq_mod]
  show IntKind.i64.wrap ((BitVec.ofInt 64 n &&& BitVec.ofInt 64 1).toNat : Nat) = n % 2
  rw [key, IntKind.wrap_i64]
  omega
theorem wrap_nat (z : Int) : ∃ n : Nat, IntKind.u64.wrap z = (n : Int) ∧ n < 18446744073709551616 := ⟨(IntKind.u64.wrap z).toNat, by rw [IntKind.wrap_u64]; omega, by rw [IntKind.wrap_u64]; omega⟩
theorem odd_nat (z : Int) : ∃ n : Nat, bits .and .i64 z 1 = (n : Int) ∧ n ≤ 1 := ⟨(z % 2).toNat, by rw [i64_and1]; omega, by omega⟩
/-- the shortest digits of a float, whatever they are: a number below 2^64, and where its point stands -/
theorem short_any (P : Nat → Nat) (hPb : ∀ k, P k < 18446744073709551616) (m : Nat) (hm : m < 18446744073709551616) (e : Int) (he : -1137 ≤ e ∧ e ≤ 970) :
    ∃ (d : Nat) (q : Int), d < 18446744073709551616 ∧ -400 ≤ q ∧ q ≤ 400 ∧ ∀ w, PowAt P w → 8 < w.heap.size → Calls Tryz.prog 87 #[.int .u64 m, .int .i64 e] w (SFO w d q) := by
  by_cases hA : m = 9223372036854775808 ∧ -1085 < e
  · obtain ⟨rfl, h2⟩ := hA
    obtain ⟨d, q, h3, h4, h5, h6⟩ := sf_tail P hPb 9223372036854775808 9223372036854775296 9223372036854776832 0 (by omega) (by omega) (by omega) (by omega) e (-(((e + 11) * 631305 - 261663) / 2097152)) (by omega) (by omega) (by omega) (by omega)
    exact ⟨d, q, h3, h4, h5, fun w hP h8 => sf_a e (by omega) w h2 _ fun a hS => h6 w a w (Below.refl _ _) hP h8 hS⟩
  · by_cases hB : -1085 ≤ e
    · obtain ⟨mn, h1, b1⟩ := wrap_nat ((m : Int) - 1024)
      obtain ⟨mx, h2, b2⟩ := wrap_nat ((m : Int) + 1024)
      obtain ⟨odd, h3, b3⟩ := odd_nat ((m : Int) / 2048)
      obtain ⟨d, q, h4, h5, h6, h7⟩ := sf_tail P hPb m mn mx odd hm b1 b2 b3 e (-((e + 11) * 78913 / 262144)) (by omega) (by omega) (by omega) (by omega)
      refine ⟨d, q, h4, h5, h6, fun w hP h8 => ?_⟩
      by_cases hm2 : m = 9223372036854775808
      · exact sf_bt m hm e ⟨hm2, by omega⟩ (by omega) w hB mn mx odd _ h1 h2 h3 fun a hS => h7 w a w (Below.refl _ _) hP h8 hS
      · exact sf_bf m hm e hm2 (by omega) w hB mn mx odd _ h1 h2 h3 fun a hS => h7 w a w (Below.refl _ _) hP h8 hS
    · obtain ⟨z, rfl⟩ : ∃ z : Nat, e = -1074 - (z : Int) := ⟨(-1074 - e).toNat, by omega⟩
      obtain ⟨mn, h1, b1⟩ := wrap_nat ((m : Int) - IntKind.u64.wrap (2 ^ (z - 1)))
      obtain ⟨mx, h2, b2⟩ := wrap_nat ((m : Int) + IntKind.u64.wrap (2 ^ (z - 1)))
      obtain ⟨odd, h3, b3⟩ := odd_nat (wrap64 ((m : Int) / 2 ^ z))
      obtain ⟨d, q, h4, h5, h6, h7⟩ := sf_tail P hPb m mn mx odd hm b1 b2 b3 (-1074 - (z : Int)) 324 (by omega) (by omega) (by omega) (by omega)
      refine ⟨d, q, h4, h5, h6, fun w hP h8 => ?_⟩
      by_cases hm2 : m = 9223372036854775808
      · exact sf_ct m hm hm2 z (by omega) w mn mx odd _ h1 h2 h3 fun a hS => h7 w a w (Below.refl _ _) hP h8 hS
      · exact sf_cf m hm hm2 z (by omega) w mn mx odd _ h1 h2 h3 fun a hS => h7 w a w (Below.refl _ _) hP h8 hS
end Go.Proofs.YtoafiombpokpaaaGreatDoor
