/- The walk of strconv's ftoa64: its beginning. -/
import Derived.Deep.QuietTactic
import Derived.BigQuiet
import Derived.Test.YtoafiombpokpaaaGreatDoorBitP
namespace Go.Proofs.YtoafiombpokpaaaGreatDoor
open Go.RowKit

set_option maxRecDepth 100000 in
set_option maxHeartbeats 8000000 in
theorem fb_open (b ex mt m : Nat) (neg : Bool) (q1 : ((b : Int) / 9223372036854775808 != 0) = neg) (q2 : bits .and .i64 ((b : Int) / 4503599627370496) 2047 = (ex : Int)) (q3 : bits .and .u64 (b : Int) 4503599627370495 = (mt : Int)) (q4 : bits .or .u64 (mt : Int) 4503599627370496 = (m : Int)) (b1 : ex < 2047) (hb : b < 18446744073709551616) (v : Value) (w : World) (Q : Ending → World → Prop)
    (HSEG : ∀ a n, S55 v neg (if ex = 0 then mt else m) (if ex = 0 then -1022 else (ex : Int) - 1023) a → (aC 10).wp Tryz.prog (bodyPost Tryz.prog Tryz.f55 Q) a (w.drewN n)) : Calls Tryz.prog 55 #[v, .float .f64 b, .int .u8 103, .int .i64 (-1)] w Q := by
  have HS := Lib.hid HSEG
  clear HSEG
  have hfb : ∀ W : World, (callFunc 77 #[.float .f64 b]).run Tryz.prog W = .ok (.value (.int .u64 b)) W := fun W => by
    rw [run_callFunc_extern Tryz.func77 (by kernel_rfl) (by kernel_rfl) (by kernel_rfl) (e := Extern.MathFloatBits.float64bits) (by kernel_rfl)]
    rfl
  have g0 : ((ex : Int) == 2047) = false := by rw [beq_eq_false_iff_ne]; omega
  have g1 : (ex = 2047) = False := eq_false (by omega)
  go_enter Tryz.func55, Tryz.ntmps55
  refine wp_seq_k fun K0 hK0 => ?_
  have HK0 := Lib.hid hK0
  clear hK0
  go_wp2_with fail
  refine HK0.out _ _ ?_
  refine wp_seq_k fun K1 hK1 => ?_
  have HK1 := Lib.hid hK1
  clear hK1
  go_wp2_with fail
  refine HK1.out _ _ ?_
  refine wp_seq_k fun K2 hK2 => ?_
  have HK2 := Lib.hid hK2
  clear hK2
  go_wp2_with fail
  refine HK2.out _ _ ?_
  refine wp_seq_k fun K3 hK3 => ?_
  have HK3 := Lib.hid hK3
  clear hK3
  go_wp2_with fail
  refine HK3.out _ _ ?_
  refine wp_seq_k fun K4 hK4 => ?_
  have HK4 := Lib.hid hK4
  clear hK4
  go_wp2_with fail
  refine HK4.out _ _ ?_
  refine wp_seq_k fun K5 hK5 => ?_
  have HK5 := Lib.hid hK5
  clear hK5
  by_cases h0 : ex = 0
  · have HS := Lib.hid (show ∀ a n, S55 v neg mt (-1022) a → (aC 10).wp Tryz.prog (bodyPost Tryz.prog Tryz.f55 Q) a (w.drewN n) from by have h := HS.out; rw [if_pos h0, if_pos h0] at h; exact h)
    subst h0
    go_quiet ((fail))
    refine HK5.out _ _ ?_
    refine wp_seq_k fun K6 hK6 => ?_
    have HK6 := Lib.hid hK6
    clear hK6
    go_wp2_with fail
    refine HK6.out _ _ ?_
    refine wp_seq_k fun K7 hK7 => ?_
    have HK7 := Lib.hid hK7
    clear hK7
    go_wp2_with fail
    refine HK7.out _ _ ?_
    refine wp_seq_k fun K8 hK8 => ?_
    have HK8 := Lib.hid hK8
    clear hK8
    go_wp2_with fail
    refine HK8.out _ _ ?_
    refine wp_seq_k fun K9 hK9 => ?_
    have HK9 := Lib.hid (show ∀ a w', (aC 10).wp Tryz.prog (bodyPost Tryz.prog Tryz.f55 Q) a w' → K9 a w' from hK9)
    clear hK9
    go_wp2_with fail
    refine HK9.out _ _ (HS.out _ _ ⟨?_, ?_, ?_, ?_, ?_, ?_, ?_, ?_, ?_⟩)
    all_goals rfl
  · have HS := Lib.hid (show ∀ a n, S55 v neg m ((ex : Int) - 1023) a → (aC 10).wp Tryz.prog (bodyPost Tryz.prog Tryz.f55 Q) a (w.drewN n) from by have h := HS.out; rw [if_neg h0, if_neg h0] at h; exact h)
    have g2 : ((ex : Int) == 0) = false := by rw [beq_eq_false_iff_ne]; omega
    have g3 : (ex = 0) = False := eq_false h0
    clear h0
    go_quiet ((fail))
    refine HK5.out _ _ ?_
    refine wp_seq_k fun K6 hK6 => ?_
    have HK6 := Lib.hid hK6
    clear hK6
    go_wp2_with fail
    refine HK6.out _ _ ?_
    refine wp_seq_k fun K7 hK7 => ?_
    have HK7 := Lib.hid hK7
    clear hK7
    go_wp2_with fail
    refine HK7.out _ _ ?_
    refine wp_seq_k fun K8 hK8 => ?_
    have HK8 := Lib.hid hK8
    clear hK8
    go_wp2_with fail
    refine HK8.out _ _ ?_
    refine wp_seq_k fun K9 hK9 => ?_
    have HK9 := Lib.hid (show ∀ a w', (aC 10).wp Tryz.prog (bodyPost Tryz.prog Tryz.f55 Q) a w' → K9 a w' from hK9)
    clear hK9
    go_wp2_with fail
    refine HK9.out _ _ (HS.out _ _ ⟨?_, ?_, ?_, ?_, ?_, ?_, ?_, ?_, ?_⟩)
    all_goals rfl
end Go.Proofs.YtoafiombpokpaaaGreatDoor
