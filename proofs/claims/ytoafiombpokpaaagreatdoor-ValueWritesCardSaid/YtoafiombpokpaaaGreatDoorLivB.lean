/- The walk of the statement's own functions lives and short. -/
import Derived.Test.YtoafiombpokpaaaGreatDoorLivA
namespace Go.Proofs.YtoafiombpokpaaaGreatDoor
open Go.RowKit

theorem format2 (w : World) : Calls Tryz.prog 14 #[.int .i64 2, .int .i64 10] w fun e w' => e = .returned (.string ⟨#[50]⟩) ∧ w' = w := by
  have h := Tryz.strconv_FormatInt_10_small 2 (by decide) w
  rw [show (⟨(Lib.decDigits 2).toArray⟩ : ByteArray) = ⟨#[50]⟩ from by decide +kernel] at h
  exact h
set_option maxRecDepth 100000 in
set_option maxHeartbeats 1000000 in
theorem write2 (w : World) : Calls Tryz.prog 6 #[vV 1 2 0 ⟨#[]⟩] w (RetV (.string ⟨#[50]⟩) w) := by
  have stf := store_float
  have HC := Lib.hid (show ∀ W, Calls Tryz.prog 13 #[vV 1 2 0 ⟨#[]⟩] W (RetV (vV 1 2 0 ⟨#[]⟩) W) from fun W => clean_any 1 2 0 ⟨#[]⟩ W)
  have HR := Lib.hid (Row4.new w (.int .i64 1) (.int .i64 2) (.float .f64 0) (.string ⟨#[]⟩))
  have hA : Below w.heap.size w (w.alloc (.cells #[.int .i64 1, .int .i64 2, .float .f64 0, .string ⟨#[]⟩] 24)) := by go_grown
  have HF := Lib.hid format2
  go_enter Tryz.func6, Tryz.ntmps6
  go_wp2_with (first
    | (go_at_call 13; (with_reducible refine (HC.out _).mono ?_); rintro e w2 ⟨rfl, hB⟩; obtain ⟨⟨d0, d1, d2, d3⟩, ⟨f0, f1, f2, f3⟩⟩ := (HR.out.call hB).cells; have hD := hA.trans (hB.mono hA.size); clear hB)
    | (go_at_call 14; (with_reducible refine (HF.out _).mono ?_); rintro e w' ⟨rfl, rfl⟩)
    | fail)
  go_ret
  exact ⟨rfl, (((hD.setCell (Nat.le_refl _) _).setCell (Nat.le_refl _) _).setCell (Nat.le_refl _) _).setCell (Nat.le_refl _) _⟩
set_option maxRecDepth 100000 in
set_option maxHeartbeats 2000000 in
theorem lives_any (w : World) : Calls Tryz.prog 4 #[] w (RetV (.bool true) w) := by
  have stf := store_float
  have HI := Lib.hid (show ∀ W, Calls Tryz.prog 9 #[.int .i64 1] W (RetV (vV 1 1 0 ⟨#[]⟩) W) from fun W => ofint_any 1 W)
  have HA := Lib.hid plus_t
  have HW := Lib.hid write2
  have HC := Lib.hid (less_t ⟨#[97]⟩ ⟨#[97, 98]⟩ (by decide +kernel))
  have HT := Lib.hid true_t
  go_enter Tryz.func4, Tryz.ntmps4
  have hD := Below.refl w.heap.size w
  go_wp2_with (first
    | (go_at_call 9; (with_reducible refine (HI.out _).mono ?_); rintro e w2 ⟨rfl, hB⟩; have hD := hD.trans (hB.mono hD.size); clear hB)
    | (go_at_call 8; (with_reducible refine (HA.out _).mono ?_); rintro e w2 ⟨rfl, hB⟩; have hD := hD.trans (hB.mono hD.size); clear hB)
    | (go_at_call 6; (with_reducible refine (HW.out _).mono ?_); rintro e w2 ⟨rfl, hB⟩; have hD := (hD.alloc hD.size _).trans (hB.mono (hD.alloc hD.size _).size); clear hB)
    | (go_at_call 12; (with_reducible refine (oftext_any _ _).mono ?_); rintro e w2 ⟨rfl, hB⟩; have hD := hD.trans (hB.mono hD.size); clear hB)
    | (go_at_call 11; (with_reducible refine (HC.out _).mono ?_); rintro e w2 ⟨rfl, hB⟩; have hD := hD.trans (hB.mono hD.size); clear hB)
    | (go_at_call 10; (with_reducible refine (HT.out _).mono ?_); rintro e w2 ⟨rfl, hB⟩; have hD := hD.trans (hB.mono hD.size); clear hB)
    | fail)
  go_ret
  exact ⟨rfl, hD⟩
end Go.Proofs.YtoafiombpokpaaaGreatDoor
