/- The walks of the statements' own small functions: lives, short; of Write at 2; of Fits. -/
import Derived.Test.YtjlpjooaclfnlaaGreatDoorArith
namespace Go.Proofs.YtjlpjooaclfnlaaGreatDoor
open Go.RowKit

theorem small2_any (w : World) : Calls Tryz.prog 72 #[.int .i64 2] w fun e w' => e = .returned (.string ⟨#[50]⟩) ∧ w = w' := by
  go_enter Tryz.func72, Tryz.ntmps72
  go_wp2
  go_ret
  exact ⟨rfl, rfl⟩
theorem format2_any (w : World) : Calls Tryz.prog 66 #[.int .i64 2, .int .i64 10] w fun e w' => e = .returned (.string ⟨#[50]⟩) ∧ w = w' := by
  go_enter Tryz.func66, Tryz.ntmps66
  go_wp2_with (go_at_call 72; (with_reducible refine (small2_any _).mono ?_); rintro e w' ⟨rfl, rfl⟩)
  go_ret
  exact ⟨rfl, rfl⟩
theorem formatw_any (w : World) : Calls Tryz.prog 55 #[.int .i64 2, .int .i64 10] w fun e w' => e = .returned (.string ⟨#[50]⟩) ∧ w = w' := by
  go_enter Tryz.func55, Tryz.ntmps55
  go_wp2_with (go_at_call 66; (with_reducible refine (format2_any _).mono ?_); rintro e w' ⟨rfl, rfl⟩)
  go_ret
  exact ⟨rfl, rfl⟩
set_option maxRecDepth 100000 in
set_option maxHeartbeats 1000000 in
theorem write2_any (w : World) : Calls Tryz.prog 40 #[intV 2] w (RetV (.string ⟨#[50]⟩) w) := by
  have sf := store_float
  have HC := Lib.hid (show ∀ W, Calls Tryz.prog 26 #[intV 2] W (RetV (intV 2) W) from fun W => clean_any 1 2 0 ⟨#[]⟩ W)
  have HR := Lib.hid (Row4.new w (.int .i64 1) (.int .i64 2) (.float .f64 0) (.string ⟨#[]⟩))
  have hA : Below w.heap.size w (w.alloc (.cells #[.int .i64 1, .int .i64 2, .float .f64 0, .string ⟨#[]⟩] 24)) := by go_grown
  go_enter Tryz.func40, Tryz.ntmps40
  go_wp2_with (first
    | (go_at_call 26; (with_reducible refine (HC.out _).mono ?_); rintro e w2 ⟨rfl, hB⟩; obtain ⟨⟨d0, d1, d2, d3⟩, ⟨f0, f1, f2, f3⟩⟩ := (HR.out.call hB).cells; have hD := hA.trans (hB.mono hA.size); clear hB)
    | (go_at_call 55; (with_reducible refine (formatw_any _).mono ?_); rintro e w' ⟨rfl, rfl⟩)
    | fail)
  go_ret
  exact ⟨rfl, (((hD.setCell (Nat.le_refl _) _).setCell (Nat.le_refl _) _).setCell (Nat.le_refl _) _).setCell (Nat.le_refl _) _⟩

set_option maxRecDepth 100000 in
set_option maxHeartbeats 2000000 in
theorem lives_any (w : World) : Calls Tryz.prog 11 #[] w (RetV (.bool true) w) := by
  have sf := store_float
  have HA : ∀ W, Calls Tryz.prog 15 #[.string ⟨#[43]⟩, intV 1, intV 1] W (RetV (intV 2) W) := fun W => by
    have := arith_any ⟨#[43]⟩ 1 1 0 ⟨#[]⟩ 1 1 0 ⟨#[]⟩ W (by unfold In64; omega) (by unfold In64; omega)
    have e : arV (ByteArray.toList ⟨#[43]⟩) (clK 1) (clN 1 1) (clF 1 0) (clK 1) (clN 1 1) (clF 1 0) = intV 2 := by
      rw [ByteArray.toList_eq]; rfl
    rwa [e] at this
  have HC : ∀ W, Calls Tryz.prog 22 #[.string ⟨#[60]⟩, vV 3 0 0 ⟨#[97]⟩, vV 3 0 0 ⟨#[97, 98]⟩] W (RetV (boolV true) W) := fun W => by
    have := compare_any ⟨#[60]⟩ 3 0 0 ⟨#[97]⟩ 3 0 0 ⟨#[97, 98]⟩ W
    have e : cmpV (ByteArray.toList ⟨#[60]⟩) (clK 3) (clN 3 0) (clF 3 0) (clS 3 ⟨#[97]⟩) (clK 3) (clN 3 0) (clF 3 0) (clS 3 ⟨#[97, 98]⟩) = boolV true := by
      rw [ByteArray.toList_eq]; rfl
    rwa [e] at this
  have HT : ∀ W, Calls Tryz.prog 32 #[boolV true] W (RetV (.bool true) W) := fun W => by
    have := true_any 4 1 0 ⟨#[]⟩ W
    have e : decide (truthZ 4 1 = 1) = true := by decide
    rwa [e] at this
  have HA := Lib.hid HA
  have HC := Lib.hid HC
  have HT := Lib.hid HT
  go_enter Tryz.func11, Tryz.ntmps11
  have hD := Below.refl w.heap.size w
  go_wp2_with (first
    | (go_at_call 14; (with_reducible refine (ofint_any _ _).mono ?_); rintro e w2 ⟨rfl, hB⟩; have hD := hD.trans (hB.mono hD.size); clear hB)
    | (go_at_call 15; (with_reducible refine (HA.out _).mono ?_); rintro e w2 ⟨rfl, hB⟩; have hD := hD.trans (hB.mono hD.size); clear hB)
    | (go_at_call 40; (with_reducible refine (write2_any _).mono ?_); rintro e w2 ⟨rfl, hB⟩; have hD := (hD.alloc hD.size _).trans (hB.mono (hD.alloc hD.size _).size); clear hB)
    | (go_at_call 19; (with_reducible refine (oftext_any _ _).mono ?_); rintro e w2 ⟨rfl, hB⟩; have hD := hD.trans (hB.mono hD.size); clear hB)
    | (go_at_call 22; (with_reducible refine (HC.out _).mono ?_); rintro e w2 ⟨rfl, hB⟩; have hD := hD.trans (hB.mono hD.size); clear hB)
    | (go_at_call 32; (with_reducible refine (HT.out _).mono ?_); rintro e w2 ⟨rfl, hB⟩; have hD := hD.trans (hB.mono hD.size); clear hB)
    | fail)
  go_ret
  exact ⟨rfl, hD⟩
end Go.Proofs.YtjlpjooaclfnlaaGreatDoor
