/- The walks of next, number at the small texts of lives. -/
import Derived.Test.YtacodkmbefhicaaGreatDoorNext
namespace Go.Proofs.YtacodkmbefhicaaGreatDoor
open Go.RowKit

set_option maxRecDepth 100000 in
set_option maxHeartbeats 4000000 in
theorem number_1 (w : World) : Calls Tryz.prog 34 #[.string ⟨#[49]⟩] w (RetV (nextV 3 ⟨#[49]⟩ 1 0) w) := by
  have HS1 := Lib.hid (fun W => (show spanR digP [49] = 1 by decide) ▸ dig_span ⟨#[49]⟩ (by decide) W)
  have HS0 := Lib.hid (fun W => (show spanR digP [] = 0 by decide) ▸ dig_span .empty (by decide) W)
  have HTP := Lib.hid (show ∀ W, Calls Tryz.prog 46 #[.string .empty, .string ⟨#[46]⟩] W (SameV (.string .empty) W) from fun W => (Tryz.strings_TrimPrefix .empty ⟨#[46]⟩ W).mono (fun e w' h => ⟨h.1, h.2.symm⟩))
  have HHP := Lib.hid (show ∀ W, Calls Tryz.prog 36 #[.string .empty, .string ⟨#[46]⟩] W (SameV (.bool false) W) from fun W => (Tryz.strings_HasPrefix .empty ⟨#[46]⟩ W).mono (fun e w' h => ⟨h.1, h.2.symm⟩))
  have h0 := heap_alloc_new w (.cells #[.int .i64 0, .string ⟨#[]⟩, .int .i64 0] 41)
  have hA := below1 w (.cells #[.int .i64 0, .string ⟨#[]⟩, .int .i64 0] 41)
  have H0 := Lib.hid h0
  have HA := Lib.hid hA
  clear h0 hA
  go_enter Tryz.func34, Tryz.ntmps34
  go_wp2_with (first
    | (go_at_call 19; first
        | ((with_reducible refine (HS1.out _).mono ?_); rintro e w3 ⟨rfl, hB3⟩; have HB3 := Lib.hid hB3; have HC3 := Lib.hid ((hB3.block w.heap.size (by simp)).trans H0.out); have HW3 := Lib.hid (HA.out.trans (hB3.mono HA.out.size)); clear hB3)
        | ((with_reducible refine (HS0.out _).mono ?_); rintro e w4 ⟨rfl, hB4⟩; have hq := (hB4.block w.heap.size (heap_lt HC3.out)).trans HC3.out; have HW4 := Lib.hid (HW3.out.trans (hB4.mono HW3.out.size)); have r0 := cell_of_row _ _ 0 _ _ _ hq; have r1 := cell_of_row _ _ 1 _ _ _ hq; have r2 := cell_of_row _ _ 2 _ _ _ hq; have g0 := frozen_of_row _ _ 0 _ _ hq; have g1 := frozen_of_row _ _ 1 _ _ hq; have g2 := frozen_of_row _ _ 2 _ _ hq; clear hB4 hq))
    | (go_at_call 46; (with_reducible refine (HTP.out _).mono ?_); rintro e w5 ⟨rfl, rfl⟩)
    | (go_at_call 36; (with_reducible refine (HHP.out _).mono ?_); rintro e w6 ⟨rfl, rfl⟩)
    | fail)
  refine bodyPost_ret (v := nextV 3 ⟨#[49]⟩ 1 0) (by simp [results, Tryz.results34, go_sem, r0, r1, r2, nextV, tokV]; rfl) rfl ⟨rfl, ?_⟩
  exact ((HW4.out.setCell (p := ⟨w.heap.size, 0, none⟩) (Nat.le_refl _) _).setCell (p := ⟨w.heap.size, 1, none⟩) (Nat.le_refl _) _).setCell (p := ⟨w.heap.size, 2, none⟩) (Nat.le_refl _) _
set_option maxRecDepth 100000 in
set_option maxHeartbeats 4000000 in
theorem next_1 (w : World) : Calls Tryz.prog 21 #[.string ⟨#[49]⟩] w (RetV (nextV 3 ⟨#[49]⟩ 1 0) w) := by
  have HLE := Lib.hid (show ∀ W, Calls Tryz.prog 30 #[.int .i32 49] W (SameV (.bool false) W) from fun W => letter_any 49 W)
  have HDI := Lib.hid (show ∀ W, Calls Tryz.prog 32 #[.int .i32 49] W (SameV (.bool true) W) from fun W => digit_any 49 W)
  have HNU := Lib.hid (show ∀ W, Calls Tryz.prog 34 #[.string ⟨#[49]⟩] W (RetV (.tuple #[.agg #[.int .i64 3, .string ⟨#[49]⟩, .int .i64 0], .int .i64 1, .int .i64 0]) W) from fun W => number_1 W)
  have h0 := heap_alloc_new w (.cells #[.int .i64 0, .string ⟨#[]⟩, .int .i64 0] 41)
  have hA := below1 w (.cells #[.int .i64 0, .string ⟨#[]⟩, .int .i64 0] 41)
  have H0 := Lib.hid h0
  have HA := Lib.hid hA
  clear h0 hA
  have hk : (⟨#[49]⟩ : ByteArray)[0] = (49 : UInt8) := rfl
  have hk2 : (((49 : UInt8).toNat : Nat) : Int) = 49 := rfl
  have hk3 : wrap32 49 = 49 := by decide +kernel
  go_enter Tryz.func21, Tryz.ntmps21
  go_wp2_with (first
    | (go_at_call 30; (with_reducible refine (HLE.out _).mono ?_); rintro e w5 ⟨rfl, rfl⟩)
    | (go_at_call 32; (with_reducible refine (HDI.out _).mono ?_); rintro e w6 ⟨rfl, rfl⟩)
    | (go_at_call 34; (with_reducible refine (HNU.out _).mono ?_); rintro e w4 ⟨rfl, hB4⟩; have hq := (hB4.block w.heap.size (heap_lt H0.out)).trans H0.out; have HW4 := Lib.hid (HA.out.trans (hB4.mono HA.out.size)); have r0 := cell_of_row _ _ 0 _ _ _ hq; have r1 := cell_of_row _ _ 1 _ _ _ hq; have r2 := cell_of_row _ _ 2 _ _ _ hq; have g0 := frozen_of_row _ _ 0 _ _ hq; have g1 := frozen_of_row _ _ 1 _ _ hq; have g2 := frozen_of_row _ _ 2 _ _ hq; clear hB4 hq)
    | fail)
  refine bodyPost_ret (v := nextV 3 ⟨#[49]⟩ 1 0) (by simp [results, Tryz.results21, go_sem, r0, r1, r2, nextV, tokV]) rfl ⟨rfl, ?_⟩
  exact ((HW4.out.setCell (p := ⟨w.heap.size, 0, none⟩) (Nat.le_refl _) _).setCell (p := ⟨w.heap.size, 1, none⟩) (Nat.le_refl _) _).setCell (p := ⟨w.heap.size, 2, none⟩) (Nat.le_refl _) _
set_option maxRecDepth 100000 in
set_option maxHeartbeats 4000000 in
theorem next_le (w : World) : Calls Tryz.prog 21 #[.string ⟨#[60, 61, 49]⟩] w (RetV (nextV 6 ⟨#[60, 61]⟩ 2 0) w) := by
  have HLE := Lib.hid (show ∀ W, Calls Tryz.prog 30 #[.int .i32 60] W (SameV (.bool false) W) from fun W => letter_any 60 W)
  have HDI := Lib.hid (show ∀ W, Calls Tryz.prog 32 #[.int .i32 60] W (SameV (.bool false) W) from fun W => digit_any 60 W)
  have HP1 := Lib.hid (show ∀ W, Calls Tryz.prog 36 #[.string ⟨#[60, 61, 49]⟩, .string ⟨#[60, 62]⟩] W (SameV (.bool false) W) from fun W => (Tryz.strings_HasPrefix ⟨#[60, 61, 49]⟩ ⟨#[60, 62]⟩ W).mono (fun e w' h => ⟨h.1, h.2.symm⟩))
  have HP2 := Lib.hid (show ∀ W, Calls Tryz.prog 36 #[.string ⟨#[60, 61, 49]⟩, .string ⟨#[60, 61]⟩] W (SameV (.bool true) W) from fun W => (Tryz.strings_HasPrefix ⟨#[60, 61, 49]⟩ ⟨#[60, 61]⟩ W).mono (fun e w' h => ⟨h.1, h.2.symm⟩))
  have hk : (⟨#[60, 61, 49]⟩ : ByteArray)[0] = (60 : UInt8) := rfl
  have hk2 : (((60 : UInt8).toNat : Nat) : Int) = 60 := rfl
  have hk3 : wrap32 60 = 60 := by decide +kernel
  go_enter Tryz.func21, Tryz.ntmps21
  go_wp2_with (first
    | (go_at_call 30; (with_reducible refine (HLE.out _).mono ?_); rintro e w5 ⟨rfl, rfl⟩)
    | (go_at_call 32; (with_reducible refine (HDI.out _).mono ?_); rintro e w6 ⟨rfl, rfl⟩)
    | fail)
  go_loopw [59] (fun i wr => ∃ k : Nat, k ≤ 1 ∧ i = .int .i64 k ∧ wr = (w.alloc (.cells #[.int .i64 0, .string ⟨#[]⟩, .int .i64 0] 41)).alloc (.cells #[.string ⟨#[60, 62]⟩, .string ⟨#[60, 61]⟩, .string ⟨#[62, 61]⟩] 9)) (fun i _ => 3 - (intOf i).toNat)
  case atStart => exact ⟨0, by omega, rfl, rfl⟩
  case round =>
    obtain ⟨k, hk, rfl, rfl⟩ := hrel
    have hk2 : k = 0 ∨ k = 1 := by omega
    rcases hk2 with rfl | rfl
    · go_wp2_with (first
        | (go_at_call 36; (with_reducible refine (HP1.out _).mono ?_); rintro e w5 ⟨rfl, rfl⟩)
        | fail)
      go_roundw
      case rel => exact ⟨1, Nat.le_refl _, rfl, trivial⟩
      case measure => simp [intOf]
    · go_wp2_with (first
        | (go_at_call 36; (with_reducible refine (HP2.out _).mono ?_); rintro e w5 ⟨rfl, rfl⟩)
        | fail)
      refine bodyPost_ret (v := nextV 6 ⟨#[60, 61]⟩ 2 0) (by simp [results, Tryz.results21, go_sem, nextV, tokV]) rfl ⟨rfl, ?_⟩
      exact ((Below.refl _ _).alloc (Nat.le_refl _) _).alloc (by simp) _
end Go.Proofs.YtacodkmbefhicaaGreatDoor
