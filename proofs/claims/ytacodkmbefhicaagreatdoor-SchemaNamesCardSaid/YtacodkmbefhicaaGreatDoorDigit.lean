/- The walk of next at a digit. -/
import Derived.Test.YtacodkmbefhicaaGreatDoorNumber
namespace Go.Proofs.YtacodkmbefhicaaGreatDoor
open Go.RowKit

set_option maxRecDepth 100000 in
set_option maxHeartbeats 8000000 in
theorem next_digit (m : Int) (t : Nat → Nat) (ht : ∀ j, j < 23 → finD (Ieee.double.read (t j)) = true) (s : ByteArray) (w : World) (hG : Glob m t w) (h0 : 0 < s.size) (hs : s.size ≤ 12) (hl : letP (s[0].toNat : Int) = false) (hd : digP (s[0].toNat : Int) = true) : Calls Tryz.prog 21 #[.string s] w (OtherP s w) := by
  have HNU := Lib.hid (show ∀ W, Glob m t W → Calls Tryz.prog 34 #[.string s] W (OtherP s W) from fun W g => number_any m t ht s W g h0 hs hd)
  have HG := Lib.hid hG
  obtain ⟨c, hc⟩ : ∃ c, c = s[0] := ⟨_, rfl⟩
  have hkc : s[0] = c := hc.symm
  rw [hkc] at hl hd
  have hc255 : (c.toNat : Int) ≤ 255 := by have := c.toNat_lt; omega
  have hc0 : (0 : Int) ≤ (c.toNat : Int) := by omega
  have hne := text_ne h0
  have HLE := Lib.hid (fun W => hl ▸ letter_any (c.toNat : Int) W)
  have HDI := Lib.hid (fun W => hd ▸ digit_any (c.toNat : Int) W)
  clear hl hd hc hG ht
  go_enter Tryz.func21, Tryz.ntmps21
  go_wp2_with (first
    | (go_at_call 30; (with_reducible refine (HLE.out _).mono ?_); rintro e w5 ⟨rfl, rfl⟩)
    | (go_at_call 32; (with_reducible refine (HDI.out _).mono ?_); rintro e w6 ⟨rfl, rfl⟩)
    | (go_at_call 34; (with_reducible refine (HNU.out _ (HG.out.keep (below1 w _))).mono ?_); rintro e w4 ⟨k, er, S, n, rfl, hB4, hP⟩; have HP := Lib.hid hP; have HK4 := Lib.hid (num_kept hB4); obtain ⟨r0, r1, r2, g0, g1, g2⟩ := num_cells HK4.out; clear hB4 hP; unfold nextV tokV)
    | fail)
  refine bodyPost_ret (v := nextV k S n er) (by simp [results, Tryz.results21, go_sem, r0, r1, r2, nextV, tokV]) rfl ⟨k, er, S, n, rfl, ?_, HP.out⟩
  exact ((HK4.out.2.setCell (p := ⟨w.heap.size, 0, none⟩) (Nat.le_refl _) _).setCell (p := ⟨w.heap.size, 1, none⟩) (Nat.le_refl _) _).setCell (p := ⟨w.heap.size, 2, none⟩) (Nat.le_refl _) _
end Go.Proofs.YtacodkmbefhicaaGreatDoor
