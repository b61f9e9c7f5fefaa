/- The walk of special at a digit; of bool2. -/
import Derived.Test.YtacodkmbefhicaaGreatDoorExact
namespace Go.Proofs.YtacodkmbefhicaaGreatDoor
open Go.RowKit

theorem digP_iff {r : Int} : digP r = true ↔ 48 ≤ r ∧ r ≤ 57 := by simp [digP]
set_option maxRecDepth 100000 in
set_option maxHeartbeats 4000000 in
theorem special_any (s : ByteArray) (w : World) (h0 : 0 < s.size) (hd : digP (s[0].toNat : Int) = true) : Calls Tryz.prog 78 #[.string s] w (RetV (.tuple #[.float .f64 0, .int .i64 0, .bool false]) w) := by
  obtain ⟨c, hc⟩ : ∃ c, c = s[0] := ⟨_, rfl⟩
  have hkc : s[0] = c := hc.symm
  rw [hkc] at hd
  obtain ⟨d1, d2⟩ := digP_iff.1 hd
  have h43 : ((c.toNat : Int) == 43) = false := by rw [beq_eq_false_iff_ne]; omega
  have h45 : ((c.toNat : Int) == 45) = false := by rw [beq_eq_false_iff_ne]; omega
  have h105 : ((c.toNat : Int) == 105) = false := by rw [beq_eq_false_iff_ne]; omega
  have h73 : ((c.toNat : Int) == 73) = false := by rw [beq_eq_false_iff_ne]; omega
  have h110 : ((c.toNat : Int) == 110) = false := by rw [beq_eq_false_iff_ne]; omega
  have h78 : ((c.toNat : Int) == 78) = false := by rw [beq_eq_false_iff_ne]; omega
  have hs0 : ((s.size : Int) == 0) = false := by rw [beq_eq_false_iff_ne]; omega
  have hc255 : (c.toNat : Int) ≤ 255 := by have := c.toNat_lt; omega
  have hc0 : (0 : Int) ≤ (c.toNat : Int) := by omega
  clear hc hd d1 d2
  go_enter Tryz.func78, Tryz.ntmps78
  go_wp2_with fail
  exact bodyPost_ret (v := .tuple #[.float .f64 0, .int .i64 0, .bool false]) (by simp [results, Tryz.results78, go_sem]) rfl ⟨rfl, Below.refl _ _⟩
theorem bool2_any (w : World) : Calls Tryz.prog 87 #[.bool false] w (RetV (.int .u64 0) w) := by
  go_enter Tryz.func87, Tryz.ntmps87
  go_wp2_with fail
  go_ret
  exact ⟨rfl, Below.refl _ _⟩
end Go.Proofs.YtacodkmbefhicaaGreatDoor
