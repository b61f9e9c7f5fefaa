/- The walk of the document's Clean. -/
import Derived.Test.YtoafiombpokpaaaGreatDoorClean2
namespace Go.Proofs.YtoafiombpokpaaaGreatDoor
open Go.RowKit

def rclF (k : Int) (f : Nat) : Nat := if k = 2 then (if feq f 0 = true then 0 else f) else 0
@[reducible] def rclV (k n : Int) (f : Nat) (s : ByteArray) : Value := vV (clK k) (clN k n) (rclF k f) (clS k s)

set_option maxRecDepth 100000 in
set_option maxHeartbeats 4000000 in
theorem rclean_any (k n : Int) (f : Nat) (s : ByteArray) (w : World) : Calls Tryz.prog 17 #[vV k n f s] w (RetV (rclV k n f s) w) := by
  have sf := store_float
  by_cases h1 : k = 1
  · subst h1
    go_enter Tryz.func17, Tryz.ntmps17
    go_wp2
    exact bodyPost_ret (v := vV 1 n 0 ⟨#[]⟩) (by simp [results, Tryz.results17, go_sem]) rfl ⟨rfl, by go_grown⟩
  · by_cases h2 : k = 2
    · subst h2
      by_cases hz : feq f 0 = true
      · have H := Lib.hid (show rclV 2 n f s = vV 2 0 0 ⟨#[]⟩ by unfold rclV rclF; rw [if_pos rfl, if_pos hz]; rfl)
        have hb : (FloatKind.f64.format.order f 0 != some .eq) = false := by unfold feq at hz; unfold bne; rw [hz]; rfl
        rw [H.out]
        clear hz
        go_enter Tryz.func17, Tryz.ntmps17
        go_wp2
        exact bodyPost_ret (v := vV 2 0 0 ⟨#[]⟩) (by simp [results, Tryz.results17, go_sem]) rfl ⟨rfl, by go_grown⟩
      · have H := Lib.hid (show rclV 2 n f s = vV 2 0 f ⟨#[]⟩ by unfold rclV rclF; rw [if_pos rfl, if_neg hz]; rfl)
        have hb : (FloatKind.f64.format.order f 0 != some .eq) = true := by have h : feq f 0 = false := by simpa using hz
                                                                            unfold feq at h; unfold bne; rw [h]; rfl
        rw [H.out]
        clear hz
        go_enter Tryz.func17, Tryz.ntmps17
        go_wp2
        exact bodyPost_ret (v := vV 2 0 f ⟨#[]⟩) (by simp [results, Tryz.results17, go_sem]) rfl ⟨rfl, by go_grown⟩
    · by_cases h3 : k = 3
      · subst h3
        go_enter Tryz.func17, Tryz.ntmps17
        go_wp2
        exact bodyPost_ret (v := vV 3 0 0 s) (by simp [results, Tryz.results17, go_sem]) rfl ⟨rfl, by go_grown⟩
      · by_cases h4 : k = 4
        · subst h4
          by_cases hn : n = 0
          · subst hn
            go_enter Tryz.func17, Tryz.ntmps17
            go_wp2
            exact bodyPost_ret (v := vV 4 0 0 ⟨#[]⟩) (by simp [results, Tryz.results17, go_sem]) rfl ⟨rfl, by go_grown⟩
          · have H := Lib.hid (show rclV 4 n f s = vV 4 1 0 ⟨#[]⟩ by unfold rclV clN; rw [if_neg (by omega), if_pos rfl, if_neg hn]; rfl)
            have hb : (n != 0) = true := by simpa using hn
            rw [H.out]
            go_enter Tryz.func17, Tryz.ntmps17
            go_wp2
            exact bodyPost_ret (v := vV 4 1 0 ⟨#[]⟩) (by simp [results, Tryz.results17, go_sem]) rfl ⟨rfl, by go_grown⟩
        · have H := Lib.hid (show rclV k n f s = nullV by unfold rclV clK clN rclF clS; rw [if_neg (by omega), if_neg h1, if_neg h4, if_neg h2, if_neg h3])
          rw [H.out]
          have b1 : (k == 1) = false := by simpa using h1
          have b2 : (k == 2) = false := by simpa using h2
          have b3 : (k == 3) = false := by simpa using h3
          have b4 : (k == 4) = false := by simpa using h4
          by_cases h0 : k = 0
          · subst h0
            go_enter Tryz.func17, Tryz.ntmps17
            go_wp2
            exact bodyPost_ret (v := nullV) (by simp [results, Tryz.results17, go_sem]) rfl ⟨rfl, by go_grown⟩
          · by_cases hneg : k < 0
            · go_enter Tryz.func17, Tryz.ntmps17
              go_wp2
              exact bodyPost_ret (v := nullV) (by simp [results, Tryz.results17, go_sem]) rfl ⟨rfl, by go_grown⟩
            · have h5 : 4 < k := by omega
              go_enter Tryz.func17, Tryz.ntmps17
              go_wp2
              exact bodyPost_ret (v := nullV) (by simp [results, Tryz.results17, go_sem]) rfl ⟨rfl, by go_grown⟩
end Go.Proofs.YtoafiombpokpaaaGreatDoor
