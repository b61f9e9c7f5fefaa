/- The walks of the document's small functions on values, and of package value's True. -/
import Derived.Test.YtjlpjooaclfnlaaGreatDoorClean2
namespace Go.Proofs.YtjlpjooaclfnlaaGreatDoor
open Go.RowKit

theorem ret_bool {a b : Bool} (h : a = b) : Ending.returned (.bool a) = .returned (.bool b) := by rw [h]
theorem number_any (f : Nat) (w : World) : Calls Tryz.prog 47 #[.float .f64 f] w fun e w' => e = .returned (.bool (feq f f)) ∧ w = w' := by
  go_enter Tryz.func47, Tryz.ntmps47
  go_wp2
  go_ret
  exact ⟨rfl, rfl⟩

set_option maxHeartbeats 400000 in
theorem rbool_any (x : Bool) (w : World) : Calls Tryz.prog 21 #[.bool x] w (RetV (boolV x) w) := by
  have sf := store_float
  cases x
  · go_enter Tryz.func21, Tryz.ntmps21
    go_wp2
    exact bodyPost_ret (v := boolV false) (by simp [results, Tryz.results21, go_sem, bZ]) rfl ⟨rfl, by go_grown⟩
  · go_enter Tryz.func21, Tryz.ntmps21
    go_wp2
    exact bodyPost_ret (v := boolV true) (by simp [results, Tryz.results21, go_sem, bZ]) rfl ⟨rfl, by go_grown⟩

/-- the document's truth: 0 no, 1 unknown, 2 yes -/
def truthR (k n : Int) : Int := if k = 4 then (if n = 0 then 0 else 2) else 1
set_option maxHeartbeats 400000 in
theorem rtruth_any (k n : Int) (f s : Value) (w : World) : Calls Tryz.prog 33 #[.agg #[.int .i64 k, .int .i64 n, f, s]] w (RetV (.int .i64 (truthR k n)) w) := by
  by_cases hk : k = 4
  · subst hk
    by_cases hn : n = 0
    · subst hn
      go_enter Tryz.func33, Tryz.ntmps33
      go_wp2
      go_ret
      exact ⟨rfl, by go_grown⟩
    · have H := Lib.hid (show truthR 4 n = 2 by unfold truthR; simp [hn])
      have hb2 : (n == 0) = false := by simpa using hn
      go_enter Tryz.func33, Tryz.ntmps33
      go_wp2
      go_ret
      exact ⟨ret_i64 H.out.symm, by go_grown⟩
  · have H := Lib.hid (show truthR k n = 1 by unfold truthR; simp [hk])
    have hb : (k != 4) = true := by simpa using hk
    go_enter Tryz.func33, Tryz.ntmps33
    go_wp2
    go_ret
    exact ⟨ret_i64 H.out.symm, by go_grown⟩

/-- what the document makes of a truth -/
def rofV (t : Int) : Value := if t = 1 then nullV else boolV (t == 2)
set_option maxHeartbeats 400000 in
theorem rof_any (t : Int) (w : World) : Calls Tryz.prog 54 #[.int .i64 t] w (RetV (rofV t) w) := by
  have sf := store_float
  by_cases h1 : t = 1
  · subst h1
    go_enter Tryz.func54, Tryz.ntmps54
    go_wp2
    exact bodyPost_ret (v := nullV) (by simp [results, Tryz.results54, go_sem]) rfl ⟨rfl, by go_grown⟩
  · have b1 : (t == 1) = false := by simpa using h1
    by_cases h2 : t = 2
    · subst h2
      go_enter Tryz.func54, Tryz.ntmps54
      go_wp2
      exact bodyPost_ret (v := boolV true) (by simp [results, Tryz.results54, go_sem, bZ]) rfl ⟨rfl, by go_grown⟩
    · have b2 : (t == 2) = false := by simpa using h2
      have H := Lib.hid (show rofV t = boolV false by unfold rofV; rw [if_neg h1, b2])
      rw [H.out]
      go_enter Tryz.func54, Tryz.ntmps54
      go_wp2
      exact bodyPost_ret (v := boolV false) (by simp [results, Tryz.results54, go_sem, bZ]) rfl ⟨rfl, by go_grown⟩

set_option maxHeartbeats 400000 in
theorem true_any (k n : Int) (f : Nat) (s : ByteArray) (w : World) : Calls Tryz.prog 32 #[vV k n f s] w (RetV (.bool (decide (truthZ k n = 1))) w) := by
  by_cases hk : k = 4
  · subst hk
    by_cases hn : n = 0
    · subst hn
      go_enter Tryz.func32, Tryz.ntmps32
      go_wp2
      go_ret
      exact ⟨rfl, by go_grown⟩
    · have H := Lib.hid (show decide (truthZ 4 n = 1) = true by unfold truthZ; simp [hn])
      have hb : (n != 0) = true := by simpa using hn
      go_enter Tryz.func32, Tryz.ntmps32
      go_wp2
      go_ret
      exact ⟨ret_bool H.out.symm, by go_grown⟩
  · have H := Lib.hid (show decide (truthZ k n = 1) = false by unfold truthZ; simp [hk])
    have hb : (k != 4) = true := by simpa using hk
    go_enter Tryz.func32, Tryz.ntmps32
    go_wp2
    go_ret
    exact ⟨ret_bool H.out.symm, by go_grown⟩
end Go.Proofs.YtjlpjooaclfnlaaGreatDoor
