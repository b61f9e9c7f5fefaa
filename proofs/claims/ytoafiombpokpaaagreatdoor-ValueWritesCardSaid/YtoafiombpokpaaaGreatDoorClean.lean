/- The walks of package value: values made, values cleaned. -/
import Derived.Test.YtoafiombpokpaaaGreatDoorWalks
import Derived.Test.YtoafiombpokpaaaGreatDoorFloatLaw
import Derived.Outline
namespace Go.Proofs.YtoafiombpokpaaaGreatDoor
open Go.RowKit

@[reducible] def vV (k n : Int) (f : Nat) (s : ByteArray) : Value := .agg #[.int .i64 k, .int .i64 n, .float .f64 f, .string s]
/-- the word of the one number that is none -/
def nanZ : Nat := 9221120237041090561
/-- are two words of floats one, as Go's '==' has it -/
def feq (x y : Nat) : Bool := FloatKind.f64.format.order x y == some .eq
def realZ (f : Nat) : Nat := if feq f f = false then nanZ else if feq f 0 = true then 0 else f

theorem frombits_nan (w : World) : (callFunc 56 #[.int .u64 9221120237041090561]).run Tryz.prog w = .ok (.value (.float .f64 nanZ)) w := by kernel_rfl

set_option maxRecDepth 100000 in
set_option maxHeartbeats 1000000 in
theorem nan_any (w : World) : Calls Tryz.prog 31 #[] w fun e w' => e = .returned (.float .f64 nanZ) ∧ w = w' := by
  have h := frombits_nan
  go_enter Tryz.func31, Tryz.ntmps31
  go_wp2_with fail
  go_ret
  exact ⟨rfl, rfl⟩

theorem isnan_any (f : Nat) (w : World) : Calls Tryz.prog 26 #[.float .f64 f] w fun e w' => e = .returned (.bool (!feq f f)) ∧ w = w' := by
  go_enter Tryz.func26, Tryz.ntmps26
  go_wp2
  go_ret
  exact ⟨rfl, rfl⟩

set_option maxRecDepth 100000 in
set_option maxHeartbeats 1000000 in
theorem ofreal_any (f : Nat) (w : World) : Calls Tryz.prog 21 #[.float .f64 f] w (RetV (vV 2 0 (realZ f) ⟨#[]⟩) w) := by
  have sf := store_float
  by_cases h1 : feq f f = false
  · have H := Lib.hid (show realZ f = nanZ by unfold realZ; rw [if_pos h1])
    have HI := Lib.hid (show ∀ w, Calls Tryz.prog 26 #[.float .f64 f] w fun e w' => e = .returned (.bool true) ∧ w = w' from fun w => by have := isnan_any f w; rw [h1] at this; exact this)
    have HN := Lib.hid nan_any
    clear h1
    generalize nanZ = nz at H HN
    go_enter Tryz.func21, Tryz.ntmps21
    go_wp2_with (first
      | (go_at_call 26; (with_reducible refine (HI.out _).mono ?_); rintro e w' ⟨rfl, rfl⟩)
      | (go_at_call 31; (with_reducible refine (HN.out _).mono ?_); rintro e w' ⟨rfl, rfl⟩)
      | fail)
    exact bodyPost_ret (v := vV 2 0 nz ⟨#[]⟩) (by simp [results, Tryz.results21, go_sem]) rfl ⟨by rw [H.out], by go_grown⟩
  · have h1' : feq f f = true := by simpa using h1
    have HI := Lib.hid (show ∀ w, Calls Tryz.prog 26 #[.float .f64 f] w fun e w' => e = .returned (.bool false) ∧ w = w' from fun w => by have := isnan_any f w; rw [h1'] at this; exact this)
    by_cases h2 : feq f 0 = true
    · have H := Lib.hid (show realZ f = 0 by unfold realZ; rw [if_neg h1, if_pos h2])
      have hb : (FloatKind.f64.format.order f 0 == some .eq) = true := h2
      clear h1 h1' h2
      go_enter Tryz.func21, Tryz.ntmps21
      go_wp2_with (first
        | (go_at_call 26; (with_reducible refine (HI.out _).mono ?_); rintro e w' ⟨rfl, rfl⟩)
        | fail)
      exact bodyPost_ret (v := vV 2 0 0 ⟨#[]⟩) (by simp [results, Tryz.results21, go_sem]) rfl ⟨by rw [H.out], by go_grown⟩
    · have H := Lib.hid (show realZ f = f by unfold realZ; rw [if_neg h1, if_neg h2])
      have hb : (FloatKind.f64.format.order f 0 == some .eq) = false := by simpa [feq] using h2
      clear h1 h1' h2
      go_enter Tryz.func21, Tryz.ntmps21
      go_wp2_with (first
        | (go_at_call 26; (with_reducible refine (HI.out _).mono ?_); rintro e w' ⟨rfl, rfl⟩)
        | fail)
      exact bodyPost_ret (v := vV 2 0 f ⟨#[]⟩) (by simp [results, Tryz.results21, go_sem]) rfl ⟨by rw [H.out], by go_grown⟩

set_option maxHeartbeats 1000000 in
theorem oftext_any (s : ByteArray) (w : World) : Calls Tryz.prog 12 #[.string s] w (RetV (vV 3 0 0 s) w) := by
  have sf := store_float
  go_enter Tryz.func12, Tryz.ntmps12
  go_wp2
  exact bodyPost_ret (v := vV 3 0 0 s) (by simp [results, Tryz.results12, go_sem]) rfl ⟨rfl, by go_grown⟩
end Go.Proofs.YtoafiombpokpaaaGreatDoor
