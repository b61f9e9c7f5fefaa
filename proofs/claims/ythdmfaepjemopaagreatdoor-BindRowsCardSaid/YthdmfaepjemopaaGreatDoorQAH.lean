/- The walks of bind's small functions: like, common, folds; slices.Contains of numbers, of texts. The walk of common, with its world. -/
import Derived.Test.YthdmfaepjemopaaGreatDoorQAF
import Derived.Test.YthdmfaepjemopaaGreatDoorQAC
import Derived.Test.YthdmfaepjemopaaGreatDoorQAB
namespace Go.Proofs.YthdmfaepjemopaaGreatDoor
open Go.RowKit

theorem below_same {w w' : World} (h : w' = w) : Below w.heap.size w w' := h ▸ Below.refl _ _
theorem has_ints (A : Option Addr) (c : Nat) (l : List Int) (x : Int) (w : World) (h : IntsAt w A l) : Calls Tryz.prog 39 #[.slice A l.length c, .int .i64 x] w (RetV (.bool (l.contains x)) w) := by
  rcases h.2 with h0 | ⟨b, off, rfl, h2, h3⟩
  · subst h0
    exact (Tryz.slices_Contains_int_empty A c x w).mono fun e w' ⟨h1, h2⟩ => ⟨h1, below_same h2⟩
  · refine (Tryz.slices_Contains_int b off l.length c l x w (Nat.le_refl _) (by have := h.1; unfold maxLen at this; omega) (fun j hj => ?_)).mono fun e w' ⟨h1, h2⟩ => ⟨by rwa [List.take_length] at h1, below_same h2⟩
    rw [List.getD_eq_getElem?_getD, List.getElem?_eq_getElem hj]
    exact h3 j _ (List.getElem?_eq_getElem hj)
theorem containsS_any (l : List ByteArray) (x : ByteArray) : Lib.containsS l x = l.any (sameN · x) := by
  rw [Bool.eq_iff_iff, Lib.containsS_iff, List.any_eq_true]
  exact ⟨fun h => ⟨x, h, sameN_iff.2 rfl⟩, fun ⟨y, h1, h2⟩ => sameN_iff.1 h2 ▸ h1⟩
theorem has_strs (A : Option Addr) (c : Nat) (l : List ByteArray) (x : ByteArray) (w : World) (h : StrsAt w A l) : Calls Tryz.prog 34 #[.slice A l.length c, .string x] w (RetV (.bool (l.any (sameN · x))) w) := by
  have hm : l.length ≤ maxLen := by have := h.1; rwa [List.length_map] at this
  rcases h.2 with h0 | ⟨b, off, rfl, h2, h3⟩
  · rw [List.map_eq_nil_iff] at h0
    subst h0
    exact (Tryz.slices_Contains_string_empty A c x w).mono fun e w' ⟨h1, h2⟩ => ⟨h1, below_same h2⟩
  · refine (Tryz.slices_Contains_string b off l.length c l x w (Nat.le_refl _) (by unfold maxLen at hm; omega) (fun j hj => ?_)).mono fun e w' ⟨h1, h2⟩ => ⟨by rwa [List.take_length, containsS_any] at h1, below_same h2⟩
    rw [List.getD_eq_getElem?_getD, List.getElem?_eq_getElem hj]
    have := (h3 j [.string l[j]] (by rw [List.getElem?_map, List.getElem?_eq_getElem hj]; rfl)).2 0 _ rfl
    rwa [Nat.mul_one, Nat.add_zero] at this
set_option maxHeartbeats 1000000 in
theorem like_any (t : Int) (A : Option Addr) (c : Nat) (l : List Int) (w : World) (h : IntsAt w A l) : Calls Tryz.prog 26 #[.int .i64 t, .slice A l.length c] w (RetV (.bool (likeT t l)) w) := by
  have HC := Lib.hid (has_ints A c l t w h)
  by_cases h0 : t = 0
  · subst h0
    have e : likeT 0 l = true := by unfold likeT; rfl
    rw [e]
    go_enter Tryz.func26, Tryz.ntmps26
    go_wp2_with fail
    go_ret
    exact ⟨rfl, Below.refl _ _⟩
  · have e : likeT t l = l.contains t := by unfold likeT; rw [beq_eq_false_iff_ne.2 h0, Bool.false_or]
    rw [e]
    have h1 : (t == 0) = false := beq_eq_false_iff_ne.2 h0
    generalize l.contains t = bt at HC
    clear e
    go_enter Tryz.func26, Tryz.ntmps26
    go_wp2_with (first
      | (go_at_call 39; (with_reducible refine HC.out.mono ?_); rintro e w' ⟨rfl, hB⟩)
      | fail)
    go_ret
    exact ⟨rfl, hB⟩
def comT (a b : Int) : Bool := a == 0 || b == 0 || a == b
end Go.Proofs.YthdmfaepjemopaaGreatDoor
namespace Go.Proofs.YthdmfaepjemopaaGreatDoor
open Go.RowKit

set_option maxHeartbeats 2000000 in
theorem common_y (a b : Int) (w : World) (h : comT a b = true) : Calls Tryz.prog 42 #[.int .i64 a, .int .i64 b] w (fun e w' => e = .returned (.int .i64 (max a b)) ∧ w' = w) := by
  have HC := fun w => check_yes 70 w
  have hc : a = 0 ∨ (a ≠ 0 ∧ b = 0) ∨ (a ≠ 0 ∧ b ≠ 0 ∧ a = b) := by
    unfold comT at h
    simp only [Bool.or_eq_true, beq_iff_eq] at h
    omega
  clear h
  rcases hc with rfl | ⟨h1, rfl⟩ | ⟨h1, h2, rfl⟩
  · go_enter Tryz.func42, Tryz.ntmps42
    go_wp2_with (first
      | (go_at_call 24; (with_reducible refine (HC _).mono ?_); rintro e w' ⟨rfl, rfl⟩)
      | fail)
    go_ret
    exact ⟨ret_i64 rfl, rfl⟩
  · have g1 : (a == 0) = false := beq_eq_false_iff_ne.2 h1
    clear h1
    go_enter Tryz.func42, Tryz.ntmps42
    go_wp2_with (first
      | (go_at_call 24; (with_reducible refine (HC _).mono ?_); rintro e w' ⟨rfl, rfl⟩)
      | fail)
    go_ret
    exact ⟨ret_i64 rfl, rfl⟩
  · have g1 : (a == 0) = false := beq_eq_false_iff_ne.2 h1
    have g2 : (a == a) = true := beq_self_eq_true _
    clear h1 h2
    go_enter Tryz.func42, Tryz.ntmps42
    go_wp2_with (first
      | (go_at_call 24; (with_reducible refine (HC _).mono ?_); rintro e w' ⟨rfl, rfl⟩)
      | fail)
    go_ret
    exact ⟨ret_i64 (by simp), rfl⟩
set_option maxHeartbeats 2000000 in
theorem common_n (a b : Int) (w : World) (h : comT a b = false) : Calls Tryz.prog 42 #[.int .i64 a, .int .i64 b] w (fun e w' => e = .panicked [{ v := .iface 49 (.int .i64 70), recovered := false }] ∧ w' = w) := by
  have HC := fun w => check_no 70 w
  unfold comT at h
  simp only [Bool.or_eq_false_iff] at h
  obtain ⟨⟨h1, h2⟩, h3⟩ := h
  go_enter Tryz.func42, Tryz.ntmps42
  go_wp2_with (first
    | (go_at_call 24; (with_reducible refine (HC _).mono ?_); rintro e w' ⟨rfl, rfl⟩)
    | fail)
  exact ⟨rfl, rfl, rfl⟩
end Go.Proofs.YthdmfaepjemopaaGreatDoor
