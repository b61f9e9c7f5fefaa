/- The walks of Fits, of both texts, and of the statement ValueCleans. -/
import Derived.Test.YtjlpjooaclfnlaaGreatDoorMakes
import Derived.Test.YtjlpjooaclfnlaaGreatDoorRCompare
namespace Go.Proofs.YtjlpjooaclfnlaaGreatDoor
open Go.RowKit

/-- may a clean value stand in a column? -/
def fitZ (K : Int) (S : ByteArray) (t : Int) : Bool := (K == 0) || ((K == t) && ((t == 1) || (t == 2) || ((t == 3) && decide (S.size ≤ 16))))
theorem clK_rng (k : Int) : clK k = 0 ∨ clK k = 1 ∨ clK k = 2 ∨ clK k = 3 ∨ clK k = 4 := by
  unfold clK; split <;> omega
theorem below_set4 {w W : World} (h : Below w.heap.size w W) (u0 u1 u2 u3 : Value) : Below w.heap.size w (set4 W w.heap.size u0 u1 u2 u3) :=
  (((h.setCell (p := ⟨w.heap.size, 0, none⟩) (Nat.le_refl _) _).setCell (p := ⟨w.heap.size, 1, none⟩) (Nat.le_refl _) _).setCell (p := ⟨w.heap.size, 2, none⟩) (Nat.le_refl _) _).setCell (p := ⟨w.heap.size, 3, none⟩) (Nat.le_refl _) _
theorem clS_size (k : Int) (s : ByteArray) (h : clK k ≠ 3) : clS k s = ⟨#[]⟩ := by
  unfold clS clK at *
  split
  · rename_i h3; subst h3; exact absurd rfl h
  · rfl

set_option maxRecDepth 100000 in
set_option maxHeartbeats 4000000 in
theorem fits_any (k n : Int) (f : Nat) (s : ByteArray) (t : Int) (w : World) : Calls Tryz.prog 27 #[vV k n f s, .int .i64 t] w (RetV (.bool (fitZ (clK k) (clS k s) t)) w) := by
  have sf := store_float
  have HC := Lib.hid (show ∀ W, Calls Tryz.prog 26 #[vV k n f s] W (RetV (vV (clK k) (clN k n) (clF k f) (clS k s)) W) from fun W => clean_any k n f s W)
  have HR := Lib.hid (Row4.new w (.int .i64 k) (.int .i64 n) (.float .f64 f) (.string s))
  have hA : Below w.heap.size w (w.alloc (.cells #[.int .i64 k, .int .i64 n, .float .f64 f, .string s] 24)) := by go_grown
  have HA := Lib.hid hA
  clear hA
  generalize clK k = K at HC ⊢
  generalize clN k n = N at HC
  generalize clF k f = F at HC
  generalize clS k s = S at HC ⊢
  have F : (K = 0 ∧ fitZ K S t = true) ∨ ((K == 0) = false ∧ (K == t) = false ∧ fitZ K S t = false) ∨ ((K == 0) = false ∧ K = t ∧ ((K = 1 ∧ fitZ K S t = true) ∨ (K = 2 ∧ fitZ K S t = true) ∨ (K = 3 ∧ fitZ K S t = decide ((S.size : Int) ≤ 16)) ∨ ((K == 1) = false ∧ (K == 2) = false ∧ (K == 3) = false ∧ fitZ K S t = false))) := by
    by_cases h0 : K = 0
    · subst h0; exact .inl ⟨rfl, rfl⟩
    · have b0 : (K == 0) = false := by simpa using h0
      by_cases h1 : K = t
      · subst h1
        refine .inr (.inr ⟨b0, rfl, ?_⟩)
        by_cases h2 : K = 1
        · subst h2; exact .inl ⟨rfl, rfl⟩
        · by_cases h3 : K = 2
          · subst h3; exact .inr (.inl ⟨rfl, rfl⟩)
          · by_cases h4 : K = 3
            · subst h4; exact .inr (.inr (.inl ⟨rfl, by unfold fitZ; simp; omega⟩))
            · exact .inr (.inr (.inr ⟨by simpa using h2, by simpa using h3, by simpa using h4, by unfold fitZ; simp [h0, h2, h3, h4]⟩))
      · exact .inr (.inl ⟨b0, by simpa using h1, by unfold fitZ; simp [h0, h1]⟩)
  generalize fitZ K S t = R at F ⊢
  rcases F with ⟨rfl, he⟩ | ⟨b0, b1, he⟩ | ⟨b0, rfl, ⟨rfl, he⟩ | ⟨rfl, he⟩ | ⟨rfl, he⟩ | ⟨b2, b3, b4, he⟩⟩
  all_goals have HE := Lib.hid he
  all_goals clear he
  all_goals
    rw [HE.out]
    go_enter Tryz.func27, Tryz.ntmps27
    go_wp2_with (first
      | (go_at_call 26; (with_reducible refine (HC.out _).mono ?_); rintro e w2 ⟨rfl, hB⟩; obtain ⟨⟨d0, d1, d2, d3⟩, ⟨f0, f1, f2, f3⟩⟩ := (HR.out.call hB).cells; have HD := Lib.hid (HA.out.trans (hB.mono HA.out.size)); clear hB)
      | fail)
  all_goals
    go_ret
    exact ⟨ret_bool (by first | rfl | (simp_all; done) | (trace_state; fail)), below_set4 HD.out _ _ _ _⟩

set_option maxRecDepth 100000 in
set_option maxHeartbeats 4000000 in
theorem rfits_any (k n : Int) (f : Nat) (s : ByteArray) (t : Int) (w : World) : Calls Tryz.prog 28 #[vV k n f s, .int .i64 t] w (RetV (.bool (fitZ (clK k) (clS k s) t)) w) := by
  have sf := store_float
  have HC := Lib.hid (show ∀ W, Calls Tryz.prog 16 #[vV k n f s] W (RetV (vV (clK k) (clN k n) (rclF k f) (clS k s)) W) from fun W => rclean_any k n f s W)
  have HR := Lib.hid (Row4.new w (.int .i64 k) (.int .i64 n) (.float .f64 f) (.string s))
  have hA : Below w.heap.size w (w.alloc (.cells #[.int .i64 k, .int .i64 n, .float .f64 f, .string s] 24)) := by go_grown
  have HA := Lib.hid hA
  clear hA
  have hk := clK_rng k
  have hS : clK k ≠ 3 → (clS k s).size ≤ 16 := fun h => by rw [clS_size k s h]; decide
  generalize clK k = K at HC hk hS ⊢
  generalize clN k n = N at HC
  generalize rclF k f = F at HC
  generalize clS k s = S at HC hS ⊢
  have F : (K = 0 ∧ fitZ K S t = true) ∨ ((K == 0) = false ∧ (K == t) = false ∧ fitZ K S t = false) ∨ ((K == 0) = false ∧ K = t ∧ ((K = 4 ∧ fitZ K S t = false) ∨ ((K != 4) = true ∧ fitZ K S t = decide ((S.size : Int) ≤ 16)))) := by
    by_cases h0 : K = 0
    · subst h0; exact .inl ⟨rfl, rfl⟩
    · have b0 : (K == 0) = false := by simpa using h0
      by_cases h1 : K = t
      · subst h1
        refine .inr (.inr ⟨b0, rfl, ?_⟩)
        by_cases h2 : K = 4
        · subst h2; exact .inl ⟨rfl, rfl⟩
        · refine .inr ⟨by simpa using h2, ?_⟩
          unfold fitZ
          rcases hk with rfl | rfl | rfl | rfl | rfl
          · exact absurd rfl h0
          · have := hS (by decide); simp; omega
          · have := hS (by decide); simp; omega
          · simp; omega
          · exact absurd rfl h2
      · exact .inr (.inl ⟨b0, by simpa using h1, by unfold fitZ; simp [h0, h1]⟩)
  clear hk hS
  generalize fitZ K S t = R at F ⊢
  rcases F with ⟨rfl, he⟩ | ⟨b0, b1, he⟩ | ⟨b0, rfl, ⟨rfl, he⟩ | ⟨b2, he⟩⟩
  all_goals have HE := Lib.hid he
  all_goals clear he
  all_goals
    rw [HE.out]
    go_enter Tryz.func28, Tryz.ntmps28
    go_wp2_with (first
      | (go_at_call 16; (with_reducible refine (HC.out _).mono ?_); rintro e w2 ⟨rfl, hB⟩; obtain ⟨⟨d0, d1, d2, d3⟩, ⟨f0, f1, f2, f3⟩⟩ := (HR.out.call hB).cells; have HD := Lib.hid (HA.out.trans (hB.mono HA.out.size)); clear hB)
      | fail)
  all_goals
    go_ret
    exact ⟨ret_bool (by first | rfl | (simp_all; done) | (trace_state; fail)), below_set4 HD.out _ _ _ _⟩
end Go.Proofs.YtjlpjooaclfnlaaGreatDoor
