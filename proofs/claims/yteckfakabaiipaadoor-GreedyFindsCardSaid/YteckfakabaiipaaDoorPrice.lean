/- The walks of the statements' prices: of a case, of the chapter's example. -/
import Derived.Test.YteckfakabaiipaaDoorSearch2
import Derived.Shelf.Abstract
namespace Go.Proofs.YteckfakabaiipaaDoor
open Go.RowKit

/-- the example's prices -/
def liveP (s : Nat) : Int := 100 - 10 * ((s % 2 : Nat) : Int) - 10 * ((s / 2 % 2 * 2 : Nat) : Int) - 30 * ((s / 4 % 2 : Nat) : Int)

theorem and2 (s : Nat) (h : s < 65536) : bits .and .u32 (s : Int) 2 = ((s / 2 % 2 * 2 : Nat) : Int) := by
  have e := u32_and_nat s 2 (by omega) (by omega)
  have e2 : s &&& 2 = s / 2 % 2 * 2 := by
    apply Nat.eq_of_testBit_eq
    intro i
    rw [Nat.testBit_and]
    by_cases hi : i = 1
    · subst hi
      have h2 : Nat.testBit 2 1 = true := by decide
      rw [h2, Bool.and_true]
      have : s / 2 % 2 = 0 ∨ s / 2 % 2 = 1 := by omega
      rcases this with h | h <;> simp [Nat.testBit, Nat.shiftRight_eq_div_pow, h]
    · have h2 : Nat.testBit 2 i = false := by
        have : (2 : Nat) = 2 ^ 1 := rfl
        rw [this, Nat.testBit_two_pow]; simp; omega
      rw [h2, Bool.and_false]
      have : s / 2 % 2 = 0 ∨ s / 2 % 2 = 1 := by omega
      rcases this with h | h
      · simp [h]
      · rw [h]; exact h2.symm
  rw [← e2]; exact e

set_option maxHeartbeats 1000000 in
theorem live_price (s : Nat) (w : World) (hs : s < 65536) : Calls Tryd.prog 17 #[.int .u32 s] w fun e w' => e = .returned (.int .i64 (liveP s)) ∧ w = w' := by
  have h1 := and1 (s : Int) (by omega) (by omega)
  have h2 := and2 s hs
  have h4 := and1 ((s : Int) / 4) (by omega) (by omega)
  have b1 : (0 : Int) ≤ (s : Int) % 2 ∧ (s : Int) % 2 ≤ 1 := by omega
  have b2 : (0 : Int) ≤ ((s / 2 % 2 * 2 : Nat) : Int) ∧ ((s / 2 % 2 * 2 : Nat) : Int) ≤ 2 := by omega
  have b3 : (0 : Int) ≤ (s : Int) / 4 % 2 ∧ (s : Int) / 4 % 2 ≤ 1 := by omega
  have H := Lib.hid (show liveP s = 100 - 10 * ((s : Int) % 2) - 10 * ((s / 2 % 2 * 2 : Nat) : Int) - 30 * ((s : Int) / 4 % 2) by unfold liveP; omega)
  generalize ((s / 2 % 2 * 2 : Nat) : Int) = q at *
  go_enter Tryd.func17, Tryd.ntmps17
  go_wp2
  go_ret
  exact ⟨ret_i64 H.out.symm, rfl⟩

theorem live_prices (w0 : World) : Prices w0 17 #[] liveP :=
  ⟨Go.Proofs.enters_of Tryd.func17 (by kernel_rfl) rfl, fun s W hs _ => (live_price s W hs).mono fun _ _ ⟨he, hw⟩ => ⟨he, by rw [← hw]; exact Below.refl _ _⟩⟩

theorem pc_small : pc 1 = 1 ∧ pc 2 = 1 ∧ pc 3 = 2 ∧ pc 4 = 1 ∧ pc 5 = 2 ∧ pc 6 = 2 ∧ pc 7 = 3 ∧ pc 0 = 0 :=
  ⟨by rw [← pcf_eq 3 1 (by decide)]; decide, by rw [← pcf_eq 3 2 (by decide)]; decide, by rw [← pcf_eq 3 3 (by decide)]; decide, by rw [← pcf_eq 3 4 (by decide)]; decide, by rw [← pcf_eq 3 5 (by decide)]; decide, by rw [← pcf_eq 3 6 (by decide)]; decide, by rw [← pcf_eq 3 7 (by decide)]; decide, pc_zero⟩

theorem live_seed : seedS [5, 5, 5] 10 liveP 1 8 = 4 := by
  obtain ⟨p1, p2, p3, p4, p5, p6, p7, p0⟩ := pc_small
  have s2 : seedS [5, 5, 5] 10 liveP 1 2 = 1 := by
    rw [seedS_step _ _ _ _ 1 (by decide), p1, if_neg (by decide), if_pos (by decide)]
    show (if betterB liveP 1 0 = true then 1 else 0) = 1
    rw [if_pos (by unfold betterB; rw [show decide (liveP 1 < liveP 0) = true by decide]; rfl)]
  have s3 : seedS [5, 5, 5] 10 liveP 1 3 = 2 := by
    rw [seedS_step _ _ _ _ 2 (by decide), p2, if_neg (by decide), if_pos (by decide), s2, if_pos (by unfold betterB; rw [show decide (liveP 2 < liveP 1) = true by decide]; rfl)]
  have s4 : seedS [5, 5, 5] 10 liveP 1 4 = 2 := by
    rw [seedS_step _ _ _ _ 3 (by decide), p3, if_pos (by decide), s3]
  have s5 : seedS [5, 5, 5] 10 liveP 1 5 = 4 := by
    rw [seedS_step _ _ _ _ 4 (by decide), p4, if_neg (by decide), if_pos (by decide), s4, if_pos (by unfold betterB; rw [show decide (liveP 4 < liveP 2) = true by decide]; rfl)]
  have s6 : seedS [5, 5, 5] 10 liveP 1 6 = 4 := by
    rw [seedS_step _ _ _ _ 5 (by decide), p5, if_pos (by decide), s5]
  have s7 : seedS [5, 5, 5] 10 liveP 1 7 = 4 := by
    rw [seedS_step _ _ _ _ 6 (by decide), p6, if_pos (by decide), s6]
  rw [seedS_step _ _ _ _ 7 (by decide), p7, if_pos (by decide), s7]
theorem live_grow : growS [5, 5, 5] 10 liveP 2 4 = 6 := by
  obtain ⟨p1, p2, p3, p4, p5, p6, p7, p0⟩ := pc_small
  have a4 : addS [5, 5, 5] 10 liveP 4 [(5 : Int), 5, 5].length = 6 := by decide
  rw [growS, dif_pos (by rw [a4, p4]; decide), a4, growS, dif_neg (by rw [p6]; intro h; exact absurd h.1 (by decide))]

set_option maxRecDepth 100000 in
set_option maxHeartbeats 1000000 in
theorem lives_any (w : World) (hT : TabIn w) : Calls Tryd.prog 7 #[] w (RetV (.bool true) w) := by
  have hB : Below w.heap.size w (w.alloc (.cells #[.int .i64 5, .int .i64 5, .int .i64 5] 2)) := (Below.refl _ _).alloc (Nat.le_refl _) _
  have hr := heap_alloc_new w (.cells #[.int .i64 5, .int .i64 5, .int .i64 5] 2)
  have c := search_all (some ⟨w.heap.size, 0, none⟩) 3 [5, 5, 5] 10 17 #[] liveP 1 2 (w.alloc (.cells #[.int .i64 5, .int .i64 5, .int .i64 5] 2)) (w.alloc (.cells #[.int .i64 5, .int .i64 5, .int .i64 5] 2)) (by decide) (by decide) (by decide)
    (.inr ⟨w.heap.size, 0, rfl, fun j hj => by
      rw [cell_of_row _ _ _ _ _ _ hr]
      have hj3 : j < 3 := hj
      match j, hj3 with
      | 0, _ => rfl
      | 1, _ => rfl
      | 2, _ => rfl⟩) (hT.keep hB) (live_prices _) (Below.refl _ _) (Nat.le_refl _) (by decide) (by decide) (by decide)
  have e8 : 2 ^ [(5 : Int), 5, 5].length = 8 := by decide
  have em : min (1 : Int) 2 = 1 := by decide
  rw [e8, em, live_seed, live_grow] at c
  have C := Lib.hid c
  clear c hr
  go_enter Tryd.func7, Tryd.ntmps7
  go_wp2_with (first | (go_at_call 9; (with_reducible refine Calls.mono C.out ?_); rintro e w2 ⟨rfl, hB2⟩; have hD := hB.trans (hB2.mono hB.size)))
  go_ret
  exact ⟨rfl, hD⟩
end Go.Proofs.YteckfakabaiipaaDoor
