/- The order of clean values is one: plain laws. -/
import Derived.Test.YtjlpjooaclfnlaaGreatDoorPlain7
namespace Go.Proofs.YtjlpjooaclfnlaaGreatDoor
open Go.RowKit

theorem cmpZ_laws (x y _z : Int) : cmpZ x x = 0 ∧ cmpZ y x = -cmpZ x y ∧ (cmpZ x y = 0 ↔ x = y) ∧ (cmpZ x y ≤ 0 ↔ x ≤ y) ∧ (-1 ≤ cmpZ x y ∧ cmpZ x y ≤ 1) := by
  unfold cmpZ
  (repeat' split) <;> omega
theorem fcmpZ_of (x y : Nat) : fcmpZ x y = if ordF x y = some .lt then -1 else if ordF x y = some .gt then 1 else 0 := by
  unfold fcmpZ ordF
  change (if (Ieee.double.order x y == some Ordering.lt) = true then (-1 : Int) else if (Ieee.double.order x y == some Ordering.gt) = true then 1 else 0) = _
  simp only [beq_iff_eq]
theorem ordF_some (x y : Nat) (hx : numF x) (hy : numF y) : ordF x y = some .lt ∨ ordF x y = some .eq ∨ ordF x y = some .gt := by
  cases h : ordF x y with
  | none => rcases (ordF_none x y).1 h with g | g <;> contradiction
  | some o => cases o <;> simp
theorem fcmpZ_self (x : Nat) (hx : numF x) : fcmpZ x x = 0 := by
  rw [fcmpZ_of, ordF_self x hx]; rfl
theorem fcmpZ_swap (x y : Nat) (hx : numF x) (hy : numF y) : fcmpZ y x = -fcmpZ x y := by
  obtain ⟨h1, h2, h3⟩ := ordF_swap x y hx hy
  rw [fcmpZ_of, fcmpZ_of]
  rcases ordF_some x y hx hy with h | h | h
  · rw [h1.1 h, h]; rfl
  · rw [h2.1 h, h]; rfl
  · rw [h3.1 h, h]; rfl
theorem fcmpZ_gt (x y : Nat) : fcmpZ x y ≤ 0 ↔ ordF x y ≠ some .gt := by
  rw [fcmpZ_of]
  by_cases h : ordF x y = some .lt
  · rw [if_pos h, h]; simp
  · rw [if_neg h]
    by_cases g : ordF x y = some .gt
    · rw [if_pos g, g]; simp
    · rw [if_neg g]; simp [g]
theorem fcmpZ_eq (x y : Nat) (hx : numF x) (hy : numF y) : fcmpZ x y = 0 ↔ ordF x y = some .eq := by
  rw [fcmpZ_of]
  rcases ordF_some x y hx hy with h | h | h <;> rw [h] <;> simp
theorem fcmpZ_trans (x y z : Nat) (hx : numF x) (hy : numF y) (hz : numF z) (h1 : fcmpZ x y ≤ 0) (h2 : fcmpZ y z ≤ 0) : fcmpZ x z ≤ 0 ∧ (fcmpZ x z = 0 ↔ fcmpZ x y = 0 ∧ fcmpZ y z = 0) := by
  have h := ordF_trans x y z hx hy hz ((fcmpZ_gt _ _).1 h1) ((fcmpZ_gt _ _).1 h2)
  rw [fcmpZ_gt, fcmpZ_eq x z hx hz, fcmpZ_eq x y hx hy, fcmpZ_eq y z hy hz]
  exact h
theorem fcmpZ_bd (x y : Nat) : -1 ≤ fcmpZ x y ∧ fcmpZ x y ≤ 1 := by
  unfold fcmpZ; (repeat' split) <;> omega
theorem nan_or (x : Nat) : (feq x x = false) ∨ (feq x x = true ∧ numF x) := by
  by_cases h : feq x x = true
  · exact .inr ⟨h, (feq_num x).1 h⟩
  · exact .inl (by simpa using h)
theorem fordZ_bd (x y : Nat) : -1 ≤ fordZ x y ∧ fordZ x y ≤ 1 := by
  unfold fordZ
  have := fcmpZ_bd x y
  (repeat' split) <;> omega
theorem fordZ_self (x : Nat) : fordZ x x = 0 := by
  unfold fordZ
  rcases nan_or x with h | ⟨h, g⟩
  · simp [h]
  · simp [h, fcmpZ_self x g]
theorem fordZ_swap (x y : Nat) : fordZ y x = -fordZ x y := by
  unfold fordZ
  rcases nan_or x with h | ⟨h, g⟩ <;> rcases nan_or y with h2 | ⟨h2, g2⟩ <;> simp [h, h2]
  exact fcmpZ_swap x y g g2
theorem fordZ_trans (x y z : Nat) (h1 : fordZ x y ≤ 0) (h2 : fordZ y z ≤ 0) : fordZ x z ≤ 0 ∧ (fordZ x z = 0 ↔ fordZ x y = 0 ∧ fordZ y z = 0) := by
  unfold fordZ at *
  rcases nan_or x with hx | ⟨hx, gx⟩ <;> rcases nan_or y with hy | ⟨hy, gy⟩ <;> rcases nan_or z with hz | ⟨hz, gz⟩ <;> simp [hx, hy, hz] at h1 h2 ⊢
  exact fcmpZ_trans x y z gx gy gz h1 h2

theorem ordC_self (K N : Int) (F : Nat) (S : ByteArray) : ordC K N F S K N F S = 0 := by
  unfold ordC
  rw [if_neg (by simp)]
  split
  · exact fordZ_self F
  · split
    · exact (cb_eq _ _).2 rfl
    · exact (cmpZ_laws N N N).1
theorem ordC_swap (K N : Int) (F : Nat) (S : ByteArray) (K2 N2 : Int) (F2 : Nat) (S2 : ByteArray) : ordC K2 N2 F2 S2 K N F S = -ordC K N F S K2 N2 F2 S2 := by
  unfold ordC
  by_cases h : K = K2
  · subst h
    simp only [ne_eq, not_true, if_false]
    split
    · exact fordZ_swap F F2
    · split
      · exact cb_swap _ _
      · exact (cmpZ_laws N N2 N).2.1
  · rw [if_pos h, if_pos (fun e => h e.symm)]
    exact (cmpZ_laws K K2 K).2.1
theorem ordC_bd (K N : Int) (F : Nat) (S : ByteArray) (K2 N2 : Int) (F2 : Nat) (S2 : ByteArray) : -1 ≤ ordC K N F S K2 N2 F2 S2 ∧ ordC K N F S K2 N2 F2 S2 ≤ 1 := by
  unfold ordC
  have h1 := (cmpZ_laws K K2 K).2.2.2.2
  have h2 := fordZ_bd F F2
  have h3 := cb_range S.data.toList S2.data.toList
  have h4 := (cmpZ_laws N N2 K).2.2.2.2
  (repeat' split) <;> omega
theorem ordC_trans (K N : Int) (F : Nat) (S : ByteArray) (K2 N2 : Int) (F2 : Nat) (S2 : ByteArray) (K3 N3 : Int) (F3 : Nat) (S3 : ByteArray) (h1 : ordC K N F S K2 N2 F2 S2 ≤ 0) (h2 : ordC K2 N2 F2 S2 K3 N3 F3 S3 ≤ 0) :
    ordC K N F S K3 N3 F3 S3 ≤ 0 ∧ (ordC K N F S K3 N3 F3 S3 = 0 ↔ ordC K N F S K2 N2 F2 S2 = 0 ∧ ordC K2 N2 F2 S2 K3 N3 F3 S3 = 0) := by
  obtain ⟨-, -, a1, a2, -⟩ := cmpZ_laws K K2 K
  obtain ⟨-, -, b1, b2, -⟩ := cmpZ_laws K2 K3 K
  obtain ⟨-, -, c1, c2, -⟩ := cmpZ_laws K K3 K
  unfold ordC at *
  by_cases e1 : K = K2
  · by_cases e2 : K2 = K3
    · subst e1; subst e2
      simp only [ne_eq, not_true, if_false] at h1 h2 ⊢
      by_cases k2 : K = 2
      · simp only [k2, if_true] at h1 h2 ⊢
        exact fordZ_trans F F2 F3 h1 h2
      · by_cases k3 : K = 3
        · simp only [k2, if_false] at h1 h2 ⊢
          rw [if_pos k3] at h1 h2 ⊢
          rw [if_pos k3, if_pos k3]
          exact cb_trans _ _ _ h1 h2
        · simp only [k2, k3, if_false] at h1 h2 ⊢
          obtain ⟨-, -, x1, x2, -⟩ := cmpZ_laws N N2 K
          obtain ⟨-, -, y1, y2, -⟩ := cmpZ_laws N2 N3 K
          obtain ⟨-, -, z1, z2, -⟩ := cmpZ_laws N N3 K
          rw [x2] at h1
          rw [y2] at h2
          rw [z2, z1, x1, y1]
          omega
    · subst e1
      rw [if_pos e2] at h2 ⊢
      rw [if_pos e2]
      have : K ≠ K3 := e2
      rw [b2] at h2
      rw [b2, b1]
      refine ⟨h2, ?_⟩
      constructor
      · intro h; exact absurd h e2
      · rintro ⟨-, h⟩; exact absurd h e2
  · rw [if_pos e1] at h1
    rw [a2] at h1
    by_cases e2 : K2 = K3
    · subst e2
      rw [if_pos e1, if_pos e1, a2, a1]
      refine ⟨h1, ?_⟩
      constructor
      · intro h; exact absurd h e1
      · rintro ⟨h, -⟩; exact absurd h e1
    · rw [if_pos e2] at h2
      rw [b2] at h2
      have e3 : K ≠ K3 := by omega
      rw [if_pos e3, if_pos e1, c2, c1, a1]
      refine ⟨by omega, ?_⟩
      constructor
      · intro h; exact absurd h e3
      · rintro ⟨h, -⟩; exact absurd h e1
/-- the document's clean floats are ordered as the program's -/
theorem fordZ_clean (x y : Nat) : fordZ (realZ x) (realZ y) = fordZ (rclF 2 x) (rclF 2 y) := by
  have hz : ∀ x, (feq x x = false ∧ feq (realZ x) (realZ x) = false ∧ feq (rclF 2 x) (rclF 2 x) = false) ∨ (realZ x = rclF 2 x) := by
    intro x
    unfold rclF
    rw [if_pos rfl]
    rcases nan_or x with h | ⟨h, -⟩
    · left
      have h0 : feq x 0 = false := ord_nan x 0 (.inl h) .eq
      have hr : realZ x = nanZ := by unfold realZ; rw [if_pos h]
      rw [hr, h0]
      exact ⟨h, feq_nan, h⟩
    · right
      unfold realZ
      rw [if_neg (by rw [h]; decide)]
  rcases hz x with ⟨-, a, b⟩ | a <;> rcases hz y with ⟨-, c, d⟩ | c
  · unfold fordZ; simp [a, b, c, d]
  · rw [c]; unfold fordZ; simp [a, b]
  · rw [a]; unfold fordZ; simp [c, d]
  · rw [a, c]
theorem ordC_clean (k n : Int) (f : Nat) (s : ByteArray) (k2 n2 : Int) (f2 : Nat) (s2 : ByteArray) :
    ordC (clK k) (clN k n) (rclF k f) (clS k s) (clK k2) (clN k2 n2) (rclF k2 f2) (clS k2 s2) = ordC (clK k) (clN k n) (clF k f) (clS k s) (clK k2) (clN k2 n2) (clF k2 f2) (clS k2 s2) := by
  unfold ordC
  by_cases h : clK k = clK k2
  · simp only [h, ne_eq, not_true, if_false]
    by_cases h2 : clK k2 = 2
    · have hk : ∀ j, clK j = 2 → j = 2 := by
        intro j hj; unfold clK at hj; split at hj <;> omega
      have e2 := hk _ h2
      have e1 := hk _ (h.trans h2)
      subst e1; subst e2
      rw [if_pos h2, if_pos h2]
      exact (fordZ_clean f f2).symm
    · rw [if_neg h2, if_neg h2]
  · rw [if_pos h, if_pos h]
end Go.Proofs.YtjlpjooaclfnlaaGreatDoor
