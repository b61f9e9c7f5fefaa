/- The walk of the document's Mul. -/
import Derived.Test.YtjlpjooaclfnlaaGreatDoorRAdd
namespace Go.Proofs.YtjlpjooaclfnlaaGreatDoor
open Go.RowKit

/-- what is known of the product while it is reckoned bit by bit -/
def MulI (P x y n : Int) : Prop := 0 ≤ n ∧ n ≤ 9223372036854775808 ∧ 0 ≤ y ∧ y ≤ 9223372036854775808 ∧ 0 ≤ x ∧ x ≤ 18446744073709551615 ∧ (y = 0 → n = P) ∧ (0 < y → n + x * y = P ∧ x ≤ 9223372036854775808 ∧ (n < x ∨ (x = 0 ∧ n = 0)))
theorem MulI.start (x y : Int) (hx : 0 ≤ x ∧ x ≤ 9223372036854775808) (hy : 0 ≤ y ∧ y ≤ 9223372036854775808) : MulI (x * y) x y 0 := by
  refine ⟨by omega, by omega, by omega, by omega, by omega, by omega, fun h => by subst h; simp, fun _ => ⟨by omega, by omega, by omega⟩⟩
theorem mul_half (x y : Int) : x * y = (x * 2) * (y / 2) + x * (y % 2) := by
  have h := Int.mul_ediv_add_emod y 2
  conv => lhs; rw [← h]
  rw [Int.mul_add, ← Int.mul_assoc]
theorem mul_ge {x y : Int} (hx : 0 ≤ x) (hy : 1 ≤ y) : x ≤ x * y := by
  have := Int.mul_le_mul_of_nonneg_left hy hx
  omega
theorem mul_ge2 {x y : Int} (hx : 0 ≤ x) (hy : 2 ≤ y) : 2 * x ≤ x * y := by
  have := Int.mul_le_mul_of_nonneg_left hy hx
  omega
/-- the product behind one bit -/
theorem MulI.odd {P x y n : Int} (h : MulI P x y n) (hy : 0 < y) (ho : y % 2 = 1) : n + x ≤ 18446744073709551615 ∧ (9223372036854775808 < n + x → 9223372036854775808 < P) ∧ (n + x ≤ 9223372036854775808 → 1 < y → x ≤ 4611686018427387904 → MulI P (x * 2) (y / 2) (n + x)) ∧ (1 < y → 4611686018427387904 < x → 9223372036854775808 < P) := by
  obtain ⟨h0, h1, h2, h3, h4, h5, h6, h7⟩ := h
  obtain ⟨e, hx, hn⟩ := h7 hy
  have hm := mul_half x y
  rw [ho] at hm
  have hg := mul_ge h4 (show 1 ≤ y by omega)
  refine ⟨by omega, by omega, fun a b c => ⟨by omega, by omega, by omega, by omega, by omega, by omega, fun g => by omega, fun g => ⟨by omega, by omega, by omega⟩⟩, fun a b => ?_⟩
  have := mul_ge2 h4 (show 2 ≤ y by omega)
  omega
theorem MulI.one {P x n : Int} (h : MulI P x 1 n) : n + x = P := by
  obtain ⟨h0, h1, h2, h3, h4, h5, h6, h7⟩ := h
  obtain ⟨e, hx, hn⟩ := h7 (by omega)
  omega
theorem MulI.even {P x y n : Int} (h : MulI P x y n) (hy : 0 < y) (ho : y % 2 = 0) : (x ≤ 4611686018427387904 → MulI P (x * 2) (y / 2) n) ∧ (4611686018427387904 < x → 9223372036854775808 < P) ∧ 1 < y := by
  obtain ⟨h0, h1, h2, h3, h4, h5, h6, h7⟩ := h
  obtain ⟨e, hx, hn⟩ := h7 hy
  have hm := mul_half x y
  rw [ho] at hm
  refine ⟨fun c => ⟨by omega, by omega, by omega, by omega, by omega, by omega, fun g => by omega, fun g => ⟨by omega, by omega, by omega⟩⟩, fun a => ?_, by omega⟩
  have := mul_ge2 h4 (show 2 ≤ y by omega)
  omega
theorem MulI.last {P x y n : Int} (h : MulI P x y n) (hy : 0 < y) (h1 : ¬ 1 < y) (hn : n + x ≤ 9223372036854775808) : MulI P (IntKind.u64.wrap (x * 2)) (y / 2) (n + x) := by
  have e : y = 1 := by omega
  subst e
  have := MulI.one h
  obtain ⟨h0, h1', h2, h3, h4, h5, h6, h7⟩ := h
  have hw : 0 ≤ IntKind.u64.wrap (x * 2) ∧ IntKind.u64.wrap (x * 2) ≤ 18446744073709551615 := by
    rw [IntKind.wrap_u64]; omega
  exact ⟨by omega, by omega, by omega, by omega, hw.1, hw.2, fun _ => this, fun g => by omega⟩
/-- the product's sign -/
theorem mul_sz (a b : Int) : a * b = if (!(decide (a < 0) == decide (b < 0))) = true then -(szZ a * szZ b) else szZ a * szZ b := by
  unfold szZ
  by_cases h1 : a < 0 <;> by_cases h2 : b < 0 <;> simp [h1, h2, Int.neg_mul, Int.mul_neg]
theorem mul_no {P : Int} (a b : Int) (hP : P = szZ a * szZ b) (h : 9223372036854775808 < P) : fitO (a * b) = none := by
  refine fitO_no ?_
  rw [mul_sz a b, ← hP]
  unfold In64
  split <;> omega

set_option maxRecDepth 100000 in
set_option maxHeartbeats 4000000 in
theorem rmul_any (a b : Int) (w : World) (ha : In64 a) (hb : In64 b) : Calls Tryz.prog 51 #[.int .i64 a, .int .i64 b] w (WholeP (fitO (a * b)) w) := by
  have HA := Lib.hid (fun W => size_any a W ha)
  have HB := Lib.hid (fun W => size_any b W hb)
  have HS := Lib.hid (MulI.start (szZ a) (szZ b) (szZ_bd a ha) (szZ_bd b hb))
  have HE := Lib.hid (mul_sz a b)
  have HN := Lib.hid (fun h => mul_no a b rfl h)
  clear ha hb
  generalize szZ a = x at HA HS HE HN
  generalize szZ b = y at HB HS HE HN
  go_enter Tryz.func51, Tryz.ntmps51
  go_wp2_with (first
    | (go_at_call 64; (with_reducible refine (HA.out _).mono ?_); rintro e w' ⟨rfl, rfl⟩)
    | (go_at_call 64; (with_reducible refine (HB.out _).mono ?_); rintro e w' ⟨rfl, rfl⟩)
    | fail)
  go_loopw [6, 7, 8] (fun i6 i7 i8 wr => ∃ X Y N : Int, i6 = .int .u64 X ∧ i7 = .int .u64 Y ∧ i8 = .int .u64 N ∧ MulI (x * y) X Y N ∧ w = wr) (fun _ i7 _ _ => (intOf i7).toNat)
  case atStart => exact ⟨_, _, _, rfl, rfl, rfl, HS.out, rfl⟩
  case round =>
    obtain ⟨X, Y, N, rfl, rfl, rfl, hI, rfl⟩ := hrel
    have HI := Lib.hid hI
    obtain ⟨h0, h1, h2, h3, h4, h5, -, -⟩ := hI
    by_cases hy : 0 < Y
    · rcases (show Y % 2 = 1 ∨ Y % 2 = 0 by omega) with ho | ho
      · obtain ⟨o1, o2, o3, o4⟩ := MulI.odd HI.out hy ho
        have HO := Lib.hid (And.intro o2 (And.intro o3 o4))
        clear o2 o3 o4
        go_wp2_with fail
        all_goals first
          | (go_ret2; exact ⟨⟨0, false, rfl, HN.out (HO.out.1 (by omega))⟩, rfl⟩)
          | (go_ret2; exact ⟨⟨0, false, rfl, HN.out (HO.out.2.2 (by omega) (by omega))⟩, rfl⟩)
          | exact ⟨⟨_, _, _, rfl, rfl, rfl, HO.out.2.1 (by omega) (by omega) (by omega), trivial⟩, by simp only [intOf]; omega⟩
          | exact ⟨⟨_, _, _, rfl, rfl, rfl, MulI.last HI.out hy (by omega) (by omega), trivial⟩, by simp only [intOf]; omega⟩
      · obtain ⟨o1, o2, o3⟩ := MulI.even HI.out hy ho
        have HO := Lib.hid (And.intro o1 o2)
        clear o1 o2
        go_wp2_with fail
        all_goals first
          | (go_ret2; exact ⟨⟨0, false, rfl, HN.out (HO.out.2 (by omega))⟩, rfl⟩)
          | exact ⟨⟨_, _, _, rfl, rfl, rfl, HO.out.1 (by omega), trivial⟩, by simp only [intOf]; omega⟩
    · have hP := HI.out.2.2.2.2.2.2.1 (by omega)
      have HP := Lib.hid hP
      clear hP
      go_wp2_with (first
        | (go_at_call 65; (with_reducible refine (whole_r _ _ ?_ _).mono ?_); (· omega); rintro e w2 ⟨⟨n, ok, rfl, ho⟩, rfl⟩; have HO := Lib.hid ho; clear ho)
        | fail)
      all_goals
        go_ret2
        exact ⟨⟨_, _, rfl, by rw [HE.out, ← HP.out]; exact HO.out⟩, rfl⟩
end Go.Proofs.YtjlpjooaclfnlaaGreatDoor
