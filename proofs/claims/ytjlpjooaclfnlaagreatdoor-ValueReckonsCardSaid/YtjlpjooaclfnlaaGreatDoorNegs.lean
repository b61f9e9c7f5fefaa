/- The walks of package value's Neg and of the document's. -/
import Derived.Test.YtjlpjooaclfnlaaGreatDoorRArith
namespace Go.Proofs.YtjlpjooaclfnlaaGreatDoor
open Go.RowKit

/-- a float's word with the other sign -/
def negB (f : Nat) : Nat := Op.negFloat .f64 f
theorem negB_mod (f : Nat) : negB f % 2 ^ 63 = f % 2 ^ 63 := by
  show (f ^^^ 2 ^ 63) % 2 ^ 63 = f % 2 ^ 63
  rw [Nat.xor_mod_two_pow, Nat.mod_self, Nat.xor_zero]
theorem numF_iff (x : Nat) : numF x ↔ x % 9223372036854775808 ≤ 9218868437227405312 := by
  have e1 : Ieee.double.signWeight = 9223372036854775808 := by decide
  have e2 : Ieee.double.binade = 4503599627370496 := by decide
  have e3 : Ieee.double.infRung = 9218868437227405312 := by decide
  unfold numF Num Ieee.Format.read
  simp only [e1, e2, e3]
  constructor
  · intro h
    by_cases g : x % 9223372036854775808 ≤ 9218868437227405312
    · exact g
    · exfalso
      refine h (x / 9223372036854775808 % 2 == 1) (x % 9223372036854775808 - 9218868437227405312) ?_
      rw [if_neg (by omega), if_neg (by omega), if_neg (by omega)]
  · intro h a b
    repeat' split
    all_goals first | (intro g; cases g; done) | (exfalso; omega) | simp
theorem negB_num (f : Nat) : feq (negB f) (negB f) = feq f f := by
  rw [Bool.eq_iff_iff, feq_num, feq_num, numF_iff, numF_iff]
  have := negB_mod f
  rw [show (2 : Nat) ^ 63 = 9223372036854775808 by decide] at this
  rw [this]
theorem run_neg_float (f : Nat) : Op.unary .neg (.float .f64 f) = pure (.float .f64 (negB f)) := rfl
/-- what Neg answers of a clean value -/
def negV (K N : Int) (F : Nat) : Value := if K = 2 then vV 2 0 (realZ (negB F)) ⟨#[]⟩ else if K = 1 then numV (fitO (0 - N)) else nullV

theorem Two.res {w W : World} {a0 a1 a2 a3 b0 b1 b2 b3 : Value} (h : Two w W a0 a1 a2 a3 b0 b1 b2 b3) (u0 u1 u2 u3 : Value) : Below w.heap.size w (set4 W (w.heap.size + 1) u0 u1 u2 u3) := (h.setB u0 u1 u2 u3).2.2

set_option maxRecDepth 100000 in
set_option maxHeartbeats 4000000 in
theorem rneg_any (k n : Int) (f : Nat) (s : ByteArray) (w : World) (hn : In64 n) : Calls Tryz.prog 31 #[vV k n f s] w (RetA (negV (clK k) (clN k n) (rclF k f)) w) := by
  have sf := store_float
  have rn := run_neg_float
  have TT := Two.start w (.int .i64 k) (.int .i64 n) (.float .f64 f) (.string s) (.int .i64 0) (.int .i64 0) (.float .f64 0) (.string ⟨#[]⟩)
  obtain ⟨R, hR⟩ : ∃ R, R = negV (clK k) (clN k n) (rclF k f) := ⟨_, rfl⟩
  rw [← hR]
  have HR := Lib.hid hR.symm
  have HI := Lib.hid (clN_in k n hn)
  clear hR hn
  have HC := Lib.hid (show ∀ W, Calls Tryz.prog 16 #[vV k n f s] W (RetV (vV (clK k) (clN k n) (rclF k f) (clS k s)) W) from fun W => rclean_any k n f s W)
  generalize clK k = K at HC HR
  generalize clN k n = N at HC HR HI
  generalize rclF k f = F at HC HR
  generalize clS k s = S at HC
  have HT := Lib.hid TT
  clear TT
  obtain ⟨i1, i2⟩ := HI.out
  by_cases hk : K = 2
  · subst hk
    have HE := Lib.hid (show negV 2 N F = vV 2 0 (realZ (negB F)) ⟨#[]⟩ from rfl)
    have rn2 := rn F
    clear rn
    generalize negB F = G at rn2 HE
    go_enter Tryz.func31, Tryz.ntmps31
    go_wp2_with (first
      | (go_at_call 16; (with_reducible refine (HC.out _).mono ?_); rintro e w2 ⟨rfl, hB⟩; have T0 := Two.call HT.out hB; obtain ⟨⟨a0, a1, a2, a3⟩, ⟨e0, e1, e2, e3⟩⟩ := T0.1.cells; obtain ⟨⟨d0, d1, d2, d3⟩, ⟨f0, f1, f2', f3⟩⟩ := T0.2.1.cells; clear hB)
      | (go_at_call 16; (with_reducible refine (rclean_real _ _).mono ?_); rintro e w4 ⟨rfl, hB⟩; have T1 := Two.call (Two.setA T0 _ _ _ _) hB; clear a0 a1 a2 a3 e0 e1 e2 e3 d0 d1 d2 d3 f0 f1 f2' f3; obtain ⟨⟨d0, d1, d2, d3⟩, ⟨f0, f1, f2', f3⟩⟩ := T1.2.1.cells; clear hB)
      | fail)
    exact bodyPost_ret (v := vV 2 0 (rclF 2 G) ⟨#[]⟩) (by simp [results, Tryz.results31, go_sem, d0, d1, d2, d3]) rfl (retA_of (by rw [← HR.out, HE.out]; exact ⟨rfl, realZ_like G⟩) (Two.res T1 _ _ _ _))
  · have c2 : (K == 2) = false := by simpa using hk
    by_cases h1 : K = 1
    · subst h1
      clear hk
      have HE := Lib.hid (show negV 1 N F = numV (fitO (0 - N)) from rfl)
      by_cases hm : N = -9223372036854775808
      · subst hm
        go_enter Tryz.func31, Tryz.ntmps31
        go_wp2_with (first
          | (go_at_call 16; (with_reducible refine (HC.out _).mono ?_); rintro e w2 ⟨rfl, hB⟩; have T0 := Two.call HT.out hB; obtain ⟨⟨a0, a1, a2, a3⟩, ⟨e0, e1, e2, e3⟩⟩ := T0.1.cells; obtain ⟨⟨d0, d1, d2, d3⟩, ⟨f0, f1, f2', f3⟩⟩ := T0.2.1.cells; clear hB)
          | fail)
        exact bodyPost_ret (v := nullV) (by simp [results, Tryz.results31, go_sem, d0, d1, d2, d3]) rfl (retA_of (by rw [← HR.out, HE.out, fitO_no (by unfold In64; omega)]; exact ⟨rfl, like_zero⟩) (Two.res (Two.setA T0 _ _ _ _) _ _ _ _))
      · have hm' : (N == -9223372036854775808) = false := by simpa using hm
        have i5 : -9223372036854775807 ≤ N := by omega
        clear hm
        go_enter Tryz.func31, Tryz.ntmps31
        go_wp2_with (first
          | (go_at_call 16; (with_reducible refine (HC.out _).mono ?_); rintro e w2 ⟨rfl, hB⟩; have T0 := Two.call HT.out hB; obtain ⟨⟨a0, a1, a2, a3⟩, ⟨e0, e1, e2, e3⟩⟩ := T0.1.cells; obtain ⟨⟨d0, d1, d2, d3⟩, ⟨f0, f1, f2', f3⟩⟩ := T0.2.1.cells; clear hB)
          | fail)
        exact bodyPost_ret (v := vV 1 (-N) 0 ⟨#[]⟩) (by simp [results, Tryz.results31, go_sem, d0, d1, d2, d3]) rfl (retA_of (by rw [← HR.out, HE.out, fitO_yes (by unfold In64; omega), show 0 - N = -N by omega]; exact ⟨rfl, like_zero⟩) (Two.res (Two.setA T0 _ _ _ _) _ _ _ _))
    · have c1 : (K == 1) = false := by simpa using h1
      have c1' : (K != 1) = true := by simpa using h1
      have HE := Lib.hid (show negV K N F = nullV by unfold negV; rw [if_neg hk, if_neg h1])
      clear hk h1
      go_enter Tryz.func31, Tryz.ntmps31
      go_wp2_with (first
        | (go_at_call 16; (with_reducible refine (HC.out _).mono ?_); rintro e w2 ⟨rfl, hB⟩; have T0 := Two.call HT.out hB; obtain ⟨⟨a0, a1, a2, a3⟩, ⟨e0, e1, e2, e3⟩⟩ := T0.1.cells; obtain ⟨⟨d0, d1, d2, d3⟩, ⟨f0, f1, f2', f3⟩⟩ := T0.2.1.cells; clear hB)
        | fail)
      exact bodyPost_ret (v := nullV) (by simp [results, Tryz.results31, go_sem, d0, d1, d2, d3]) rfl (retA_of (by rw [← HR.out, HE.out]; exact ⟨rfl, like_zero⟩) (Two.res (Two.setA T0 _ _ _ _) _ _ _ _))

theorem neg_arith (k n : Int) (f : Nat) (s : ByteArray) (W : World) (hn : In64 n) (hk : clK k ≠ 2) : Calls Tryz.prog 15 #[.string ⟨#[45]⟩, intV 0, vV (clK k) (clN k n) (clF k f) (clS k s)] W (RetV (if clK k = 1 then numV (fitO (0 - clN k n)) else nullV) W) := by
  have h := arith_any ⟨#[45]⟩ 1 0 0 ⟨#[]⟩ (clK k) (clN k n) (clF k f) (clS k s) W (by unfold In64; omega) (clN_in k n hn)
  rw [clK_again, clN_again, clF_again] at h
  have e : arV (ByteArray.toList ⟨#[45]⟩) (clK 1) (clN 1 0) (clF 1 0) (clK k) (clN k n) (clF k f) = if clK k = 1 then numV (fitO (0 - clN k n)) else nullV := by
    rw [ByteArray.toList_eq]
    unfold arV
    by_cases h1 : clK k = 1
    · rw [if_pos ⟨rfl, h1⟩, if_pos h1]; rfl
    · rw [if_neg (fun g => h1 g.2), if_neg (fun g => hk g.2), if_neg h1]
  rwa [e] at h
set_option maxRecDepth 100000 in
set_option maxHeartbeats 4000000 in
theorem neg_any (k n : Int) (f : Nat) (s : ByteArray) (w : World) (hn : In64 n) : Calls Tryz.prog 30 #[vV k n f s] w (RetV (negV (clK k) (clN k n) (clF k f)) w) := by
  have sf := store_float
  have rn := run_neg_float
  have TT := Two.start w (.int .i64 k) (.int .i64 n) (.float .f64 f) (.string s) (.int .i64 0) (.int .i64 0) (.float .f64 0) (.string ⟨#[]⟩)
  obtain ⟨R, hR⟩ : ∃ R, R = negV (clK k) (clN k n) (clF k f) := ⟨_, rfl⟩
  rw [← hR]
  have HR := Lib.hid hR.symm
  clear hR
  have HC := Lib.hid (show ∀ W, Calls Tryz.prog 26 #[vV k n f s] W (RetV (vV (clK k) (clN k n) (clF k f) (clS k s)) W) from fun W => clean_any k n f s W)
  have HA := Lib.hid (fun W => neg_arith k n f s W hn)
  clear hn
  generalize clK k = K at HC HR HA
  generalize clN k n = N at HC HR HA
  generalize clF k f = F at HC HR HA
  generalize clS k s = S at HC HA
  have HT := Lib.hid TT
  clear TT
  by_cases hk : K = 2
  · subst hk
    have HE := Lib.hid (show negV 2 N F = vV 2 0 (realZ (negB F)) ⟨#[]⟩ from rfl)
    have rn2 := rn F
    clear rn
    generalize negB F = G at rn2 HE
    go_enter Tryz.func30, Tryz.ntmps30
    go_wp2_with (first
      | (go_at_call 26; (with_reducible refine (HC.out _).mono ?_); rintro e w2 ⟨rfl, hB⟩; have T0 := Two.call HT.out hB; obtain ⟨⟨a0, a1, a2, a3⟩, ⟨e0, e1, e2, e3⟩⟩ := T0.1.cells; obtain ⟨⟨d0, d1, d2, d3⟩, ⟨f0, f1, f2', f3⟩⟩ := T0.2.1.cells; clear hB)
      | (go_at_call 18; (with_reducible refine (ofreal_any _ _).mono ?_); rintro e w4 ⟨rfl, hB⟩; have T1 := Two.call (Two.setA T0 _ _ _ _) hB; clear a0 a1 a2 a3 e0 e1 e2 e3 d0 d1 d2 d3 f0 f1 f2' f3; obtain ⟨⟨d0, d1, d2, d3⟩, ⟨f0, f1, f2', f3⟩⟩ := T1.2.1.cells; clear hB)
      | fail)
    exact bodyPost_ret (v := vV 2 0 (realZ G) ⟨#[]⟩) (by simp [results, Tryz.results30, go_sem, d0, d1, d2, d3]) rfl ⟨by rw [← HR.out, HE.out], Two.res T1 _ _ _ _⟩
  · have c2 : (K == 2) = false := by simpa using hk
    have HD := Lib.hid (fun W => HA.out W hk)
    have HE := Lib.hid (show negV K N F = if K = 1 then numV (fitO (0 - N)) else nullV by unfold negV; rw [if_neg hk])
    clear hk
    obtain ⟨⟨q, hq⟩, -⟩ : (∃ q : Int × Int, (if K = 1 then numV (fitO (0 - N)) else nullV) = vV q.1 q.2 0 ⟨#[]⟩) ∧ True := by
      refine ⟨?_, trivial⟩
      split
      · cases fitO (0 - N) with
        | none => exact ⟨(0, 0), rfl⟩
        | some x => exact ⟨(1, x), rfl⟩
      · exact ⟨(0, 0), rfl⟩
    rw [hq] at HD HE
    clear hq HA
    go_enter Tryz.func30, Tryz.ntmps30
    go_wp2_with (first
      | (go_at_call 26; (with_reducible refine (HC.out _).mono ?_); rintro e w2 ⟨rfl, hB⟩; have T0 := Two.call HT.out hB; obtain ⟨⟨a0, a1, a2, a3⟩, ⟨e0, e1, e2, e3⟩⟩ := T0.1.cells; obtain ⟨⟨d0, d1, d2, d3⟩, ⟨f0, f1, f2', f3⟩⟩ := T0.2.1.cells; clear hB)
      | fail)
    have T1 := (Two.setA T0 (.int .i64 K) (.int .i64 N) (.float .f64 F) (.string S)).drew
    clear a0 a1 a2 a3 e0 e1 e2 e3 d0 d1 d2 d3 f0 f1 f2' f3
    obtain ⟨⟨a0, a1, a2, a3⟩, ⟨e0, e1, e2, e3⟩⟩ := T1.1.cells
    obtain ⟨⟨d0, d1, d2, d3⟩, ⟨f0, f1, f2', f3⟩⟩ := T1.2.1.cells
    go_region_law (first
      | (go_simp; go_at_call 14; (with_reducible refine (ofint_any _ _).mono ?_); rintro e w4 ⟨rfl, hB⟩; have T1 := Two.call T1 hB; clear a0 a1 a2 a3 e0 e1 e2 e3 d0 d1 d2 d3 f0 f1 f2' f3; obtain ⟨⟨a0, a1, a2, a3⟩, ⟨e0, e1, e2, e3⟩⟩ := T1.1.cells; obtain ⟨⟨d0, d1, d2, d3⟩, ⟨f0, f1, f2', f3⟩⟩ := T1.2.1.cells; clear hB)
      | (go_simp; go_at_call 15; (with_reducible refine (HD.out _).mono ?_); rintro e w4 ⟨rfl, hB⟩; have T1 := Two.call T1 hB; clear a0 a1 a2 a3 e0 e1 e2 e3 d0 d1 d2 d3 f0 f1 f2' f3; obtain ⟨⟨a0, a1, a2, a3⟩, ⟨e0, e1, e2, e3⟩⟩ := T1.1.cells; obtain ⟨⟨d0, d1, d2, d3⟩, ⟨f0, f1, f2', f3⟩⟩ := T1.2.1.cells; clear hB)
      | fail)
    all_goals
      go_wp2_with fail
      exact bodyPost_ret (v := vV q.1 q.2 0 ⟨#[]⟩) (by simp [results, Tryz.results30, go_sem, d0, d1, d2, d3]) rfl ⟨by rw [← HR.out, HE.out], Two.res T1 _ _ _ _⟩
end Go.Proofs.YtjlpjooaclfnlaaGreatDoor
