/- The walk of package value's Order. -/
import Derived.Test.YtjlpjooaclfnlaaGreatDoorCmp
namespace Go.Proofs.YtjlpjooaclfnlaaGreatDoor
open Go.RowKit

/-- which of two floats comes first: what is no number comes last -/
def fordZ (x y : Nat) : Int := if feq x x = false then (if feq y y = false then 0 else 1) else if feq y y = false then -1 else fcmpZ x y
/-- which of two clean values comes first -/
def ordC (K N : Int) (F : Nat) (S : ByteArray) (K2 N2 : Int) (F2 : Nat) (S2 : ByteArray) : Int :=
  if K ≠ K2 then cmpZ K K2 else if K = 2 then fordZ F F2 else if K = 3 then Lib.compareBytes S.data.toList S2.data.toList else cmpZ N N2

set_option maxRecDepth 100000 in
set_option maxHeartbeats 8000000 in
theorem order_any (k n : Int) (f : Nat) (s : ByteArray) (k2 n2 : Int) (f2 : Nat) (s2 : ByteArray) (w : World) : Calls Tryz.prog 13 #[vV k n f s, vV k2 n2 f2 s2] w (RetV (.int .i64 (ordC (clK k) (clN k n) (clF k f) (clS k s) (clK k2) (clN k2 n2) (clF k2 f2) (clS k2 s2))) w) := by
  have sf := store_float
  have TT := Two.start w (.int .i64 k) (.int .i64 n) (.float .f64 f) (.string s) (.int .i64 k2) (.int .i64 n2) (.float .f64 f2) (.string s2)
  obtain ⟨R, hR⟩ : ∃ R, R = ordC (clK k) (clN k n) (clF k f) (clS k s) (clK k2) (clN k2 n2) (clF k2 f2) (clS k2 s2) := ⟨_, rfl⟩
  rw [← hR]
  have HR := Lib.hid hR.symm
  clear hR
  go_enter Tryz.func13, Tryz.ntmps13
  go_upto_region 1 with (fail)

  go_cut [] (fun wc => Two w wc (.int .i64 (clK k)) (.int .i64 (clN k n)) (.float .f64 (clF k f)) (.string (clS k s)) (.int .i64 (clK k2)) (.int .i64 (clN k2 n2)) (.float .f64 (clF k2 f2)) (.string (clS k2 s2)))
  case first =>
    have T0 := TT.drew
    obtain ⟨⟨a0, a1, a2, a3⟩, ⟨e0, e1, e2, e3⟩⟩ := T0.1.cells
    obtain ⟨⟨b0, b1, b2, b3⟩, ⟨g0, g1, g2, g3⟩⟩ := T0.2.1.cells
    clear TT
    go_region_law (first
      | (go_simp; go_at_call 26; (with_reducible refine (clean_any _ _ _ _ _).mono ?_); rintro e w2 ⟨rfl, hB⟩; (first | (with_reducible have T0 := Two.call T0 hB) | (with_reducible have T0 := Two.call (Two.setA T0 _ _ _ _) hB) | (with_reducible have T0 := Two.call (Two.setB T0 _ _ _ _) hB)); obtain ⟨⟨a0, a1, a2, a3⟩, ⟨e0, e1, e2, e3⟩⟩ := T0.1.cells; obtain ⟨⟨b0, b1, b2, b3⟩, ⟨g0, g1, g2, g3⟩⟩ := T0.2.1.cells; clear hB)
      | fail)
    all_goals
      go_wp2_with fail
      go_meet
      first
        | (with_reducible exact Two.setB (Two.setA T0 _ _ _ _) _ _ _ _)
        | (with_reducible exact Two.setA (Two.setB T0 _ _ _ _) _ _ _ _)
        | (with_reducible exact Two.setA T0 _ _ _ _)
        | (with_reducible exact Two.setB T0 _ _ _ _)
        | fail

  case rest =>
  clear TT
  obtain ⟨w3, rfl⟩ : ∃ w3 : World, w3 = wc := ⟨_, rfl⟩
  generalize clK k = K at hcut HR
  generalize clN k n = N at hcut HR
  generalize clF k f = F at hcut HR
  generalize clS k s = S at hcut HR
  generalize clK k2 = K2 at hcut HR
  generalize clN k2 n2 = N2 at hcut HR
  generalize clF k2 f2 = F2 at hcut HR
  generalize clS k2 s2 = S2 at hcut HR
  obtain ⟨⟨⟨a0, a1, a2, a3⟩, -⟩, ⟨⟨b0, b1, b2, b3⟩, -⟩⟩ := And.intro hcut.1.cells hcut.2.1.cells
  have hB := hcut.2.2
  have HB := Lib.hid hB
  clear hcut hB
  by_cases hk : K = K2
  · subst hk
    by_cases h2 : K = 2
    · subst h2
      have HX := Lib.hid (fun w => isnan_any F w)
      have HY := Lib.hid (fun w => isnan_any F2 w)
      by_cases hx : feq F F = true
      · by_cases hy : feq F2 F2 = true
        · have HE := Lib.hid (show ordC 2 N F S 2 N2 F2 S2 = fcmpZ F F2 by unfold ordC fordZ; simp [hx, hy])
          have HC := Lib.hid (fun w => cmp43_any F F2 w hx hy)
          rw [hx] at HX
          rw [hy] at HY
          clear hx hy
          go_wp2_with fail
          go_quiet (first
            | ((with_reducible refine quiet_here (HX.out _)))
            | ((with_reducible refine quiet_here (HY.out _)))
            | fail)
          go_wp2_with (first
            | (go_at_call 43; (with_reducible refine (HC.out _).mono ?_); rintro e w2 ⟨rfl, rfl⟩)
            | fail)
          go_ret
          exact ⟨ret_i64 (HE.out.symm.trans HR.out), below_drewN HB.out nq⟩
        · have hy' : feq F2 F2 = false := by simpa using hy
          have HE := Lib.hid (show ordC 2 N F S 2 N2 F2 S2 = -1 by unfold ordC fordZ; simp [hx, hy'])
          rw [hx] at HX
          rw [hy'] at HY
          clear hx hy hy'
          go_wp2_with fail
          go_quiet (first
            | ((with_reducible refine quiet_here (HX.out _)))
            | ((with_reducible refine quiet_here (HY.out _)))
            | fail)
          go_wp2_with fail
          go_ret
          exact ⟨ret_i64 (HE.out.symm.trans HR.out), below_drewN HB.out nq⟩
      · have hx' : feq F F = false := by simpa using hx
        rw [hx'] at HX
        by_cases hy : feq F2 F2 = true
        · have HE := Lib.hid (show ordC 2 N F S 2 N2 F2 S2 = 1 by unfold ordC fordZ; simp [hx', hy])
          rw [hy] at HY
          clear hx hy hx'
          go_wp2_with fail
          go_quiet (first
            | ((with_reducible refine quiet_here (HX.out _)))
            | ((with_reducible refine quiet_here (HY.out _)))
            | fail)
          go_wp2_with fail
          go_ret
          exact ⟨ret_i64 (HE.out.symm.trans HR.out), below_drewN HB.out nq⟩
        · have hy' : feq F2 F2 = false := by simpa using hy
          have HE := Lib.hid (show ordC 2 N F S 2 N2 F2 S2 = 0 by unfold ordC fordZ; simp [hx', hy'])
          rw [hy'] at HY
          clear hx hy hy' hx'
          go_wp2_with fail
          go_quiet (first
            | ((with_reducible refine quiet_here (HX.out _)))
            | ((with_reducible refine quiet_here (HY.out _)))
            | fail)
          go_wp2_with fail
          go_ret
          exact ⟨ret_i64 (HE.out.symm.trans HR.out), below_drewN HB.out nq⟩
    · have c2 : (K == 2) = false := by simpa using h2
      by_cases h3 : K = 3
      · subst h3
        have HE := Lib.hid (show ordC 3 N F S 3 N2 F2 S2 = Lib.compareBytes S.data.toList S2.data.toList by unfold ordC; simp)
        go_wp2_with (first
          | (go_at_call 44; (with_reducible refine (strcmp_any _ _ _).mono ?_); rintro e w2 ⟨rfl, rfl⟩)
          | fail)
        go_ret
        exact ⟨ret_i64 (HE.out.symm.trans HR.out), HB.out⟩
      · have c3 : (K == 3) = false := by simpa using h3
        have HE := Lib.hid (show ordC K N F S K N2 F2 S2 = cmpZ N N2 by unfold ordC; simp [h2, h3])
        go_wp2_with (first
          | (go_at_call 45; (with_reducible refine (cmp45_any _ _ _).mono ?_); rintro e w2 ⟨rfl, rfl⟩)
          | fail)
        go_ret
        exact ⟨ret_i64 (HE.out.symm.trans HR.out), HB.out⟩
  · have c1 : (K != K2) = true := by simpa using hk
    have HE := Lib.hid (show ordC K N F S K2 N2 F2 S2 = cmpZ K K2 by unfold ordC; simp [hk])
    go_wp2_with (first
      | (go_at_call 41; (with_reducible refine (cmp41_any _ _ _).mono ?_); rintro e w2 ⟨rfl, rfl⟩)
      | fail)
    go_ret
    exact ⟨ret_i64 (HE.out.symm.trans HR.out), HB.out⟩
end Go.Proofs.YtjlpjooaclfnlaaGreatDoor
