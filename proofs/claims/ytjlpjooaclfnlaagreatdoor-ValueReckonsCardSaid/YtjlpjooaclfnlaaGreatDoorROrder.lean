/- The walk of the document's Order. -/
import Derived.Test.YtjlpjooaclfnlaaGreatDoorPlain7
namespace Go.Proofs.YtjlpjooaclfnlaaGreatDoor
open Go.RowKit

set_option maxRecDepth 100000 in
set_option maxHeartbeats 8000000 in
theorem rorder_any (k n : Int) (f : Nat) (s : ByteArray) (k2 n2 : Int) (f2 : Nat) (s2 : ByteArray) (w : World) : Calls Tryz.prog 24 #[vV k n f s, vV k2 n2 f2 s2] w (RetV (.int .i64 (ordC (clK k) (clN k n) (rclF k f) (clS k s) (clK k2) (clN k2 n2) (rclF k2 f2) (clS k2 s2))) w) := by
  have sf := store_float
  have TT := Two.start w (.int .i64 k) (.int .i64 n) (.float .f64 f) (.string s) (.int .i64 k2) (.int .i64 n2) (.float .f64 f2) (.string s2)
  obtain ⟨R, hR⟩ : ∃ R, R = ordC (clK k) (clN k n) (rclF k f) (clS k s) (clK k2) (clN k2 n2) (rclF k2 f2) (clS k2 s2) := ⟨_, rfl⟩
  rw [← hR]
  have HR := Lib.hid hR.symm
  clear hR
  go_enter Tryz.func24, Tryz.ntmps24
  go_upto_region 1 with (fail)

  go_cut [] (fun wc => Two w wc (.int .i64 (clK k)) (.int .i64 (clN k n)) (.float .f64 (rclF k f)) (.string (clS k s)) (.int .i64 (clK k2)) (.int .i64 (clN k2 n2)) (.float .f64 (rclF k2 f2)) (.string (clS k2 s2)))
  case first =>
    have T0 := TT.drew
    obtain ⟨⟨a0, a1, a2, a3⟩, ⟨e0, e1, e2, e3⟩⟩ := T0.1.cells
    obtain ⟨⟨b0, b1, b2, b3⟩, ⟨g0, g1, g2, g3⟩⟩ := T0.2.1.cells
    clear TT
    go_region_law (first
      | (go_simp; go_at_call 16; (with_reducible refine (rclean_any _ _ _ _ _).mono ?_); rintro e w2 ⟨rfl, hB⟩; (first | (with_reducible have T0 := Two.call T0 hB) | (with_reducible have T0 := Two.call (Two.setA T0 _ _ _ _) hB) | (with_reducible have T0 := Two.call (Two.setB T0 _ _ _ _) hB)); obtain ⟨⟨a0, a1, a2, a3⟩, ⟨e0, e1, e2, e3⟩⟩ := T0.1.cells; obtain ⟨⟨b0, b1, b2, b3⟩, ⟨g0, g1, g2, g3⟩⟩ := T0.2.1.cells; clear hB)
      | fail)
    all_goals
      go_wp2_with fail
      go_meet
      first
        | (with_reducible exact Two.setB (Two.setA T0 _ _ _ _) _ _ _ _)
        | (with_reducible exact Two.setA (Two.setB T0 _ _ _ _) _ _ _ _)
        | (with_reducible exact Two.setA T0 _ _ _ _)
        | (with_reducible exact Two.setB T0 _ _ _ _)
        | fail

  case rest =>
  clear TT
  obtain ⟨w3, rfl⟩ : ∃ w3 : World, w3 = wc := ⟨_, rfl⟩
  generalize clK k = K at hcut HR
  generalize clN k n = N at hcut HR
  generalize rclF k f = F at hcut HR
  generalize clS k s = S at hcut HR
  generalize clK k2 = K2 at hcut HR
  generalize clN k2 n2 = N2 at hcut HR
  generalize rclF k2 f2 = F2 at hcut HR
  generalize clS k2 s2 = S2 at hcut HR
  obtain ⟨⟨⟨a0, a1, a2, a3⟩, -⟩, ⟨⟨b0, b1, b2, b3⟩, -⟩⟩ := And.intro hcut.1.cells hcut.2.1.cells
  have hB := hcut.2.2
  have HB := Lib.hid hB
  clear hcut hB
  by_cases hk : K = K2
  · subst hk
    by_cases h2 : K = 2
    · subst h2
      have HX := Lib.hid (fun w => number_any F w)
      have HY := Lib.hid (fun w => number_any F2 w)
      by_cases hx : feq F F = true
      · by_cases hy : feq F2 F2 = true
        · rw [hx] at HX
          rw [hy] at HY
          have HE0 := Lib.hid (show ordC 2 N F S 2 N2 F2 S2 = fcmpZ F F2 by unfold ordC fordZ; simp [hx, hy])
          have hone := ord_one F F2
          clear hx hy
          by_cases hl : (FloatKind.f64.format.order F F2 == some .lt) = true
          · have hg : (FloatKind.f64.format.order F F2 == some .gt) = false := by
              cases h : (FloatKind.f64.format.order F F2 == some .gt)
              · rfl
              · exact absurd ⟨hl, h⟩ hone
            have HE := Lib.hid (show fcmpZ F F2 = -1 by unfold fcmpZ; rw [if_pos hl])
            clear hone
            go_wp2_with fail
            go_quiet (fail)
            obtain ⟨m0, rfl⟩ : ∃ m : Nat, m = nq := ⟨_, rfl⟩
            go_wp2_with fail
            go_quiet (fail)
            obtain ⟨m1, rfl⟩ : ∃ m : Nat, m = nq := ⟨_, rfl⟩
            go_wp2_with (first
              | (go_at_call 47; (with_reducible refine (HX.out _).mono ?_); rintro e w2 ⟨rfl, rfl⟩)
              | (go_at_call 47; (with_reducible refine (HY.out _).mono ?_); rintro e w2 ⟨rfl, rfl⟩)
              | fail)
            go_ret
            exact ⟨ret_i64 (HE.out.symm.trans (HE0.out.symm.trans HR.out)), (below_drewN HB.out _)⟩

          · have hl' : (FloatKind.f64.format.order F F2 == some .lt) = false := by simpa using hl
            by_cases hg : (FloatKind.f64.format.order F F2 == some .gt) = true
            · have HE := Lib.hid (show fcmpZ F F2 = 1 by unfold fcmpZ; rw [if_neg hl, if_pos hg])
              clear hone hl
              go_wp2_with fail
              go_quiet (fail)
              obtain ⟨m0, rfl⟩ : ∃ m : Nat, m = nq := ⟨_, rfl⟩
              go_wp2_with fail
              go_quiet (fail)
              obtain ⟨m1, rfl⟩ : ∃ m : Nat, m = nq := ⟨_, rfl⟩
              go_wp2_with (first
                | (go_at_call 47; (with_reducible refine (HX.out _).mono ?_); rintro e w2 ⟨rfl, rfl⟩)
                | (go_at_call 47; (with_reducible refine (HY.out _).mono ?_); rintro e w2 ⟨rfl, rfl⟩)
                | fail)
              go_ret
              exact ⟨ret_i64 (HE.out.symm.trans (HE0.out.symm.trans HR.out)), (below_drewN HB.out _)⟩

            · have hg' : (FloatKind.f64.format.order F F2 == some .gt) = false := by simpa using hg
              have HE := Lib.hid (show fcmpZ F F2 = 0 by unfold fcmpZ; rw [if_neg hl, if_neg hg])
              clear hone hl hg
              go_wp2_with fail
              go_quiet (fail)
              obtain ⟨m0, rfl⟩ : ∃ m : Nat, m = nq := ⟨_, rfl⟩
              go_wp2_with fail
              go_quiet (fail)
              obtain ⟨m1, rfl⟩ : ∃ m : Nat, m = nq := ⟨_, rfl⟩
              go_wp2_with (first
                | (go_at_call 47; (with_reducible refine (HX.out _).mono ?_); rintro e w2 ⟨rfl, rfl⟩)
                | (go_at_call 47; (with_reducible refine (HY.out _).mono ?_); rintro e w2 ⟨rfl, rfl⟩)
                | fail)
              go_ret
              exact ⟨ret_i64 (HE.out.symm.trans (HE0.out.symm.trans HR.out)), (below_drewN HB.out _)⟩

        · have hy' : feq F2 F2 = false := by simpa using hy
          have HE := Lib.hid (show ordC 2 N F S 2 N2 F2 S2 = -1 by unfold ordC fordZ; simp [hx, hy'])
          have g1 := ord_nan F F2 (.inr hy') .lt
          have g2 := ord_nan F F2 (.inr hy') .gt
          rw [hx] at HX
          rw [hy'] at HY
          clear hx hy hy'
          go_wp2_with fail
          go_quiet (fail)
          obtain ⟨m0, rfl⟩ : ∃ m : Nat, m = nq := ⟨_, rfl⟩
          go_wp2_with fail
          go_quiet (fail)
          obtain ⟨m1, rfl⟩ : ∃ m : Nat, m = nq := ⟨_, rfl⟩
          go_wp2_with (first
            | (go_at_call 47; (with_reducible refine (HX.out _).mono ?_); rintro e w2 ⟨rfl, rfl⟩)
            | (go_at_call 47; (with_reducible refine (HY.out _).mono ?_); rintro e w2 ⟨rfl, rfl⟩)
            | fail)
          go_ret
          exact ⟨ret_i64 (HE.out.symm.trans HR.out), (below_drewN HB.out _)⟩

      · have hx' : feq F F = false := by simpa using hx
        have g1 := ord_nan F F2 (.inl hx') .lt
        have g2 := ord_nan F F2 (.inl hx') .gt
        rw [hx'] at HX
        by_cases hy : feq F2 F2 = true
        · have HE := Lib.hid (show ordC 2 N F S 2 N2 F2 S2 = 1 by unfold ordC fordZ; simp [hx', hy])
          rw [hy] at HY
          clear hx hy hx'
          go_wp2_with fail
          go_quiet (fail)
          obtain ⟨m0, rfl⟩ : ∃ m : Nat, m = nq := ⟨_, rfl⟩
          go_wp2_with fail
          go_quiet (fail)
          obtain ⟨m1, rfl⟩ : ∃ m : Nat, m = nq := ⟨_, rfl⟩
          go_wp2_with (first
            | (go_at_call 47; (with_reducible refine (HX.out _).mono ?_); rintro e w2 ⟨rfl, rfl⟩)
            | (go_at_call 47; (with_reducible refine (HY.out _).mono ?_); rintro e w2 ⟨rfl, rfl⟩)
            | fail)
          go_ret
          exact ⟨ret_i64 (HE.out.symm.trans HR.out), (below_drewN HB.out _)⟩

        · have hy' : feq F2 F2 = false := by simpa using hy
          have HE := Lib.hid (show ordC 2 N F S 2 N2 F2 S2 = 0 by unfold ordC fordZ; simp [hx', hy'])
          rw [hy'] at HY
          clear hx hy hx' hy'
          go_wp2_with fail
          go_quiet (fail)
          obtain ⟨m0, rfl⟩ : ∃ m : Nat, m = nq := ⟨_, rfl⟩
          go_wp2_with fail
          go_quiet (fail)
          obtain ⟨m1, rfl⟩ : ∃ m : Nat, m = nq := ⟨_, rfl⟩
          go_wp2_with (first
            | (go_at_call 47; (with_reducible refine (HX.out _).mono ?_); rintro e w2 ⟨rfl, rfl⟩)
            | (go_at_call 47; (with_reducible refine (HY.out _).mono ?_); rintro e w2 ⟨rfl, rfl⟩)
            | fail)
          go_ret
          exact ⟨ret_i64 (HE.out.symm.trans HR.out), (below_drewN HB.out _)⟩

    · have c2 : (K == 2) = false := by simpa using h2
      by_cases h3 : K = 3
      · subst h3
        have HE := Lib.hid (show ordC 3 N F S 3 N2 F2 S2 = Lib.compareBytes S.data.toList S2.data.toList by unfold ordC; simp)
        have hl := cb_less S.toList S2.toList
        have hq : (S.toList == S2.toList) = decide (Lib.compareBytes S.data.toList S2.data.toList = 0) := by
          rw [Bool.eq_iff_iff, decide_eq_true_iff, cb_eq, beq_iff_eq, ByteArray.toList_eq, ByteArray.toList_eq]
        rw [ByteArray.toList_eq, ByteArray.toList_eq] at hl
        have hr := cb_range S.data.toList S2.data.toList
        generalize Lib.compareBytes S.data.toList S2.data.toList = c at hl hq hr HE
        rw [← ByteArray.toList_eq, ← ByteArray.toList_eq] at hl
        rcases hr with rfl | rfl | rfl
        · have hl' : Op.bytesLess S.toList S2.toList = true := hl
          have hq' : (S.toList == S2.toList) = false := hq
          clear hl hq
          go_wp2_with fail
          go_quiet (fail)
          obtain ⟨m0, rfl⟩ : ∃ m : Nat, m = nq := ⟨_, rfl⟩
          go_wp2_with fail
          go_quiet (fail)
          obtain ⟨m1, rfl⟩ : ∃ m : Nat, m = nq := ⟨_, rfl⟩
          go_wp2_with fail
          go_quiet (fail)
          obtain ⟨m2, rfl⟩ : ∃ m : Nat, m = nq := ⟨_, rfl⟩
          go_wp2_with fail
          go_ret
          exact ⟨ret_i64 (HE.out.symm.trans HR.out), (below_drewN (below_drewN HB.out _) _)⟩

        · have hl' : Op.bytesLess S.toList S2.toList = false := hl
          have hq' : (S.toList == S2.toList) = true := hq
          clear hl hq
          go_wp2_with fail
          go_quiet (fail)
          obtain ⟨m0, rfl⟩ : ∃ m : Nat, m = nq := ⟨_, rfl⟩
          go_wp2_with fail
          go_quiet (fail)
          obtain ⟨m1, rfl⟩ : ∃ m : Nat, m = nq := ⟨_, rfl⟩
          go_wp2_with fail
          go_quiet (fail)
          obtain ⟨m2, rfl⟩ : ∃ m : Nat, m = nq := ⟨_, rfl⟩
          go_wp2_with fail
          go_ret
          exact ⟨ret_i64 (HE.out.symm.trans HR.out), (below_drewN (below_drewN HB.out _) _)⟩

        · have hl' : Op.bytesLess S.toList S2.toList = false := hl
          have hq' : (S.toList == S2.toList) = false := hq
          clear hl hq
          go_wp2_with fail
          go_quiet (fail)
          obtain ⟨m0, rfl⟩ : ∃ m : Nat, m = nq := ⟨_, rfl⟩
          go_wp2_with fail
          go_quiet (fail)
          obtain ⟨m1, rfl⟩ : ∃ m : Nat, m = nq := ⟨_, rfl⟩
          go_wp2_with fail
          go_quiet (fail)
          obtain ⟨m2, rfl⟩ : ∃ m : Nat, m = nq := ⟨_, rfl⟩
          go_wp2_with fail
          go_ret
          exact ⟨ret_i64 (HE.out.symm.trans HR.out), (below_drewN (below_drewN HB.out _) _)⟩

      · have c3 : (K == 3) = false := by simpa using h3
        have HE0 := Lib.hid (show ordC K N F S K N2 F2 S2 = cmpZ N N2 by unfold ordC; simp [h2, h3])
        by_cases hl : N < N2
        · have hg : ¬ N2 < N := by omega
          have hl' : decide (N < N2) = true := by simpa using hl
          have hg' : decide (N2 < N) = false := by simpa using hg
          have HE := Lib.hid (show cmpZ N N2 = -1 by unfold cmpZ; rw [if_pos hl])
          go_wp2_with fail
          go_quiet (fail)
          obtain ⟨m0, rfl⟩ : ∃ m : Nat, m = nq := ⟨_, rfl⟩
          go_wp2_with fail
          go_quiet (fail)
          obtain ⟨m1, rfl⟩ : ∃ m : Nat, m = nq := ⟨_, rfl⟩
          go_wp2_with fail
          go_ret
          exact ⟨ret_i64 (HE.out.symm.trans (HE0.out.symm.trans HR.out)), (below_drewN HB.out _)⟩

        · have hl' : decide (N < N2) = false := by simpa using hl
          by_cases hg : N2 < N
          · have hg' : decide (N2 < N) = true := by simpa using hg
            have HE := Lib.hid (show cmpZ N N2 = 1 by unfold cmpZ; rw [if_neg hl, if_pos hg])
            go_wp2_with fail
            go_quiet (fail)
            obtain ⟨m0, rfl⟩ : ∃ m : Nat, m = nq := ⟨_, rfl⟩
            go_wp2_with fail
            go_quiet (fail)
            obtain ⟨m1, rfl⟩ : ∃ m : Nat, m = nq := ⟨_, rfl⟩
            go_wp2_with fail
            go_ret
            exact ⟨ret_i64 (HE.out.symm.trans (HE0.out.symm.trans HR.out)), (below_drewN HB.out _)⟩

          · have hg' : decide (N2 < N) = false := by simpa using hg
            have HE := Lib.hid (show cmpZ N N2 = 0 by unfold cmpZ; rw [if_neg hl, if_neg hg])
            go_wp2_with fail
            go_quiet (fail)
            obtain ⟨m0, rfl⟩ : ∃ m : Nat, m = nq := ⟨_, rfl⟩
            go_wp2_with fail
            go_quiet (fail)
            obtain ⟨m1, rfl⟩ : ∃ m : Nat, m = nq := ⟨_, rfl⟩
            go_wp2_with fail
            go_ret
            exact ⟨ret_i64 (HE.out.symm.trans (HE0.out.symm.trans HR.out)), (below_drewN HB.out _)⟩

  · have c1 : (K == K2) = false := by simpa using hk
    have HE0 := Lib.hid (show ordC K N F S K2 N2 F2 S2 = cmpZ K K2 by unfold ordC; simp [hk])
    by_cases hl : K < K2
    · have hl' : decide (K < K2) = true := by simpa using hl
      have hg' : decide (K2 < K) = false := by simpa using (show ¬ K2 < K by omega)
      have HE := Lib.hid (show cmpZ K K2 = -1 by unfold cmpZ; rw [if_pos hl])
      go_wp2_with fail
      go_quiet (fail)
      obtain ⟨m0, rfl⟩ : ∃ m : Nat, m = nq := ⟨_, rfl⟩
      go_wp2_with fail
      go_ret
      exact ⟨ret_i64 (HE.out.symm.trans (HE0.out.symm.trans HR.out)), (below_drewN HB.out _)⟩

    · have hl' : decide (K < K2) = false := by simpa using hl
      have hg : K2 < K := by omega
      have hg' : decide (K2 < K) = true := by simpa using hg
      have HE := Lib.hid (show cmpZ K K2 = 1 by unfold cmpZ; rw [if_neg hl, if_pos hg])
      go_wp2_with fail
      go_quiet (fail)
      obtain ⟨m0, rfl⟩ : ∃ m : Nat, m = nq := ⟨_, rfl⟩
      go_wp2_with fail
      go_ret
      exact ⟨ret_i64 (HE.out.symm.trans (HE0.out.symm.trans HR.out)), (below_drewN HB.out _)⟩

end Go.Proofs.YtjlpjooaclfnlaaGreatDoor
