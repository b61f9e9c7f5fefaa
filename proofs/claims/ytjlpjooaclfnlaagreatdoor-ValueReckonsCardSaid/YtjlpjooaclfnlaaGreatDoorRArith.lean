/- The walk of the document's Arith. -/
import Derived.Test.YtjlpjooaclfnlaaGreatDoorRMul
import Derived.Test.YtjlpjooaclfnlaaGreatDoorMakes
namespace Go.Proofs.YtjlpjooaclfnlaaGreatDoor
open Go.RowKit

/-- what the document's Arith answers: that value, but for the bits of what is no number -/
def RetA (v : Value) (w : World) (e : Ending) (w' : World) : Prop := ∃ K M F g, v = vV K M F ⟨#[]⟩ ∧ Like F g ∧ e = .returned (vV K M g ⟨#[]⟩) ∧ Below w.heap.size w w'
theorem like_zero : Like 0 0 := .inl ⟨rfl, feq_zero⟩
theorem retA_of {v : Value} {K M : Int} {F g : Nat} {w w' : World} (h : v = vV K M F ⟨#[]⟩ ∧ Like F g) (hB : Below w.heap.size w w') : RetA v w (.returned (vV K M g ⟨#[]⟩)) w' := ⟨K, M, F, g, h.1, h.2, rfl, hB⟩
theorem fit_split {m n : Int} {ok : Bool} (h : fitO m = if ok = true then some n else none) : (ok = true ∧ -9223372036854775808 ≤ n ∧ n ≤ 9223372036854775807 ∧ n = m) ∨ (ok = false ∧ ¬ In64 m) := by
  unfold fitO at h
  by_cases g : fit64 m = true
  · rw [if_pos g] at h
    cases ok
    · cases h
    · cases h
      have := fit64_in.1 g
      exact .inl ⟨rfl, this.1, this.2, rfl⟩
  · rw [if_neg g] at h
    cases ok
    · exact .inr ⟨rfl, fun k => g (fit64_in.2 k)⟩
    · cases h
theorem ar_yes {o : Option Int} {m n : Int} (h : o = fitO m) (hn : n = m) (h1 : -9223372036854775808 ≤ n) (h2 : n ≤ 9223372036854775807) : numV o = vV 1 n 0 ⟨#[]⟩ ∧ Like 0 0 := by
  subst hn
  rw [h, fitO_yes ⟨h1, h2⟩]
  exact ⟨rfl, like_zero⟩
theorem ar_no {o : Option Int} {m : Int} (h : o = fitO m) (hn : ¬ In64 m) : numV o = vV 0 0 0 ⟨#[]⟩ ∧ Like 0 0 := by
  rw [h, fitO_no hn]
  exact ⟨rfl, like_zero⟩
theorem rclean_real (r : Nat) (w : World) : Calls Tryz.prog 16 #[vV 2 0 r ⟨#[]⟩] w (RetV (vV 2 0 (rclF 2 r) ⟨#[]⟩) w) := rclean_any 2 0 r ⟨#[]⟩ w
theorem rclean_nan (t : Nat) (w : World) : Calls Tryz.prog 16 #[vV 2 0 (nanCut t) ⟨#[]⟩] w (RetV (vV 2 0 (nanCut t) ⟨#[]⟩) w) := by
  have h := rclean_real (nanCut t) w
  have h0 : feq (nanCut t) 0 = false := ord_nan (nanCut t) 0 (.inl (nanCut_nan t)) .eq
  unfold rclF at h
  rwa [if_pos rfl, h0, if_neg (by decide)] at h
theorem fl_yes {o : Option Nat} {r : Nat} (h : o = some (flo (some r))) : realV o = vV 2 0 (realZ r) ⟨#[]⟩ ∧ Like (realZ r) (rclF 2 r) := by
  subst h
  exact ⟨rfl, realZ_like r⟩
theorem fl_no {o : Option Nat} (t : Nat) (h : o = some (flo none)) : realV o = vV 2 0 nanZ ⟨#[]⟩ ∧ Like nanZ (nanCut t) := by
  subst h
  exact ⟨realV_nan, .inr ⟨feq_nan, nanCut_nan t⟩⟩

set_option maxRecDepth 100000 in
set_option maxHeartbeats 8000000 in
theorem rarith_walk (op : ByteArray) (k n : Int) (f : Nat) (s : ByteArray) (k2 n2 : Int) (f2 : Nat) (s2 : ByteArray) (w : World) (hn : In64 n) (hn2 : In64 n2) : Calls Tryz.prog 29 #[.string op, vV k n f s, vV k2 n2 f2 s2] w (RetA (arV op.toList (clK k) (clN k n) (rclF k f) (clK k2) (clN k2 n2) (rclF k2 f2)) w) := by
  have sf := store_float
  have TT := Three.start w (.int .i64 k) (.int .i64 n) (.float .f64 f) (.string s) (.int .i64 k2) (.int .i64 n2) (.float .f64 f2) (.string s2)
  obtain ⟨R, hR⟩ : ∃ R, R = arV op.toList (clK k) (clN k n) (rclF k f) (clK k2) (clN k2 n2) (rclF k2 f2) := ⟨_, rfl⟩
  rw [← hR]
  have HR := Lib.hid hR.symm
  have HI := Lib.hid (And.intro (clN_in k n hn) (clN_in k2 n2 hn2))
  clear hR hn hn2
  go_enter Tryz.func29, Tryz.ntmps29
  go_upto_region 1 with (fail)

  go_cut [] (fun wc => Three w wc (.int .i64 (clK k)) (.int .i64 (clN k n)) (.float .f64 (rclF k f)) (.string (clS k s)) (.int .i64 (clK k2)) (.int .i64 (clN k2 n2)) (.float .f64 (rclF k2 f2)) (.string (clS k2 s2)))
  case first =>
    have T0 := TT.drew
    obtain ⟨⟨a0, a1, a2, a3⟩, ⟨e0, e1, e2, e3⟩⟩ := T0.cells1
    obtain ⟨⟨b0, b1, b2, b3⟩, ⟨g0, g1, g2, g3⟩⟩ := T0.cells2
    clear TT
    go_region_law (first
      | (go_simp; go_at_call 16; (with_reducible refine (rclean_any _ _ _ _ _).mono ?_); rintro e w2 ⟨rfl, hB⟩; (first | (with_reducible have T0 := Three.call T0 hB) | (with_reducible have T0 := Three.call (Three.setA T0 _ _ _ _) hB) | (with_reducible have T0 := Three.call (Three.setB T0 _ _ _ _) hB)); obtain ⟨⟨a0, a1, a2, a3⟩, ⟨e0, e1, e2, e3⟩⟩ := T0.cells1; obtain ⟨⟨b0, b1, b2, b3⟩, ⟨g0, g1, g2, g3⟩⟩ := T0.cells2; clear hB)
      | fail)
    all_goals
      go_wp2_with fail
      go_meet
      first
        | (with_reducible exact Three.setB (Three.setA T0 _ _ _ _) _ _ _ _)
        | (with_reducible exact Three.setA (Three.setB T0 _ _ _ _) _ _ _ _)
        | (with_reducible exact Three.setA T0 _ _ _ _)
        | (with_reducible exact Three.setB T0 _ _ _ _)
        | fail

  case rest =>
  clear TT
  obtain ⟨w3, rfl⟩ : ∃ w3 : World, w3 = wc := ⟨_, rfl⟩
  generalize clK k = K at hcut HR
  generalize clN k n = N at hcut HR HI
  generalize rclF k f = F at hcut HR
  generalize clS k s = S at hcut HR
  generalize clK k2 = K2 at hcut HR
  generalize clN k2 n2 = N2 at hcut HR HI
  generalize rclF k2 f2 = F2 at hcut HR
  generalize clS k2 s2 = S2 at hcut HR

  obtain ⟨⟨a0, a1, a2, a3⟩, -⟩ := hcut.cells1
  obtain ⟨⟨b0, b1, b2, b3⟩, -⟩ := hcut.cells2
  obtain ⟨⟨d0, d1, d2, d3⟩, ⟨f0, f1, f2', f3⟩⟩ := hcut.2.cells
  have HT := Lib.hid hcut
  clear hcut
  by_cases hk : K = 1 ∧ K2 = 1
  · obtain ⟨rfl, rfl⟩ := hk
    have HE := Lib.hid (show arV op.toList 1 N F 1 N2 F2 = numV (arN op.toList N N2) from rfl)
    obtain ⟨⟨i1, i2⟩, ⟨i3, i4⟩⟩ := HI.out
    by_cases h0 : op.toList = [43]
    · have HC := Lib.hid (show arN op.toList N N2 = fitO (N + N2) by unfold arN; rw [if_pos h0]; rfl)
      have e0' : (op.toList == [43]) = true := by rw [h0]; decide
      clear h0
      go_wp2_with (first | (go_at_call 50; (with_reducible refine (radd_any _ _ _ ?_ ?_).mono ?_); (· unfold In64; omega); (· unfold In64; omega); rintro e w4 ⟨⟨rn, ok, rfl, hon⟩, rfl⟩; rcases fit_split hon with ⟨rfl, hr1, hr2, hi⟩ | ⟨rfl, hi⟩ <;> (have HI2 := Lib.hid hi; clear hi hon)) | fail)
      all_goals first
        | (exact bodyPost_ret (v := vV 1 rn 0 ⟨#[]⟩) (by simp [results, Tryz.results29, go_sem, d0, d1, d2, d3]) rfl (retA_of (by rw [← HR.out, HE.out]; exact ar_yes HC.out (HI2.out.trans (by omega)) (by omega) (by omega)) (below_res HT.out.below _ _ _ _)))
        | (exact bodyPost_ret (v := nullV) (by simp [results, Tryz.results29, go_sem, d0, d1, d2, d3]) rfl (retA_of (by rw [← HR.out, HE.out]; exact ar_no HC.out (by have := HI2.out; unfold In64 at *; omega)) (below_res HT.out.below _ _ _ _)))
    · skip
      by_cases h1 : op.toList = [45]
      · have HC := Lib.hid (show arN op.toList N N2 = fitO (N - N2) by unfold arN; rw [if_neg h0, if_pos h1]; rfl)
        have e1' : (op.toList == [45]) = true := by rw [h1]; decide
        have m0 : (op.toList == [43]) = false := by rw [h1]; decide
        clear h0 h1
        by_cases hm : N2 = -9223372036854775808
        · subst hm
          go_wp2_with (first | (have hrr := HI2.out; (go_at_call 50; (with_reducible refine (radd_any _ _ _ ?_ ?_).mono ?_); (· unfold In64; omega); (· unfold In64; omega); rintro e w4 ⟨⟨rn2, ok2, rfl, hon⟩, rfl⟩; rcases fit_split hon with ⟨rfl, hr3, hr4, hi⟩ | ⟨rfl, hi⟩ <;> (have HI3 := Lib.hid hi; clear hi hon))) | (go_at_call 50; (with_reducible refine (radd_any _ _ _ ?_ ?_).mono ?_); (· unfold In64; omega); (· unfold In64; omega); rintro e w4 ⟨⟨rn, ok, rfl, hon⟩, rfl⟩; rcases fit_split hon with ⟨rfl, hr1, hr2, hi⟩ | ⟨rfl, hi⟩ <;> (have HI2 := Lib.hid hi; clear hi hon)) | fail)
          all_goals first
            | (exact bodyPost_ret (v := vV 1 rn2 0 ⟨#[]⟩) (by simp [results, Tryz.results29, go_sem, d0, d1, d2, d3]) rfl (retA_of (by rw [← HR.out, HE.out]; exact ar_yes HC.out (by have := HI2.out; have := HI3.out; omega) (by omega) (by omega)) (below_res HT.out.below _ _ _ _)))
            | (exact bodyPost_ret (v := nullV) (by simp [results, Tryz.results29, go_sem, d0, d1, d2, d3]) rfl (retA_of (by rw [← HR.out, HE.out]; exact ar_no HC.out (by have := HI2.out; have := HI3.out; unfold In64 at *; omega)) (below_res HT.out.below _ _ _ _)))
            | (exact bodyPost_ret (v := nullV) (by simp [results, Tryz.results29, go_sem, d0, d1, d2, d3]) rfl (retA_of (by rw [← HR.out, HE.out]; exact ar_no HC.out (by have := HI2.out; unfold In64 at *; omega)) (below_res HT.out.below _ _ _ _)))
        · have hm' : (N2 == -9223372036854775808) = false := by simpa using hm
          have i5 : -9223372036854775807 ≤ N2 := by omega
          clear hm
          go_wp2_with (first | (go_at_call 50; (with_reducible refine (radd_any _ _ _ ?_ ?_).mono ?_); (· unfold In64; omega); (· unfold In64; omega); rintro e w4 ⟨⟨rn, ok, rfl, hon⟩, rfl⟩; rcases fit_split hon with ⟨rfl, hr1, hr2, hi⟩ | ⟨rfl, hi⟩ <;> (have HI2 := Lib.hid hi; clear hi hon)) | fail)
          all_goals first
            | (exact bodyPost_ret (v := vV 1 rn 0 ⟨#[]⟩) (by simp [results, Tryz.results29, go_sem, d0, d1, d2, d3]) rfl (retA_of (by rw [← HR.out, HE.out]; exact ar_yes HC.out (HI2.out.trans (by omega)) (by omega) (by omega)) (below_res HT.out.below _ _ _ _)))
            | (exact bodyPost_ret (v := nullV) (by simp [results, Tryz.results29, go_sem, d0, d1, d2, d3]) rfl (retA_of (by rw [← HR.out, HE.out]; exact ar_no HC.out (by have := HI2.out; unfold In64 at *; omega)) (below_res HT.out.below _ _ _ _)))
      · skip
        by_cases h2 : op.toList = [42]
        · have HC := Lib.hid (show arN op.toList N N2 = fitO (N * N2) by unfold arN; rw [if_neg h0, if_neg h1, if_pos h2]; rfl)
          have e2' : (op.toList == [42]) = true := by rw [h2]; decide
          have m0 : (op.toList == [43]) = false := by rw [h2]; decide
          have m1 : (op.toList == [45]) = false := by rw [h2]; decide
          clear h0 h1 h2
          go_wp2_with (first | (go_at_call 51; (with_reducible refine (rmul_any _ _ _ ?_ ?_).mono ?_); (· unfold In64; omega); (· unfold In64; omega); rintro e w4 ⟨⟨rn, ok, rfl, hon⟩, rfl⟩; rcases fit_split hon with ⟨rfl, hr1, hr2, hi⟩ | ⟨rfl, hi⟩ <;> (have HI2 := Lib.hid hi; clear hi hon)) | fail)
          all_goals first
            | (exact bodyPost_ret (v := vV 1 rn 0 ⟨#[]⟩) (by simp [results, Tryz.results29, go_sem, d0, d1, d2, d3]) rfl (retA_of (by rw [← HR.out, HE.out]; exact ar_yes HC.out HI2.out (by omega) (by omega)) (below_res HT.out.below _ _ _ _)))
            | (exact bodyPost_ret (v := nullV) (by simp [results, Tryz.results29, go_sem, d0, d1, d2, d3]) rfl (retA_of (by rw [← HR.out, HE.out]; exact ar_no HC.out HI2.out) (below_res HT.out.below _ _ _ _)))
        · skip
          have HC := Lib.hid (show arN op.toList N N2 = none by unfold arN; rw [if_neg h0, if_neg h1, if_neg h2])
          have n0 := op_ne h0
          have n1 := op_ne h1
          have n2 := op_ne h2
          clear h0 h1 h2
          go_wp2_with fail
          exact bodyPost_ret (v := nullV) (by simp [results, Tryz.results29, go_sem, d0, d1, d2, d3]) rfl (retA_of (by rw [← HR.out, HE.out, HC.out]; exact ⟨rfl, like_zero⟩) (below_res HT.out.below _ _ _ _))
  · by_cases hk2 : K = 2 ∧ K2 = 2
    · obtain ⟨rfl, rfl⟩ := hk2
      clear hk
      have HE := Lib.hid (show arV op.toList 2 N F 2 N2 F2 = realV (arF op.toList F F2) from rfl)
      by_cases h0 : op.toList = [43]
      · have HC := Lib.hid (show arF op.toList F F2 = some (flo (floatBits .add .f64 F F2)) by unfold arF; rw [if_pos h0])
        have e0' : (op.toList == [43]) = true := by rw [h0]; decide
        clear h0
        cases hfb : floatBits .add .f64 F F2 with
        | some r =>
          rw [hfb] at HC
          have hs := fun W => run_float_arith (P := Tryz.prog) W .add 22 .f64 F F2 r hfb
          clear hfb
          go_wp2_with (first
            | (go_at_call 16; (with_reducible refine (rclean_real _ _).mono ?_); rintro e w4 ⟨rfl, hB⟩; have T0 := Three.call HT.out hB; obtain ⟨⟨d0, d1, d2, d3⟩, ⟨f0, f1, f2', f3⟩⟩ := T0.2.cells; clear hB)
            | fail)
          exact bodyPost_ret (v := vV 2 0 (rclF 2 r) ⟨#[]⟩) (by simp [results, Tryz.results29, go_sem, d0, d1, d2, d3]) rfl (retA_of (by rw [← HR.out, HE.out]; exact fl_yes HC.out) (below_res T0.below _ _ _ _))
        | none =>
          rw [hfb] at HC
          have hn := run_float_nan .add (by decide) F F2 hfb
          clear hfb
          go_wp2_with (first
            | (go_at_call 16; (with_reducible refine (rclean_nan _ _).mono ?_); rintro e w4 ⟨rfl, hB⟩; have T0 := Three.call HT.out (below_drew hB); obtain ⟨⟨d0, d1, d2, d3⟩, ⟨f0, f1, f2', f3⟩⟩ := T0.2.cells; clear hB)
            | fail)
          exact bodyPost_ret (v := vV 2 0 (nanCut (w3.tape w3.drawn (.nanBits .f64 F F2))) ⟨#[]⟩) (by simp [results, Tryz.results29, go_sem, d0, d1, d2, d3]) rfl (retA_of (by rw [← HR.out, HE.out]; exact fl_no _ HC.out) (below_res T0.below _ _ _ _))
      · skip
        by_cases h1 : op.toList = [45]
        · have HC := Lib.hid (show arF op.toList F F2 = some (flo (floatBits .sub .f64 F F2)) by unfold arF; rw [if_neg h0, if_pos h1])
          have e1' : (op.toList == [45]) = true := by rw [h1]; decide
          have m0 : (op.toList == [43]) = false := by rw [h1]; decide
          clear h0 h1
          cases hfb : floatBits .sub .f64 F F2 with
          | some r =>
            rw [hfb] at HC
            have hs := fun W => run_float_arith (P := Tryz.prog) W .sub 22 .f64 F F2 r hfb
            clear hfb
            go_wp2_with (first
              | (go_at_call 16; (with_reducible refine (rclean_real _ _).mono ?_); rintro e w4 ⟨rfl, hB⟩; have T0 := Three.call HT.out hB; obtain ⟨⟨d0, d1, d2, d3⟩, ⟨f0, f1, f2', f3⟩⟩ := T0.2.cells; clear hB)
              | fail)
            exact bodyPost_ret (v := vV 2 0 (rclF 2 r) ⟨#[]⟩) (by simp [results, Tryz.results29, go_sem, d0, d1, d2, d3]) rfl (retA_of (by rw [← HR.out, HE.out]; exact fl_yes HC.out) (below_res T0.below _ _ _ _))
          | none =>
            rw [hfb] at HC
            have hn := run_float_nan .sub (by decide) F F2 hfb
            clear hfb
            go_wp2_with (first
              | (go_at_call 16; (with_reducible refine (rclean_nan _ _).mono ?_); rintro e w4 ⟨rfl, hB⟩; have T0 := Three.call HT.out (below_drew hB); obtain ⟨⟨d0, d1, d2, d3⟩, ⟨f0, f1, f2', f3⟩⟩ := T0.2.cells; clear hB)
              | fail)
            exact bodyPost_ret (v := vV 2 0 (nanCut (w3.tape w3.drawn (.nanBits .f64 F F2))) ⟨#[]⟩) (by simp [results, Tryz.results29, go_sem, d0, d1, d2, d3]) rfl (retA_of (by rw [← HR.out, HE.out]; exact fl_no _ HC.out) (below_res T0.below _ _ _ _))
        · skip
          by_cases h2 : op.toList = [42]
          · have HC := Lib.hid (show arF op.toList F F2 = some (flo (floatBits .mul .f64 F F2)) by unfold arF; rw [if_neg h0, if_neg h1, if_pos h2])
            have e2' : (op.toList == [42]) = true := by rw [h2]; decide
            have m0 : (op.toList == [43]) = false := by rw [h2]; decide
            have m1 : (op.toList == [45]) = false := by rw [h2]; decide
            clear h0 h1 h2
            cases hfb : floatBits .mul .f64 F F2 with
            | some r =>
              rw [hfb] at HC
              have hs := fun W => run_float_arith (P := Tryz.prog) W .mul 22 .f64 F F2 r hfb
              clear hfb
              go_wp2_with (first
                | (go_at_call 16; (with_reducible refine (rclean_real _ _).mono ?_); rintro e w4 ⟨rfl, hB⟩; have T0 := Three.call HT.out hB; obtain ⟨⟨d0, d1, d2, d3⟩, ⟨f0, f1, f2', f3⟩⟩ := T0.2.cells; clear hB)
                | fail)
              exact bodyPost_ret (v := vV 2 0 (rclF 2 r) ⟨#[]⟩) (by simp [results, Tryz.results29, go_sem, d0, d1, d2, d3]) rfl (retA_of (by rw [← HR.out, HE.out]; exact fl_yes HC.out) (below_res T0.below _ _ _ _))
            | none =>
              rw [hfb] at HC
              have hn := run_float_nan .mul (by decide) F F2 hfb
              clear hfb
              go_wp2_with (first
                | (go_at_call 16; (with_reducible refine (rclean_nan _ _).mono ?_); rintro e w4 ⟨rfl, hB⟩; have T0 := Three.call HT.out (below_drew hB); obtain ⟨⟨d0, d1, d2, d3⟩, ⟨f0, f1, f2', f3⟩⟩ := T0.2.cells; clear hB)
                | fail)
              exact bodyPost_ret (v := vV 2 0 (nanCut (w3.tape w3.drawn (.nanBits .f64 F F2))) ⟨#[]⟩) (by simp [results, Tryz.results29, go_sem, d0, d1, d2, d3]) rfl (retA_of (by rw [← HR.out, HE.out]; exact fl_no _ HC.out) (below_res T0.below _ _ _ _))
          · skip
            have HC := Lib.hid (show arF op.toList F F2 = none by unfold arF; rw [if_neg h0, if_neg h1, if_neg h2])
            have n0 := op_ne h0
            have n1 := op_ne h1
            have n2 := op_ne h2
            clear h0 h1 h2
            go_wp2_with fail
            exact bodyPost_ret (v := nullV) (by simp [results, Tryz.results29, go_sem, d0, d1, d2, d3]) rfl (retA_of (by rw [← HR.out, HE.out, HC.out]; exact ⟨rfl, like_zero⟩) (below_res HT.out.below _ _ _ _))
    · have HE := Lib.hid (show arV op.toList K N F K2 N2 F2 = nullV by unfold arV; rw [if_neg hk, if_neg hk2])
      by_cases h1 : K = 1
      · have c1 : (K2 == 1) = false := by rw [beq_eq_false_iff_ne]; exact fun h => hk ⟨h1, h⟩
        clear hk hk2
        subst h1
        go_wp2_with fail
        exact bodyPost_ret (v := nullV) (by simp [results, Tryz.results29, go_sem, d0, d1, d2, d3]) rfl (retA_of (by rw [← HR.out, HE.out]; exact ⟨rfl, like_zero⟩) (below_res HT.out.below _ _ _ _))
      · have c1 : (K == 1) = false := by simpa using h1
        by_cases h2 : K = 2
        · have c2 : (K2 == 2) = false := by rw [beq_eq_false_iff_ne]; exact fun h => hk2 ⟨h2, h⟩
          clear hk hk2 h1 c1
          subst h2
          go_wp2_with fail
          exact bodyPost_ret (v := nullV) (by simp [results, Tryz.results29, go_sem, d0, d1, d2, d3]) rfl (retA_of (by rw [← HR.out, HE.out]; exact ⟨rfl, like_zero⟩) (below_res HT.out.below _ _ _ _))
        · have c2 : (K == 2) = false := by simpa using h2
          clear hk hk2
          go_wp2_with fail
          exact bodyPost_ret (v := nullV) (by simp [results, Tryz.results29, go_sem, d0, d1, d2, d3]) rfl (retA_of (by rw [← HR.out, HE.out]; exact ⟨rfl, like_zero⟩) (below_res HT.out.below _ _ _ _))
end Go.Proofs.YtjlpjooaclfnlaaGreatDoor
