/- The walk of the document's Compare. -/
import Derived.Test.YtjlpjooaclfnlaaGreatDoorROrder
namespace Go.Proofs.YtjlpjooaclfnlaaGreatDoor
open Go.RowKit

theorem rclF_again (k : Int) (f : Nat) : rclF (clK k) (rclF k f) = rclF k f := by
  unfold clK rclF
  by_cases h2 : k = 2
  · subst h2
    by_cases h : feq f 0 = true
    · simp [h, feq_zero]
    · simp [h]
  · rw [if_neg h2]
    (repeat' split) <;> first | rfl | omega
theorem cmpZ_range (x y : Int) : cmpZ x y = -1 ∨ cmpZ x y = 0 ∨ cmpZ x y = 1 := by unfold cmpZ; (repeat' split) <;> omega
theorem fcmpZ_range (x y : Nat) : fcmpZ x y = -1 ∨ fcmpZ x y = 0 ∨ fcmpZ x y = 1 := by unfold fcmpZ; (repeat' split) <;> omega
theorem ordC_range (K N : Int) (F : Nat) (S : ByteArray) (K2 N2 : Int) (F2 : Nat) (S2 : ByteArray) : ordC K N F S K2 N2 F2 S2 = -1 ∨ ordC K N F S K2 N2 F2 S2 = 0 ∨ ordC K N F S K2 N2 F2 S2 = 1 := by
  unfold ordC
  split
  · exact cmpZ_range _ _
  · split
    · unfold fordZ
      (repeat' split) <;> first | omega | exact fcmpZ_range _ _
    · split
      · exact cb_range _ _
      · exact cmpZ_range _ _

/-- a call behind a new block, seen from ahead of the block -/
theorem below_new {w w2 : World} {o : Obj} (h : Below (w.alloc o).heap.size (w.alloc o) w2) : Below w.heap.size w w2 :=
  ((Below.refl _ _).alloc (Nat.le_refl _) o).trans (h.mono (by rw [World.size_alloc]; omega))
set_option maxRecDepth 100000 in
set_option maxHeartbeats 16000000 in
theorem rcompare_any (op : ByteArray) (k n : Int) (f : Nat) (s : ByteArray) (k2 n2 : Int) (f2 : Nat) (s2 : ByteArray) (w : World) : Calls Tryz.prog 23 #[.string op, vV k n f s, vV k2 n2 f2 s2] w (RetV (cmpV op.toList (clK k) (clN k n) (rclF k f) (clS k s) (clK k2) (clN k2 n2) (rclF k2 f2) (clS k2 s2)) w) := by
  have sf := store_float
  have TT := Three.start w (.int .i64 k) (.int .i64 n) (.float .f64 f) (.string s) (.int .i64 k2) (.int .i64 n2) (.float .f64 f2) (.string s2)
  obtain ⟨R, hR⟩ : ∃ R, R = cmpV op.toList (clK k) (clN k n) (rclF k f) (clS k s) (clK k2) (clN k2 n2) (rclF k2 f2) (clS k2 s2) := ⟨_, rfl⟩
  rw [← hR]
  have HR := Lib.hid hR.symm
  have HO := fun W => rorder_any (clK k) (clN k n) (rclF k f) (clS k s) (clK k2) (clN k2 n2) (rclF k2 f2) (clS k2 s2) W
  rw [clK_again, clN_again, rclF_again, clS_again, clK_again, clN_again, rclF_again, clS_again] at HO
  have HO := Lib.hid HO
  clear hR
  go_enter Tryz.func23, Tryz.ntmps23
  go_upto_region 1 with (fail)

  go_cut [] (fun wc => Three w wc (.int .i64 (clK k)) (.int .i64 (clN k n)) (.float .f64 (rclF k f)) (.string (clS k s)) (.int .i64 (clK k2)) (.int .i64 (clN k2 n2)) (.float .f64 (rclF k2 f2)) (.string (clS k2 s2)))
  case first =>
    have T0 := TT.drew
    obtain ⟨⟨a0, a1, a2, a3⟩, ⟨e0, e1, e2, e3⟩⟩ := T0.cells1
    obtain ⟨⟨b0, b1, b2, b3⟩, ⟨g0, g1, g2, g3⟩⟩ := T0.cells2
    clear TT
    go_region_law (first
      | (go_simp; go_at_call 16; (with_reducible refine (rclean_any _ _ _ _ _).mono ?_); rintro e w2 ⟨rfl, hB⟩; (first | (with_reducible have T0 := Three.call T0 hB) | (with_reducible have T0 := Three.call (Three.setA T0 _ _ _ _) hB) | (with_reducible have T0 := Three.call (Three.setB T0 _ _ _ _) hB)); obtain ⟨⟨a0, a1, a2, a3⟩, ⟨e0, e1, e2, e3⟩⟩ := T0.cells1; obtain ⟨⟨b0, b1, b2, b3⟩, ⟨g0, g1, g2, g3⟩⟩ := T0.cells2; clear hB)
      | fail)
    all_goals
      go_wp2_with fail
      go_meet
      first
        | (with_reducible exact Three.setB (Three.setA T0 _ _ _ _) _ _ _ _)
        | (with_reducible exact Three.setA (Three.setB T0 _ _ _ _) _ _ _ _)
        | (with_reducible exact Three.setA T0 _ _ _ _)
        | (with_reducible exact Three.setB T0 _ _ _ _)
        | fail

  case rest =>
  clear TT
  obtain ⟨w3, rfl⟩ : ∃ w3 : World, w3 = wc := ⟨_, rfl⟩
  generalize clK k = K at hcut HR HO
  generalize clN k n = N at hcut HR HO
  generalize rclF k f = F at hcut HR HO
  generalize clS k s = S at hcut HR HO
  generalize clK k2 = K2 at hcut HR HO
  generalize clN k2 n2 = N2 at hcut HR HO
  generalize rclF k2 f2 = F2 at hcut HR HO
  generalize clS k2 s2 = S2 at hcut HR HO
  obtain ⟨⟨a0, a1, a2, a3⟩, -⟩ := hcut.cells1
  obtain ⟨⟨b0, b1, b2, b3⟩, -⟩ := hcut.cells2
  obtain ⟨⟨d0, d1, d2, d3⟩, ⟨f0, f1, f2', f3⟩⟩ := hcut.2.cells
  have hlt := hcut.2.lt
  have hlt0 : w.heap.size < w3.heap.size := by omega
  have hlt1 : w.heap.size + 1 < w3.heap.size := by omega
  have HT := Lib.hid hcut
  clear hcut
  by_cases hk0 : K = 0 ∨ K ≠ K2
  · have HE := Lib.hid (show cmpV op.toList K N F S K2 N2 F2 S2 = nullV by unfold cmpV; rw [if_pos hk0])
    by_cases hk : K = K2
    · have hz : K = 0 := by rcases hk0 with h | h; exact h; exact absurd hk h
      subst hk
      subst hz
      clear hk0
      go_wp2_with fail
      exact bodyPost_ret (v := nullV) (by simp [results, Tryz.results23, go_sem, d0, d1, d2, d3]) rfl ⟨by rw [← HR.out, HE.out], below_res HT.out.below _ _ _ _⟩
    · have c2 : (K != K2) = true := by simpa using hk
      clear hk hk0
      go_wp2_with fail
      exact bodyPost_ret (v := nullV) (by simp [results, Tryz.results23, go_sem, d0, d1, d2, d3]) rfl ⟨by rw [← HR.out, HE.out], below_res HT.out.below _ _ _ _⟩
  · have HE := Lib.hid (show cmpV op.toList K N F S K2 N2 F2 S2 = optV (cmpB op.toList (ordC K N F S K2 N2 F2 S2)) by unfold cmpV; rw [if_neg hk0])
    have hk : ¬ K = 0 := fun h => hk0 (.inl h)
    have c1 : (K == 0) = false := by simpa using hk
    obtain rfl : K = K2 := Decidable.not_not.1 (fun h => hk0 (.inr h))
    have hrc := ordC_range K N F S K N2 F2 S2
    clear hk hk0
    generalize ordC K N F S K N2 F2 S2 = c at HO HE hrc
    by_cases h0 : op.toList = [61]
    · have HC := Lib.hid (show cmpB op.toList c = cmpB [61] c by rw [h0])
      have e0 : (op.toList == [61]) = true := by rw [h0]; decide
      clear h0
      rcases hrc with rfl | rfl | rfl
      · go_wp2_with (first
          | (go_at_call 24; (with_reducible refine (HO.out _).mono ?_); rintro e w4 ⟨rfl, hB⟩; have T0 := Three.call HT.out (below_new hB); obtain ⟨⟨d0, d1, d2, d3⟩, ⟨f0, f1, f2', f3⟩⟩ := T0.2.cells; obtain ⟨hcc, hff⟩ := bcell hB; (try simp only [World.size_alloc] at hcc hff); clear hB)
          | (go_at_call 21; (with_reducible refine (rbool_any _ _).mono ?_); rintro e w5 ⟨rfl, hB⟩; have T0 := Three.call T0 hB; obtain ⟨⟨d0, d1, d2, d3⟩, ⟨f0, f1, f2', f3⟩⟩ := T0.2.cells; clear hB)
          | fail)
        exact bodyPost_ret (v := boolV false) (by simp [results, Tryz.results23, go_sem, d0, d1, d2, d3]) rfl ⟨by rw [← HR.out, HE.out, HC.out]; rfl, below_res T0.below _ _ _ _⟩
      · go_wp2_with (first
          | (go_at_call 24; (with_reducible refine (HO.out _).mono ?_); rintro e w4 ⟨rfl, hB⟩; have T0 := Three.call HT.out (below_new hB); obtain ⟨⟨d0, d1, d2, d3⟩, ⟨f0, f1, f2', f3⟩⟩ := T0.2.cells; obtain ⟨hcc, hff⟩ := bcell hB; (try simp only [World.size_alloc] at hcc hff); clear hB)
          | (go_at_call 21; (with_reducible refine (rbool_any _ _).mono ?_); rintro e w5 ⟨rfl, hB⟩; have T0 := Three.call T0 hB; obtain ⟨⟨d0, d1, d2, d3⟩, ⟨f0, f1, f2', f3⟩⟩ := T0.2.cells; clear hB)
          | fail)
        exact bodyPost_ret (v := boolV true) (by simp [results, Tryz.results23, go_sem, d0, d1, d2, d3]) rfl ⟨by rw [← HR.out, HE.out, HC.out]; rfl, below_res T0.below _ _ _ _⟩
      · go_wp2_with (first
          | (go_at_call 24; (with_reducible refine (HO.out _).mono ?_); rintro e w4 ⟨rfl, hB⟩; have T0 := Three.call HT.out (below_new hB); obtain ⟨⟨d0, d1, d2, d3⟩, ⟨f0, f1, f2', f3⟩⟩ := T0.2.cells; obtain ⟨hcc, hff⟩ := bcell hB; (try simp only [World.size_alloc] at hcc hff); clear hB)
          | (go_at_call 21; (with_reducible refine (rbool_any _ _).mono ?_); rintro e w5 ⟨rfl, hB⟩; have T0 := Three.call T0 hB; obtain ⟨⟨d0, d1, d2, d3⟩, ⟨f0, f1, f2', f3⟩⟩ := T0.2.cells; clear hB)
          | fail)
        exact bodyPost_ret (v := boolV false) (by simp [results, Tryz.results23, go_sem, d0, d1, d2, d3]) rfl ⟨by rw [← HR.out, HE.out, HC.out]; rfl, below_res T0.below _ _ _ _⟩
    · skip
      by_cases h1 : op.toList = [60,62]
      · have HC := Lib.hid (show cmpB op.toList c = cmpB [60,62] c by rw [h1])
        have e1 : (op.toList == [60,62]) = true := by rw [h1]; decide
        have n0 : (op.toList == [61]) = false := by rw [h1]; decide
        clear h0 h1
        rcases hrc with rfl | rfl | rfl
        · go_wp2_with (first
            | (go_at_call 24; (with_reducible refine (HO.out _).mono ?_); rintro e w4 ⟨rfl, hB⟩; have T0 := Three.call HT.out (below_new hB); obtain ⟨⟨d0, d1, d2, d3⟩, ⟨f0, f1, f2', f3⟩⟩ := T0.2.cells; obtain ⟨hcc, hff⟩ := bcell hB; (try simp only [World.size_alloc] at hcc hff); clear hB)
            | (go_at_call 21; (with_reducible refine (rbool_any _ _).mono ?_); rintro e w5 ⟨rfl, hB⟩; have T0 := Three.call T0 hB; obtain ⟨⟨d0, d1, d2, d3⟩, ⟨f0, f1, f2', f3⟩⟩ := T0.2.cells; clear hB)
            | fail)
          exact bodyPost_ret (v := boolV true) (by simp [results, Tryz.results23, go_sem, d0, d1, d2, d3]) rfl ⟨by rw [← HR.out, HE.out, HC.out]; rfl, below_res T0.below _ _ _ _⟩
        · go_wp2_with (first
            | (go_at_call 24; (with_reducible refine (HO.out _).mono ?_); rintro e w4 ⟨rfl, hB⟩; have T0 := Three.call HT.out (below_new hB); obtain ⟨⟨d0, d1, d2, d3⟩, ⟨f0, f1, f2', f3⟩⟩ := T0.2.cells; obtain ⟨hcc, hff⟩ := bcell hB; (try simp only [World.size_alloc] at hcc hff); clear hB)
            | (go_at_call 21; (with_reducible refine (rbool_any _ _).mono ?_); rintro e w5 ⟨rfl, hB⟩; have T0 := Three.call T0 hB; obtain ⟨⟨d0, d1, d2, d3⟩, ⟨f0, f1, f2', f3⟩⟩ := T0.2.cells; clear hB)
            | fail)
          exact bodyPost_ret (v := boolV false) (by simp [results, Tryz.results23, go_sem, d0, d1, d2, d3]) rfl ⟨by rw [← HR.out, HE.out, HC.out]; rfl, below_res T0.below _ _ _ _⟩
        · go_wp2_with (first
            | (go_at_call 24; (with_reducible refine (HO.out _).mono ?_); rintro e w4 ⟨rfl, hB⟩; have T0 := Three.call HT.out (below_new hB); obtain ⟨⟨d0, d1, d2, d3⟩, ⟨f0, f1, f2', f3⟩⟩ := T0.2.cells; obtain ⟨hcc, hff⟩ := bcell hB; (try simp only [World.size_alloc] at hcc hff); clear hB)
            | (go_at_call 21; (with_reducible refine (rbool_any _ _).mono ?_); rintro e w5 ⟨rfl, hB⟩; have T0 := Three.call T0 hB; obtain ⟨⟨d0, d1, d2, d3⟩, ⟨f0, f1, f2', f3⟩⟩ := T0.2.cells; clear hB)
            | fail)
          exact bodyPost_ret (v := boolV true) (by simp [results, Tryz.results23, go_sem, d0, d1, d2, d3]) rfl ⟨by rw [← HR.out, HE.out, HC.out]; rfl, below_res T0.below _ _ _ _⟩
      · skip
        by_cases h2 : op.toList = [60]
        · have HC := Lib.hid (show cmpB op.toList c = cmpB [60] c by rw [h2])
          have e2 : (op.toList == [60]) = true := by rw [h2]; decide
          have n0 : (op.toList == [61]) = false := by rw [h2]; decide
          have n1 : (op.toList == [60,62]) = false := by rw [h2]; decide
          clear h0 h1 h2
          rcases hrc with rfl | rfl | rfl
          · go_wp2_with (first
              | (go_at_call 24; (with_reducible refine (HO.out _).mono ?_); rintro e w4 ⟨rfl, hB⟩; have T0 := Three.call HT.out (below_new hB); obtain ⟨⟨d0, d1, d2, d3⟩, ⟨f0, f1, f2', f3⟩⟩ := T0.2.cells; obtain ⟨hcc, hff⟩ := bcell hB; (try simp only [World.size_alloc] at hcc hff); clear hB)
              | (go_at_call 21; (with_reducible refine (rbool_any _ _).mono ?_); rintro e w5 ⟨rfl, hB⟩; have T0 := Three.call T0 hB; obtain ⟨⟨d0, d1, d2, d3⟩, ⟨f0, f1, f2', f3⟩⟩ := T0.2.cells; clear hB)
              | fail)
            exact bodyPost_ret (v := boolV true) (by simp [results, Tryz.results23, go_sem, d0, d1, d2, d3]) rfl ⟨by rw [← HR.out, HE.out, HC.out]; rfl, below_res T0.below _ _ _ _⟩
          · go_wp2_with (first
              | (go_at_call 24; (with_reducible refine (HO.out _).mono ?_); rintro e w4 ⟨rfl, hB⟩; have T0 := Three.call HT.out (below_new hB); obtain ⟨⟨d0, d1, d2, d3⟩, ⟨f0, f1, f2', f3⟩⟩ := T0.2.cells; obtain ⟨hcc, hff⟩ := bcell hB; (try simp only [World.size_alloc] at hcc hff); clear hB)
              | (go_at_call 21; (with_reducible refine (rbool_any _ _).mono ?_); rintro e w5 ⟨rfl, hB⟩; have T0 := Three.call T0 hB; obtain ⟨⟨d0, d1, d2, d3⟩, ⟨f0, f1, f2', f3⟩⟩ := T0.2.cells; clear hB)
              | fail)
            exact bodyPost_ret (v := boolV false) (by simp [results, Tryz.results23, go_sem, d0, d1, d2, d3]) rfl ⟨by rw [← HR.out, HE.out, HC.out]; rfl, below_res T0.below _ _ _ _⟩
          · go_wp2_with (first
              | (go_at_call 24; (with_reducible refine (HO.out _).mono ?_); rintro e w4 ⟨rfl, hB⟩; have T0 := Three.call HT.out (below_new hB); obtain ⟨⟨d0, d1, d2, d3⟩, ⟨f0, f1, f2', f3⟩⟩ := T0.2.cells; obtain ⟨hcc, hff⟩ := bcell hB; (try simp only [World.size_alloc] at hcc hff); clear hB)
              | (go_at_call 21; (with_reducible refine (rbool_any _ _).mono ?_); rintro e w5 ⟨rfl, hB⟩; have T0 := Three.call T0 hB; obtain ⟨⟨d0, d1, d2, d3⟩, ⟨f0, f1, f2', f3⟩⟩ := T0.2.cells; clear hB)
              | fail)
            exact bodyPost_ret (v := boolV false) (by simp [results, Tryz.results23, go_sem, d0, d1, d2, d3]) rfl ⟨by rw [← HR.out, HE.out, HC.out]; rfl, below_res T0.below _ _ _ _⟩
        · skip
          by_cases h3 : op.toList = [60,61]
          · have HC := Lib.hid (show cmpB op.toList c = cmpB [60,61] c by rw [h3])
            have e3 : (op.toList == [60,61]) = true := by rw [h3]; decide
            have n0 : (op.toList == [61]) = false := by rw [h3]; decide
            have n1 : (op.toList == [60,62]) = false := by rw [h3]; decide
            have n2 : (op.toList == [60]) = false := by rw [h3]; decide
            clear h0 h1 h2 h3
            rcases hrc with rfl | rfl | rfl
            · go_wp2_with (first
                | (go_at_call 24; (with_reducible refine (HO.out _).mono ?_); rintro e w4 ⟨rfl, hB⟩; have T0 := Three.call HT.out (below_new hB); obtain ⟨⟨d0, d1, d2, d3⟩, ⟨f0, f1, f2', f3⟩⟩ := T0.2.cells; obtain ⟨hcc, hff⟩ := bcell hB; (try simp only [World.size_alloc] at hcc hff); clear hB)
                | (go_at_call 21; (with_reducible refine (rbool_any _ _).mono ?_); rintro e w5 ⟨rfl, hB⟩; have T0 := Three.call T0 hB; obtain ⟨⟨d0, d1, d2, d3⟩, ⟨f0, f1, f2', f3⟩⟩ := T0.2.cells; clear hB)
                | fail)
              exact bodyPost_ret (v := boolV true) (by simp [results, Tryz.results23, go_sem, d0, d1, d2, d3]) rfl ⟨by rw [← HR.out, HE.out, HC.out]; rfl, below_res T0.below _ _ _ _⟩
            · go_wp2_with (first
                | (go_at_call 24; (with_reducible refine (HO.out _).mono ?_); rintro e w4 ⟨rfl, hB⟩; have T0 := Three.call HT.out (below_new hB); obtain ⟨⟨d0, d1, d2, d3⟩, ⟨f0, f1, f2', f3⟩⟩ := T0.2.cells; obtain ⟨hcc, hff⟩ := bcell hB; (try simp only [World.size_alloc] at hcc hff); clear hB)
                | (go_at_call 21; (with_reducible refine (rbool_any _ _).mono ?_); rintro e w5 ⟨rfl, hB⟩; have T0 := Three.call T0 hB; obtain ⟨⟨d0, d1, d2, d3⟩, ⟨f0, f1, f2', f3⟩⟩ := T0.2.cells; clear hB)
                | fail)
              exact bodyPost_ret (v := boolV true) (by simp [results, Tryz.results23, go_sem, d0, d1, d2, d3]) rfl ⟨by rw [← HR.out, HE.out, HC.out]; rfl, below_res T0.below _ _ _ _⟩
            · go_wp2_with (first
                | (go_at_call 24; (with_reducible refine (HO.out _).mono ?_); rintro e w4 ⟨rfl, hB⟩; have T0 := Three.call HT.out (below_new hB); obtain ⟨⟨d0, d1, d2, d3⟩, ⟨f0, f1, f2', f3⟩⟩ := T0.2.cells; obtain ⟨hcc, hff⟩ := bcell hB; (try simp only [World.size_alloc] at hcc hff); clear hB)
                | (go_at_call 21; (with_reducible refine (rbool_any _ _).mono ?_); rintro e w5 ⟨rfl, hB⟩; have T0 := Three.call T0 hB; obtain ⟨⟨d0, d1, d2, d3⟩, ⟨f0, f1, f2', f3⟩⟩ := T0.2.cells; clear hB)
                | fail)
              exact bodyPost_ret (v := boolV false) (by simp [results, Tryz.results23, go_sem, d0, d1, d2, d3]) rfl ⟨by rw [← HR.out, HE.out, HC.out]; rfl, below_res T0.below _ _ _ _⟩
          · skip
            by_cases h4 : op.toList = [62]
            · have HC := Lib.hid (show cmpB op.toList c = cmpB [62] c by rw [h4])
              have e4 : (op.toList == [62]) = true := by rw [h4]; decide
              have n0 : (op.toList == [61]) = false := by rw [h4]; decide
              have n1 : (op.toList == [60,62]) = false := by rw [h4]; decide
              have n2 : (op.toList == [60]) = false := by rw [h4]; decide
              have n3 : (op.toList == [60,61]) = false := by rw [h4]; decide
              clear h0 h1 h2 h3 h4
              rcases hrc with rfl | rfl | rfl
              · go_wp2_with (first
                  | (go_at_call 24; (with_reducible refine (HO.out _).mono ?_); rintro e w4 ⟨rfl, hB⟩; have T0 := Three.call HT.out (below_new hB); obtain ⟨⟨d0, d1, d2, d3⟩, ⟨f0, f1, f2', f3⟩⟩ := T0.2.cells; obtain ⟨hcc, hff⟩ := bcell hB; (try simp only [World.size_alloc] at hcc hff); clear hB)
                  | (go_at_call 21; (with_reducible refine (rbool_any _ _).mono ?_); rintro e w5 ⟨rfl, hB⟩; have T0 := Three.call T0 hB; obtain ⟨⟨d0, d1, d2, d3⟩, ⟨f0, f1, f2', f3⟩⟩ := T0.2.cells; clear hB)
                  | fail)
                exact bodyPost_ret (v := boolV false) (by simp [results, Tryz.results23, go_sem, d0, d1, d2, d3]) rfl ⟨by rw [← HR.out, HE.out, HC.out]; rfl, below_res T0.below _ _ _ _⟩
              · go_wp2_with (first
                  | (go_at_call 24; (with_reducible refine (HO.out _).mono ?_); rintro e w4 ⟨rfl, hB⟩; have T0 := Three.call HT.out (below_new hB); obtain ⟨⟨d0, d1, d2, d3⟩, ⟨f0, f1, f2', f3⟩⟩ := T0.2.cells; obtain ⟨hcc, hff⟩ := bcell hB; (try simp only [World.size_alloc] at hcc hff); clear hB)
                  | (go_at_call 21; (with_reducible refine (rbool_any _ _).mono ?_); rintro e w5 ⟨rfl, hB⟩; have T0 := Three.call T0 hB; obtain ⟨⟨d0, d1, d2, d3⟩, ⟨f0, f1, f2', f3⟩⟩ := T0.2.cells; clear hB)
                  | fail)
                exact bodyPost_ret (v := boolV false) (by simp [results, Tryz.results23, go_sem, d0, d1, d2, d3]) rfl ⟨by rw [← HR.out, HE.out, HC.out]; rfl, below_res T0.below _ _ _ _⟩
              · go_wp2_with (first
                  | (go_at_call 24; (with_reducible refine (HO.out _).mono ?_); rintro e w4 ⟨rfl, hB⟩; have T0 := Three.call HT.out (below_new hB); obtain ⟨⟨d0, d1, d2, d3⟩, ⟨f0, f1, f2', f3⟩⟩ := T0.2.cells; obtain ⟨hcc, hff⟩ := bcell hB; (try simp only [World.size_alloc] at hcc hff); clear hB)
                  | (go_at_call 21; (with_reducible refine (rbool_any _ _).mono ?_); rintro e w5 ⟨rfl, hB⟩; have T0 := Three.call T0 hB; obtain ⟨⟨d0, d1, d2, d3⟩, ⟨f0, f1, f2', f3⟩⟩ := T0.2.cells; clear hB)
                  | fail)
                exact bodyPost_ret (v := boolV true) (by simp [results, Tryz.results23, go_sem, d0, d1, d2, d3]) rfl ⟨by rw [← HR.out, HE.out, HC.out]; rfl, below_res T0.below _ _ _ _⟩
            · skip
              by_cases h5 : op.toList = [62,61]
              · have HC := Lib.hid (show cmpB op.toList c = cmpB [62,61] c by rw [h5])
                have e5 : (op.toList == [62,61]) = true := by rw [h5]; decide
                have n0 : (op.toList == [61]) = false := by rw [h5]; decide
                have n1 : (op.toList == [60,62]) = false := by rw [h5]; decide
                have n2 : (op.toList == [60]) = false := by rw [h5]; decide
                have n3 : (op.toList == [60,61]) = false := by rw [h5]; decide
                have n4 : (op.toList == [62]) = false := by rw [h5]; decide
                clear h0 h1 h2 h3 h4 h5
                rcases hrc with rfl | rfl | rfl
                · go_wp2_with (first
                    | (go_at_call 24; (with_reducible refine (HO.out _).mono ?_); rintro e w4 ⟨rfl, hB⟩; have T0 := Three.call HT.out (below_new hB); obtain ⟨⟨d0, d1, d2, d3⟩, ⟨f0, f1, f2', f3⟩⟩ := T0.2.cells; obtain ⟨hcc, hff⟩ := bcell hB; (try simp only [World.size_alloc] at hcc hff); clear hB)
                    | (go_at_call 21; (with_reducible refine (rbool_any _ _).mono ?_); rintro e w5 ⟨rfl, hB⟩; have T0 := Three.call T0 hB; obtain ⟨⟨d0, d1, d2, d3⟩, ⟨f0, f1, f2', f3⟩⟩ := T0.2.cells; clear hB)
                    | fail)
                  exact bodyPost_ret (v := boolV false) (by simp [results, Tryz.results23, go_sem, d0, d1, d2, d3]) rfl ⟨by rw [← HR.out, HE.out, HC.out]; rfl, below_res T0.below _ _ _ _⟩
                · go_wp2_with (first
                    | (go_at_call 24; (with_reducible refine (HO.out _).mono ?_); rintro e w4 ⟨rfl, hB⟩; have T0 := Three.call HT.out (below_new hB); obtain ⟨⟨d0, d1, d2, d3⟩, ⟨f0, f1, f2', f3⟩⟩ := T0.2.cells; obtain ⟨hcc, hff⟩ := bcell hB; (try simp only [World.size_alloc] at hcc hff); clear hB)
                    | (go_at_call 21; (with_reducible refine (rbool_any _ _).mono ?_); rintro e w5 ⟨rfl, hB⟩; have T0 := Three.call T0 hB; obtain ⟨⟨d0, d1, d2, d3⟩, ⟨f0, f1, f2', f3⟩⟩ := T0.2.cells; clear hB)
                    | fail)
                  exact bodyPost_ret (v := boolV true) (by simp [results, Tryz.results23, go_sem, d0, d1, d2, d3]) rfl ⟨by rw [← HR.out, HE.out, HC.out]; rfl, below_res T0.below _ _ _ _⟩
                · go_wp2_with (first
                    | (go_at_call 24; (with_reducible refine (HO.out _).mono ?_); rintro e w4 ⟨rfl, hB⟩; have T0 := Three.call HT.out (below_new hB); obtain ⟨⟨d0, d1, d2, d3⟩, ⟨f0, f1, f2', f3⟩⟩ := T0.2.cells; obtain ⟨hcc, hff⟩ := bcell hB; (try simp only [World.size_alloc] at hcc hff); clear hB)
                    | (go_at_call 21; (with_reducible refine (rbool_any _ _).mono ?_); rintro e w5 ⟨rfl, hB⟩; have T0 := Three.call T0 hB; obtain ⟨⟨d0, d1, d2, d3⟩, ⟨f0, f1, f2', f3⟩⟩ := T0.2.cells; clear hB)
                    | fail)
                  exact bodyPost_ret (v := boolV true) (by simp [results, Tryz.results23, go_sem, d0, d1, d2, d3]) rfl ⟨by rw [← HR.out, HE.out, HC.out]; rfl, below_res T0.below _ _ _ _⟩
              · skip
                have HC := Lib.hid (show optV (cmpB op.toList c) = nullV by unfold cmpB; simp only [h0, h1, h2, h3, h4, h5]; rfl)
                have n0 := op_ne h0
                have n1 := op_ne h1
                have n2 := op_ne h2
                have n3 := op_ne h3
                have n4 := op_ne h4
                have n5 := op_ne h5
                clear h0 h1 h2 h3 h4 h5
                go_wp2_with fail
                obtain ⟨⟨g0, g1, g2, g3⟩, -⟩ := (Row4.alloc (Row4.set HT.out.2 (.int .i64 0) (.int .i64 0) (.float .f64 0) (.string ⟨#[]⟩)) (.cells #[.bool false, .bool false, .bool false] 56)).cells
                have HB := below_res HT.out.below (.int .i64 0) (.int .i64 0) (.float .f64 0) (.string ⟨#[]⟩)
                exact bodyPost_ret (v := nullV) (by simp [results, Tryz.results23, go_sem, g0, g1, g2, g3]) rfl ⟨by rw [← HR.out, HE.out, HC.out], HB.alloc HB.size _⟩
end Go.Proofs.YtjlpjooaclfnlaaGreatDoor
