/- The walk of package value's Compare. -/
import Derived.Test.YtjlpjooaclfnlaaGreatDoorOrder
namespace Go.Proofs.YtjlpjooaclfnlaaGreatDoor
open Go.RowKit

@[reducible] def zero4 (W : World) (b : Nat) : Prop := Row4 W b (.int .i64 0) (.int .i64 0) (.float .f64 0) (.string ⟨#[]⟩)
/-- two rows and a result's row behind a world, and nothing else turned -/
def Three (w W : World) (a0 a1 a2 a3 b0 b1 b2 b3 : Value) : Prop := Two w W a0 a1 a2 a3 b0 b1 b2 b3 ∧ zero4 W (w.heap.size + 1 + 1)
section
variable {w W w2 : World} {a0 a1 a2 a3 b0 b1 b2 b3 : Value}
theorem Three.start (w : World) (a0 a1 a2 a3 b0 b1 b2 b3 : Value) : Three w (((w.alloc (.cells #[a0, a1, a2, a3] 24)).alloc (.cells #[b0, b1, b2, b3] 24)).alloc (.cells #[.int .i64 0, .int .i64 0, .float .f64 0, .string ⟨#[]⟩] 24)) a0 a1 a2 a3 b0 b1 b2 b3 := by
  refine ⟨(Two.start w a0 a1 a2 a3 b0 b1 b2 b3).call ((Below.refl _ _).alloc (Nat.le_refl _) _), ?_⟩
  have := Row4.new ((w.alloc (.cells #[a0, a1, a2, a3] 24)).alloc (.cells #[b0, b1, b2, b3] 24)) (.int .i64 0) (.int .i64 0) (.float .f64 0) (.string ⟨#[]⟩)
  rwa [World.size_alloc, World.size_alloc] at this
theorem Three.call (h : Three w W a0 a1 a2 a3 b0 b1 b2 b3) (hB : Below W.heap.size W w2) : Three w w2 a0 a1 a2 a3 b0 b1 b2 b3 := ⟨h.1.call hB, h.2.call hB⟩
theorem Three.setA (h : Three w W a0 a1 a2 a3 b0 b1 b2 b3) (u0 u1 u2 u3 : Value) : Three w (set4 W w.heap.size u0 u1 u2 u3) u0 u1 u2 u3 b0 b1 b2 b3 := ⟨h.1.setA _ _ _ _, h.2.far (by omega) _ _ _ _⟩
theorem Three.setB (h : Three w W a0 a1 a2 a3 b0 b1 b2 b3) (u0 u1 u2 u3 : Value) : Three w (set4 W (w.heap.size + 1) u0 u1 u2 u3) a0 a1 a2 a3 u0 u1 u2 u3 := ⟨h.1.setB _ _ _ _, h.2.far (by omega) _ _ _ _⟩
theorem Three.drew (h : Three w W a0 a1 a2 a3 b0 b1 b2 b3) : Three w W.drew a0 a1 a2 a3 b0 b1 b2 b3 := h.call (Below.refl _ _).drew
/-- the cells of the two, in turn -/
theorem Three.cells1 (h : Three w W a0 a1 a2 a3 b0 b1 b2 b3) : (W.cell? ⟨w.heap.size, 0, none⟩ = some a0 ∧ W.cell? ⟨w.heap.size, 1, none⟩ = some a1 ∧ W.cell? ⟨w.heap.size, 2, none⟩ = some a2 ∧ W.cell? ⟨w.heap.size, 3, none⟩ = some a3) ∧ (W.frozen? ⟨w.heap.size, 0, none⟩ = false ∧ W.frozen? ⟨w.heap.size, 1, none⟩ = false ∧ W.frozen? ⟨w.heap.size, 2, none⟩ = false ∧ W.frozen? ⟨w.heap.size, 3, none⟩ = false) := h.1.1.cells
theorem Three.cells2 (h : Three w W a0 a1 a2 a3 b0 b1 b2 b3) : (W.cell? ⟨w.heap.size + 1, 0, none⟩ = some b0 ∧ W.cell? ⟨w.heap.size + 1, 1, none⟩ = some b1 ∧ W.cell? ⟨w.heap.size + 1, 2, none⟩ = some b2 ∧ W.cell? ⟨w.heap.size + 1, 3, none⟩ = some b3) ∧ (W.frozen? ⟨w.heap.size + 1, 0, none⟩ = false ∧ W.frozen? ⟨w.heap.size + 1, 1, none⟩ = false ∧ W.frozen? ⟨w.heap.size + 1, 2, none⟩ = false ∧ W.frozen? ⟨w.heap.size + 1, 3, none⟩ = false) := h.1.2.1.cells
theorem Three.below (h : Three w W a0 a1 a2 a3 b0 b1 b2 b3) : Below w.heap.size w W := h.1.2.2
end
/-- a result's four cells are stored: what was there stays -/
theorem below_res {w W : World} (h : Below w.heap.size w W) (u0 u1 u2 u3 : Value) : Below w.heap.size w (set4 W (w.heap.size + 1 + 1) u0 u1 u2 u3) :=
  (((h.setCell (p := ⟨w.heap.size + 1 + 1, 0, none⟩) (Nat.le_add_right _ 2) _).setCell (p := ⟨w.heap.size + 1 + 1, 1, none⟩) (Nat.le_add_right _ 2) _).setCell (p := ⟨w.heap.size + 1 + 1, 2, none⟩) (Nat.le_add_right _ 2) _).setCell (p := ⟨w.heap.size + 1 + 1, 3, none⟩) (Nat.le_add_right _ 2) _

theorem feq_nan : feq nanZ nanZ = false := by kernel_rfl
theorem feq_zero : feq 0 0 = true := by kernel_rfl
theorem realZ_again (f : Nat) : realZ (realZ f) = realZ f := by
  unfold realZ
  by_cases h1 : feq f f = false
  · rw [if_pos h1, if_pos feq_nan]
  · rw [if_neg h1]
    by_cases h2 : feq f 0 = true
    · rw [if_pos h2, feq_zero]; rfl
    · rw [if_neg h2, if_neg h1, if_neg h2]
theorem clK_again (k : Int) : clK (clK k) = clK k := by
  unfold clK
  by_cases h : k = 1 ∨ k = 2 ∨ k = 3 ∨ k = 4
  · rw [if_pos h, if_pos h]
  · rw [if_neg h]; decide
theorem clN_again (k n : Int) : clN (clK k) (clN k n) = clN k n := by
  unfold clK clN
  by_cases h1 : k = 1
  · subst h1; rfl
  · by_cases h4 : k = 4
    · subst h4
      by_cases hn : n = 0
      · subst hn; rfl
      · simp [hn]
    · rw [if_neg h1, if_neg h4]
      split <;> (repeat' split) <;> first | rfl | omega
theorem clF_again (k : Int) (f : Nat) : clF (clK k) (clF k f) = clF k f := by
  unfold clK clF
  by_cases h2 : k = 2
  · subst h2; simp [realZ_again]
  · rw [if_neg h2]
    (repeat' split) <;> first | rfl | omega
theorem clS_again (k : Int) (s : ByteArray) : clS (clK k) (clS k s) = clS k s := by
  unfold clK clS
  by_cases h3 : k = 3
  · subst h3; simp
  · rw [if_neg h3]
    (repeat' split) <;> first | rfl | omega
def cmpB (op : List UInt8) (c : Int) : Option Bool := if op = [61] then some (c == 0) else if op = [60,62] then some (c != 0) else if op = [60] then some (decide (c < 0)) else if op = [60,61] then some (decide (c ≤ 0)) else if op = [62] then some (decide (0 < c)) else if op = [62,61] then some (decide (0 ≤ c)) else none
def optV : Option Bool → Value
  | some x => boolV x
  | none => nullV
/-- what Compare answers of two clean values -/
def cmpV (op : List UInt8) (K N : Int) (F : Nat) (S : ByteArray) (K2 N2 : Int) (F2 : Nat) (S2 : ByteArray) : Value :=
  if K = 0 ∨ K ≠ K2 then nullV else optV (cmpB op (ordC K N F S K2 N2 F2 S2))

set_option maxRecDepth 100000 in
set_option maxHeartbeats 8000000 in
theorem compare_any (op : ByteArray) (k n : Int) (f : Nat) (s : ByteArray) (k2 n2 : Int) (f2 : Nat) (s2 : ByteArray) (w : World) : Calls Tryz.prog 22 #[.string op, vV k n f s, vV k2 n2 f2 s2] w (RetV (cmpV op.toList (clK k) (clN k n) (clF k f) (clS k s) (clK k2) (clN k2 n2) (clF k2 f2) (clS k2 s2)) w) := by
  have sf := store_float
  have TT := Three.start w (.int .i64 k) (.int .i64 n) (.float .f64 f) (.string s) (.int .i64 k2) (.int .i64 n2) (.float .f64 f2) (.string s2)
  obtain ⟨R, hR⟩ : ∃ R, R = cmpV op.toList (clK k) (clN k n) (clF k f) (clS k s) (clK k2) (clN k2 n2) (clF k2 f2) (clS k2 s2) := ⟨_, rfl⟩
  rw [← hR]
  have HR := Lib.hid hR.symm
  have HO := fun W => order_any (clK k) (clN k n) (clF k f) (clS k s) (clK k2) (clN k2 n2) (clF k2 f2) (clS k2 s2) W
  rw [clK_again, clN_again, clF_again, clS_again, clK_again, clN_again, clF_again, clS_again] at HO
  have HO := Lib.hid HO
  clear hR
  go_enter Tryz.func22, Tryz.ntmps22
  go_upto_region 1 with (fail)

  go_cut [] (fun wc => Three w wc (.int .i64 (clK k)) (.int .i64 (clN k n)) (.float .f64 (clF k f)) (.string (clS k s)) (.int .i64 (clK k2)) (.int .i64 (clN k2 n2)) (.float .f64 (clF k2 f2)) (.string (clS k2 s2)))
  case first =>
    have T0 := TT.drew
    obtain ⟨⟨a0, a1, a2, a3⟩, ⟨e0, e1, e2, e3⟩⟩ := T0.cells1
    obtain ⟨⟨b0, b1, b2, b3⟩, ⟨g0, g1, g2, g3⟩⟩ := T0.cells2
    clear TT
    go_region_law (first
      | (go_simp; go_at_call 26; (with_reducible refine (clean_any _ _ _ _ _).mono ?_); rintro e w2 ⟨rfl, hB⟩; (first | (with_reducible have T0 := Three.call T0 hB) | (with_reducible have T0 := Three.call (Three.setA T0 _ _ _ _) hB) | (with_reducible have T0 := Three.call (Three.setB T0 _ _ _ _) hB)); obtain ⟨⟨a0, a1, a2, a3⟩, ⟨e0, e1, e2, e3⟩⟩ := T0.cells1; obtain ⟨⟨b0, b1, b2, b3⟩, ⟨g0, g1, g2, g3⟩⟩ := T0.cells2; clear hB)
      | fail)
    all_goals
      go_wp2_with fail
      go_meet
      first
        | (with_reducible exact Three.setB (Three.setA T0 _ _ _ _) _ _ _ _)
        | (with_reducible exact Three.setA (Three.setB T0 _ _ _ _) _ _ _ _)
        | (with_reducible exact Three.setA T0 _ _ _ _)
        | (with_reducible exact Three.setB T0 _ _ _ _)
        | fail

  case rest =>
  clear TT
  obtain ⟨w3, rfl⟩ : ∃ w3 : World, w3 = wc := ⟨_, rfl⟩
  generalize clK k = K at hcut HR HO
  generalize clN k n = N at hcut HR HO
  generalize clF k f = F at hcut HR HO
  generalize clS k s = S at hcut HR HO
  generalize clK k2 = K2 at hcut HR HO
  generalize clN k2 n2 = N2 at hcut HR HO
  generalize clF k2 f2 = F2 at hcut HR HO
  generalize clS k2 s2 = S2 at hcut HR HO
  obtain ⟨⟨a0, a1, a2, a3⟩, -⟩ := hcut.cells1
  obtain ⟨⟨b0, b1, b2, b3⟩, -⟩ := hcut.cells2
  obtain ⟨⟨d0, d1, d2, d3⟩, ⟨f0, f1, f2', f3⟩⟩ := hcut.2.cells
  have HT := Lib.hid hcut
  clear hcut
  by_cases hk0 : K = 0 ∨ K ≠ K2
  · have HE := Lib.hid (show cmpV op.toList K N F S K2 N2 F2 S2 = nullV by unfold cmpV; rw [if_pos hk0])
    by_cases hk : K = 0
    · subst hk
      clear hk0
      go_wp2_with fail
      exact bodyPost_ret (v := nullV) (by simp [results, Tryz.results22, go_sem, d0, d1, d2, d3]) rfl ⟨by rw [← HR.out, HE.out], below_res HT.out.below _ _ _ _⟩
    · have c1 : (K == 0) = false := by simpa using hk
      have c2 : (K != K2) = true := by simpa [hk] using hk0
      clear hk hk0
      go_wp2_with fail
      exact bodyPost_ret (v := nullV) (by simp [results, Tryz.results22, go_sem, d0, d1, d2, d3]) rfl ⟨by rw [← HR.out, HE.out], below_res HT.out.below _ _ _ _⟩
  · have HE := Lib.hid (show cmpV op.toList K N F S K2 N2 F2 S2 = optV (cmpB op.toList (ordC K N F S K2 N2 F2 S2)) by unfold cmpV; rw [if_neg hk0])
    have hk : ¬ K = 0 := fun h => hk0 (.inl h)
    have c1 : (K == 0) = false := by simpa using hk
    obtain rfl : K = K2 := Decidable.not_not.1 (fun h => hk0 (.inr h))
    clear hk hk0
    generalize ordC K N F S K N2 F2 S2 = c at HO HE
    by_cases h0 : op.toList = [61]
    · have HC := Lib.hid (show optV (cmpB op.toList c) = boolV (c == 0) by unfold cmpB; simp only [h0]; rfl)
      have e0 : (op.toList == [61]) = true := by rw [h0]; decide
      clear h0
      go_wp2_with (first
        | (go_at_call 13; (with_reducible refine (HO.out _).mono ?_); rintro e w4 ⟨rfl, hB⟩; have T0 := Three.call HT.out hB; obtain ⟨⟨d0, d1, d2, d3⟩, ⟨f0, f1, f2', f3⟩⟩ := T0.2.cells; clear hB)
        | (go_at_call 20; (with_reducible refine (ofbool_any _ _).mono ?_); rintro e w5 ⟨rfl, hB⟩; have T0 := Three.call T0 hB; obtain ⟨⟨d0, d1, d2, d3⟩, ⟨f0, f1, f2', f3⟩⟩ := T0.2.cells; clear hB)
        | fail)
      exact bodyPost_ret (v := boolV (c == 0)) (by simp [results, Tryz.results22, go_sem, d0, d1, d2, d3]) rfl ⟨by rw [← HR.out, HE.out, HC.out], below_res T0.below _ _ _ _⟩
    · skip
      by_cases h1 : op.toList = [60,62]
      · have HC := Lib.hid (show optV (cmpB op.toList c) = boolV (c != 0) by unfold cmpB; simp only [h1]; rfl)
        have e1 : (op.toList == [60,62]) = true := by rw [h1]; decide
        have n0 : (op.toList == [61]) = false := by rw [h1]; decide
        clear h0 h1
        go_wp2_with (first
          | (go_at_call 13; (with_reducible refine (HO.out _).mono ?_); rintro e w4 ⟨rfl, hB⟩; have T0 := Three.call HT.out hB; obtain ⟨⟨d0, d1, d2, d3⟩, ⟨f0, f1, f2', f3⟩⟩ := T0.2.cells; clear hB)
          | (go_at_call 20; (with_reducible refine (ofbool_any _ _).mono ?_); rintro e w5 ⟨rfl, hB⟩; have T0 := Three.call T0 hB; obtain ⟨⟨d0, d1, d2, d3⟩, ⟨f0, f1, f2', f3⟩⟩ := T0.2.cells; clear hB)
          | fail)
        exact bodyPost_ret (v := boolV (c != 0)) (by simp [results, Tryz.results22, go_sem, d0, d1, d2, d3]) rfl ⟨by rw [← HR.out, HE.out, HC.out], below_res T0.below _ _ _ _⟩
      · skip
        by_cases h2 : op.toList = [60]
        · have HC := Lib.hid (show optV (cmpB op.toList c) = boolV (decide (c < 0)) by unfold cmpB; simp only [h2]; rfl)
          have e2 : (op.toList == [60]) = true := by rw [h2]; decide
          have n0 : (op.toList == [61]) = false := by rw [h2]; decide
          have n1 : (op.toList == [60,62]) = false := by rw [h2]; decide
          clear h0 h1 h2
          go_wp2_with (first
            | (go_at_call 13; (with_reducible refine (HO.out _).mono ?_); rintro e w4 ⟨rfl, hB⟩; have T0 := Three.call HT.out hB; obtain ⟨⟨d0, d1, d2, d3⟩, ⟨f0, f1, f2', f3⟩⟩ := T0.2.cells; clear hB)
            | (go_at_call 20; (with_reducible refine (ofbool_any _ _).mono ?_); rintro e w5 ⟨rfl, hB⟩; have T0 := Three.call T0 hB; obtain ⟨⟨d0, d1, d2, d3⟩, ⟨f0, f1, f2', f3⟩⟩ := T0.2.cells; clear hB)
            | fail)
          exact bodyPost_ret (v := boolV (decide (c < 0))) (by simp [results, Tryz.results22, go_sem, d0, d1, d2, d3]) rfl ⟨by rw [← HR.out, HE.out, HC.out], below_res T0.below _ _ _ _⟩
        · skip
          by_cases h3 : op.toList = [60,61]
          · have HC := Lib.hid (show optV (cmpB op.toList c) = boolV (decide (c ≤ 0)) by unfold cmpB; simp only [h3]; rfl)
            have e3 : (op.toList == [60,61]) = true := by rw [h3]; decide
            have n0 : (op.toList == [61]) = false := by rw [h3]; decide
            have n1 : (op.toList == [60,62]) = false := by rw [h3]; decide
            have n2 : (op.toList == [60]) = false := by rw [h3]; decide
            clear h0 h1 h2 h3
            go_wp2_with (first
              | (go_at_call 13; (with_reducible refine (HO.out _).mono ?_); rintro e w4 ⟨rfl, hB⟩; have T0 := Three.call HT.out hB; obtain ⟨⟨d0, d1, d2, d3⟩, ⟨f0, f1, f2', f3⟩⟩ := T0.2.cells; clear hB)
              | (go_at_call 20; (with_reducible refine (ofbool_any _ _).mono ?_); rintro e w5 ⟨rfl, hB⟩; have T0 := Three.call T0 hB; obtain ⟨⟨d0, d1, d2, d3⟩, ⟨f0, f1, f2', f3⟩⟩ := T0.2.cells; clear hB)
              | fail)
            exact bodyPost_ret (v := boolV (decide (c ≤ 0))) (by simp [results, Tryz.results22, go_sem, d0, d1, d2, d3]) rfl ⟨by rw [← HR.out, HE.out, HC.out], below_res T0.below _ _ _ _⟩
          · skip
            by_cases h4 : op.toList = [62]
            · have HC := Lib.hid (show optV (cmpB op.toList c) = boolV (decide (0 < c)) by unfold cmpB; simp only [h4]; rfl)
              have e4 : (op.toList == [62]) = true := by rw [h4]; decide
              have n0 : (op.toList == [61]) = false := by rw [h4]; decide
              have n1 : (op.toList == [60,62]) = false := by rw [h4]; decide
              have n2 : (op.toList == [60]) = false := by rw [h4]; decide
              have n3 : (op.toList == [60,61]) = false := by rw [h4]; decide
              clear h0 h1 h2 h3 h4
              go_wp2_with (first
                | (go_at_call 13; (with_reducible refine (HO.out _).mono ?_); rintro e w4 ⟨rfl, hB⟩; have T0 := Three.call HT.out hB; obtain ⟨⟨d0, d1, d2, d3⟩, ⟨f0, f1, f2', f3⟩⟩ := T0.2.cells; clear hB)
                | (go_at_call 20; (with_reducible refine (ofbool_any _ _).mono ?_); rintro e w5 ⟨rfl, hB⟩; have T0 := Three.call T0 hB; obtain ⟨⟨d0, d1, d2, d3⟩, ⟨f0, f1, f2', f3⟩⟩ := T0.2.cells; clear hB)
                | fail)
              exact bodyPost_ret (v := boolV (decide (0 < c))) (by simp [results, Tryz.results22, go_sem, d0, d1, d2, d3]) rfl ⟨by rw [← HR.out, HE.out, HC.out], below_res T0.below _ _ _ _⟩
            · skip
              by_cases h5 : op.toList = [62,61]
              · have HC := Lib.hid (show optV (cmpB op.toList c) = boolV (decide (0 ≤ c)) by unfold cmpB; simp only [h5]; rfl)
                have e5 : (op.toList == [62,61]) = true := by rw [h5]; decide
                have n0 : (op.toList == [61]) = false := by rw [h5]; decide
                have n1 : (op.toList == [60,62]) = false := by rw [h5]; decide
                have n2 : (op.toList == [60]) = false := by rw [h5]; decide
                have n3 : (op.toList == [60,61]) = false := by rw [h5]; decide
                have n4 : (op.toList == [62]) = false := by rw [h5]; decide
                clear h0 h1 h2 h3 h4 h5
                go_wp2_with (first
                  | (go_at_call 13; (with_reducible refine (HO.out _).mono ?_); rintro e w4 ⟨rfl, hB⟩; have T0 := Three.call HT.out hB; obtain ⟨⟨d0, d1, d2, d3⟩, ⟨f0, f1, f2', f3⟩⟩ := T0.2.cells; clear hB)
                  | (go_at_call 20; (with_reducible refine (ofbool_any _ _).mono ?_); rintro e w5 ⟨rfl, hB⟩; have T0 := Three.call T0 hB; obtain ⟨⟨d0, d1, d2, d3⟩, ⟨f0, f1, f2', f3⟩⟩ := T0.2.cells; clear hB)
                  | fail)
                exact bodyPost_ret (v := boolV (decide (0 ≤ c))) (by simp [results, Tryz.results22, go_sem, d0, d1, d2, d3]) rfl ⟨by rw [← HR.out, HE.out, HC.out], below_res T0.below _ _ _ _⟩
              · skip
                have HC := Lib.hid (show optV (cmpB op.toList c) = nullV by unfold cmpB; simp only [h0, h1, h2, h3, h4, h5]; rfl)
                have n0 := op_ne h0
                have n1 := op_ne h1
                have n2 := op_ne h2
                have n3 := op_ne h3
                have n4 := op_ne h4
                have n5 := op_ne h5
                clear h0 h1 h2 h3 h4 h5
                go_wp2_with (first
                  | (go_at_call 13; (with_reducible refine (HO.out _).mono ?_); rintro e w4 ⟨rfl, hB⟩; have T0 := Three.call HT.out hB; obtain ⟨⟨d0, d1, d2, d3⟩, ⟨f0, f1, f2', f3⟩⟩ := T0.2.cells; clear hB)
                  | fail)
                exact bodyPost_ret (v := nullV) (by simp [results, Tryz.results22, go_sem, d0, d1, d2, d3]) rfl ⟨by rw [← HR.out, HE.out, HC.out], below_res T0.below _ _ _ _⟩
end Go.Proofs.YtjlpjooaclfnlaaGreatDoor
