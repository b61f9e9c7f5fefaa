/- The walks of package value's And and Or, and of the document's. -/
import Derived.Test.YtjlpjooaclfnlaaGreatDoorRClean
namespace Go.Proofs.YtjlpjooaclfnlaaGreatDoor
open Go.RowKit

set_option maxRecDepth 100000 in
set_option maxHeartbeats 1000000 in
theorem rnot_any (k n : Int) (f : Nat) (s : ByteArray) (w : World) : Calls Tryz.prog 35 #[vV k n f s] w (RetV (rofV (2 - truthR k n)) w) := by
  have sf := store_float
  by_cases hk : k = 4
  · subst hk
    by_cases hn : n = 0
    · subst hn
      go_enter Tryz.func35, Tryz.ntmps35
      go_wp2
      exact bodyPost_ret (v := boolV true) (by simp [results, Tryz.results35, go_sem, bZ]) rfl ⟨rfl, by go_grown⟩
    · have hb2 : (n == 0) = false := by simpa using hn
      have H := Lib.hid (show rofV (2 - truthR 4 n) = boolV false by unfold truthR; simp [hn]; rfl)
      rw [H.out]
      go_enter Tryz.func35, Tryz.ntmps35
      go_wp2
      exact bodyPost_ret (v := boolV false) (by simp [results, Tryz.results35, go_sem, bZ]) rfl ⟨rfl, by go_grown⟩
  · have hb : (k != 4) = true := by simpa using hk
    have H := Lib.hid (show rofV (2 - truthR k n) = nullV by unfold truthR; simp [hk]; rfl)
    rw [H.out]
    go_enter Tryz.func35, Tryz.ntmps35
    go_wp2
    exact bodyPost_ret (v := nullV) (by simp [results, Tryz.results35, go_sem]) rfl ⟨rfl, by go_grown⟩

/-- two boxed values and a result's cells, as they stand -/
def TwoIn (w wx : World) (k n : Int) (f : Nat) (s : ByteArray) (k2 n2 : Int) (f2 : Nat) (s2 : ByteArray) : Prop :=
  wx.cell? ⟨w.heap.size, 0, none⟩ = some (.int .i64 k) ∧ wx.cell? ⟨w.heap.size, 1, none⟩ = some (.int .i64 n) ∧ wx.cell? ⟨w.heap.size, 2, none⟩ = some (.float .f64 f) ∧ wx.cell? ⟨w.heap.size, 3, none⟩ = some (.string s) ∧ wx.cell? ⟨w.heap.size + 1, 0, none⟩ = some (.int .i64 k2) ∧ wx.cell? ⟨w.heap.size + 1, 1, none⟩ = some (.int .i64 n2) ∧ wx.cell? ⟨w.heap.size + 1, 2, none⟩ = some (.float .f64 f2) ∧ wx.cell? ⟨w.heap.size + 1, 3, none⟩ = some (.string s2) ∧ wx.heap[w.heap.size + 1 + 1]? = some (.cells #[.int .i64 0, .int .i64 0, .float .f64 0, .string ⟨#[]⟩] 24 (0, 0)) ∧ w.heap.size + 1 + 1 < wx.heap.size ∧ Below w.heap.size w wx
theorem TwoIn.call {w W w2 : World} {k n : Int} {f : Nat} {s : ByteArray} {k2 n2 : Int} {f2 : Nat} {s2 : ByteArray} (h : TwoIn w W k n f s k2 n2 f2 s2) (hB : Below W.heap.size W w2) : TwoIn w w2 k n f s k2 n2 f2 s2 := by
  obtain ⟨a0, a1, a2, a3, b0, b1, b2, b3, q, l, hb⟩ := h
  have ha : ∀ o, w2.cell? ⟨w.heap.size, o, none⟩ = W.cell? ⟨w.heap.size, o, none⟩ := fun o => hB.cell (p := ⟨w.heap.size, o, none⟩) (by show w.heap.size < W.heap.size; omega)
  have hc : ∀ o, w2.cell? ⟨w.heap.size + 1, o, none⟩ = W.cell? ⟨w.heap.size + 1, o, none⟩ := fun o => hB.cell (p := ⟨w.heap.size + 1, o, none⟩) (by show w.heap.size + 1 < W.heap.size; omega)
  have hz := hB.size
  exact ⟨(ha _).trans a0, (ha _).trans a1, (ha _).trans a2, (ha _).trans a3, (hc _).trans b0, (hc _).trans b1, (hc _).trans b2, (hc _).trans b3, (hB.block _ l).trans q, by omega, hb.trans (hB.mono (by omega))⟩
theorem TwoIn.start (w : World) (k n : Int) (f : Nat) (s : ByteArray) (k2 n2 : Int) (f2 : Nat) (s2 : ByteArray) : TwoIn w (((w.alloc (.cells #[.int .i64 k, .int .i64 n, .float .f64 f, .string s] 24)).alloc (.cells #[.int .i64 k2, .int .i64 n2, .float .f64 f2, .string s2] 24)).alloc (.cells #[.int .i64 0, .int .i64 0, .float .f64 0, .string ⟨#[]⟩] 24)) k n f s k2 n2 f2 s2 := by
  have q0 := heap_alloc_new w (.cells #[.int .i64 k, .int .i64 n, .float .f64 f, .string s] 24)
  have q1 := heap_alloc_new (w.alloc (.cells #[.int .i64 k, .int .i64 n, .float .f64 f, .string s] 24)) (.cells #[.int .i64 k2, .int .i64 n2, .float .f64 f2, .string s2] 24)
  have q2 := heap_alloc_new ((w.alloc (.cells #[.int .i64 k, .int .i64 n, .float .f64 f, .string s] 24)).alloc (.cells #[.int .i64 k2, .int .i64 n2, .float .f64 f2, .string s2] 24)) (.cells #[.int .i64 0, .int .i64 0, .float .f64 0, .string ⟨#[]⟩] 24)
  have hb : Below w.heap.size w (((w.alloc (.cells #[.int .i64 k, .int .i64 n, .float .f64 f, .string s] 24)).alloc (.cells #[.int .i64 k2, .int .i64 n2, .float .f64 f2, .string s2] 24)).alloc (.cells #[.int .i64 0, .int .i64 0, .float .f64 0, .string ⟨#[]⟩] 24)) := by go_grown
  have s1 := World.size_alloc w (.cells #[.int .i64 k, .int .i64 n, .float .f64 f, .string s] 24)
  have s2' := World.size_alloc (w.alloc (.cells #[.int .i64 k, .int .i64 n, .float .f64 f, .string s] 24)) (.cells #[.int .i64 k2, .int .i64 n2, .float .f64 f2, .string s2] 24)
  have s3 := World.size_alloc ((w.alloc (.cells #[.int .i64 k, .int .i64 n, .float .f64 f, .string s] 24)).alloc (.cells #[.int .i64 k2, .int .i64 n2, .float .f64 f2, .string s2] 24)) (.cells #[.int .i64 0, .int .i64 0, .float .f64 0, .string ⟨#[]⟩] 24)
  generalize w.alloc (.cells #[.int .i64 k, .int .i64 n, .float .f64 f, .string s] 24) = wa at *
  have h1 : Below wa.heap.size wa (wa.alloc (.cells #[.int .i64 k2, .int .i64 n2, .float .f64 f2, .string s2] 24)) := (Below.refl _ _).alloc (Nat.le_refl _) _
  generalize wa.alloc (.cells #[.int .i64 k2, .int .i64 n2, .float .f64 f2, .string s2] 24) = wb at *
  have h2 : Below wb.heap.size wb (wb.alloc (.cells #[.int .i64 0, .int .i64 0, .float .f64 0, .string ⟨#[]⟩] 24)) := (Below.refl _ _).alloc (Nat.le_refl _) _
  generalize wb.alloc (.cells #[.int .i64 0, .int .i64 0, .float .f64 0, .string ⟨#[]⟩] 24) = wc at *
  rw [s1] at q1 s2'
  rw [s2'] at q2 s3
  have r0 := (h2.block w.heap.size (by omega)).trans ((h1.block w.heap.size (by omega)).trans q0)
  have r1 := (h2.block (w.heap.size + 1) (by omega)).trans q1
  exact ⟨cell_of_row wc _ 0 _ _ _ r0, cell_of_row wc _ 1 _ _ _ r0, cell_of_row wc _ 2 _ _ _ r0, cell_of_row wc _ 3 _ _ _ r0, cell_of_row wc _ 0 _ _ _ r1, cell_of_row wc _ 1 _ _ _ r1, cell_of_row wc _ 2 _ _ _ r1, cell_of_row wc _ 3 _ _ _ r1, q2, by omega, hb⟩

def andT (x y : Int) : Int := if x = 0 ∨ y = 0 then 0 else if x < 0 ∨ y < 0 then -1 else 1
set_option maxRecDepth 100000 in
set_option maxHeartbeats 4000000 in
theorem and_any (k n : Int) (f : Nat) (s : ByteArray) (k2 n2 : Int) (f2 : Nat) (s2 : ByteArray) (w : World) : Calls Tryz.prog 36 #[vV k n f s, vV k2 n2 f2 s2] w (RetV (ofV (andT (truthZ k n) (truthZ k2 n2))) w) := by
  have sf := store_float
  have KK := TwoIn.start w k n f s k2 n2 f2 s2
  have hx := truthZ_bd k n
  have hy := truthZ_bd k2 n2
  have HX := Lib.hid (fun W => truth_any k n (.float .f64 f) (.string s) W)
  have HY := Lib.hid (fun W => truth_any k2 n2 (.float .f64 f2) (.string s2) W)
  generalize truthZ k n = x at hx HX ⊢
  generalize truthZ k2 n2 = y at hy HY ⊢
  go_enter Tryz.func36, Tryz.ntmps36
  go_wp2_with fail
  have KA := KK.call (Below.refl _ _).drew
  unfold TwoIn at KA
  go_region_held3 (fun wx => wx.cell? ⟨w.heap.size, 0, none⟩ = some (.int .i64 k) ∧ wx.cell? ⟨w.heap.size, 1, none⟩ = some (.int .i64 n) ∧ wx.cell? ⟨w.heap.size, 2, none⟩ = some (.float .f64 f) ∧ wx.cell? ⟨w.heap.size, 3, none⟩ = some (.string s) ∧ wx.cell? ⟨w.heap.size + 1, 0, none⟩ = some (.int .i64 k2) ∧ wx.cell? ⟨w.heap.size + 1, 1, none⟩ = some (.int .i64 n2) ∧ wx.cell? ⟨w.heap.size + 1, 2, none⟩ = some (.float .f64 f2) ∧ wx.cell? ⟨w.heap.size + 1, 3, none⟩ = some (.string s2) ∧ wx.heap[w.heap.size + 1 + 1]? = some (.cells #[.int .i64 0, .int .i64 0, .float .f64 0, .string ⟨#[]⟩] 24 (0, 0)) ∧ w.heap.size + 1 + 1 < wx.heap.size ∧ Below w.heap.size w wx)
    (first
      | (with_reducible exact KA)
      | (with_reducible assumption)
      | exact TwoIn.call (W := _) (by unfold TwoIn; assumption) hB2
      | fail)
    (first
      | (go_at_call 52; (with_reducible refine (HX.out _).mono ?_); rintro e w2 ⟨rfl, hB2⟩)
      | (go_at_call 52; (with_reducible refine (HY.out _).mono ?_); rintro e w2 ⟨rfl, hB2⟩)
      | fail)
  all_goals
    rename_i hHeld
    obtain ⟨_, _, _, _, _, _, _, _, q, l0, hbb⟩ := hHeld
    by_cases h0 : x = 0
    · have HE := Lib.hid (show andT x y = 0 by unfold andT; rw [if_pos (.inl h0)])
      subst h0
      go_wp2_with (first
      | (go_at_call 53; (with_reducible refine (of_any _ _).mono ?_); rintro e w5 ⟨rfl, hB⟩; obtain ⟨⟨d0, d1, d2, d3⟩, ⟨f0, f1, f2', f3⟩, l1⟩ := result_kept q hB; have hb5 := hbb.trans (hB.mono hbb.size))
      | fail)
      exact bodyPost_ret (v := ofV (0)) (by simp [results, Tryz.results36, go_sem, d0, d1, d2, d3]) rfl ⟨by rw [HE.out], (((hb5.setCell (Nat.le_add_right _ 2) _).setCell (Nat.le_add_right _ 2) _).setCell (Nat.le_add_right _ 2) _).setCell (Nat.le_add_right _ 2) _⟩
    · have b0 : (x == 0) = false := by simpa using h0
      by_cases h1 : y = 0
      · have HE := Lib.hid (show andT x y = 0 by unfold andT; rw [if_pos (.inr h1)])
        subst h1
        go_wp2_with (first
      | (go_at_call 53; (with_reducible refine (of_any _ _).mono ?_); rintro e w5 ⟨rfl, hB⟩; obtain ⟨⟨d0, d1, d2, d3⟩, ⟨f0, f1, f2', f3⟩, l1⟩ := result_kept q hB; have hb5 := hbb.trans (hB.mono hbb.size))
      | fail)
        exact bodyPost_ret (v := ofV (0)) (by simp [results, Tryz.results36, go_sem, d0, d1, d2, d3]) rfl ⟨by rw [HE.out], (((hb5.setCell (Nat.le_add_right _ 2) _).setCell (Nat.le_add_right _ 2) _).setCell (Nat.le_add_right _ 2) _).setCell (Nat.le_add_right _ 2) _⟩
      · have b1 : (y == 0) = false := by simpa using h1
        by_cases h2 : x < 0
        · have HE := Lib.hid (show andT x y = -1 by unfold andT; rw [if_neg (by omega), if_pos (.inl h2)])
          go_wp2_with (first
      | (go_at_call 53; (with_reducible refine (of_any _ _).mono ?_); rintro e w5 ⟨rfl, hB⟩; obtain ⟨⟨d0, d1, d2, d3⟩, ⟨f0, f1, f2', f3⟩, l1⟩ := result_kept q hB; have hb5 := hbb.trans (hB.mono hbb.size))
      | fail)
          exact bodyPost_ret (v := ofV (-1)) (by simp [results, Tryz.results36, go_sem, d0, d1, d2, d3]) rfl ⟨by rw [HE.out], (((hb5.setCell (Nat.le_add_right _ 2) _).setCell (Nat.le_add_right _ 2) _).setCell (Nat.le_add_right _ 2) _).setCell (Nat.le_add_right _ 2) _⟩
        · have c2 : decide (x < 0) = false := by simpa using h2
          by_cases h3 : y < 0
          · have HE := Lib.hid (show andT x y = -1 by unfold andT; rw [if_neg (by omega), if_pos (.inr h3)])
            go_wp2_with (first
      | (go_at_call 53; (with_reducible refine (of_any _ _).mono ?_); rintro e w5 ⟨rfl, hB⟩; obtain ⟨⟨d0, d1, d2, d3⟩, ⟨f0, f1, f2', f3⟩, l1⟩ := result_kept q hB; have hb5 := hbb.trans (hB.mono hbb.size))
      | fail)
            exact bodyPost_ret (v := ofV (-1)) (by simp [results, Tryz.results36, go_sem, d0, d1, d2, d3]) rfl ⟨by rw [HE.out], (((hb5.setCell (Nat.le_add_right _ 2) _).setCell (Nat.le_add_right _ 2) _).setCell (Nat.le_add_right _ 2) _).setCell (Nat.le_add_right _ 2) _⟩
          · have HE := Lib.hid (show andT x y = 1 by unfold andT; rw [if_neg (by omega), if_neg (by omega)])
            have c3 : decide (y < 0) = false := by simpa using h3
            go_wp2_with (first
      | (go_at_call 53; (with_reducible refine (of_any _ _).mono ?_); rintro e w5 ⟨rfl, hB⟩; obtain ⟨⟨d0, d1, d2, d3⟩, ⟨f0, f1, f2', f3⟩, l1⟩ := result_kept q hB; have hb5 := hbb.trans (hB.mono hbb.size))
      | fail)
            exact bodyPost_ret (v := ofV (1)) (by simp [results, Tryz.results36, go_sem, d0, d1, d2, d3]) rfl ⟨by rw [HE.out], (((hb5.setCell (Nat.le_add_right _ 2) _).setCell (Nat.le_add_right _ 2) _).setCell (Nat.le_add_right _ 2) _).setCell (Nat.le_add_right _ 2) _⟩
end Go.Proofs.YtjlpjooaclfnlaaGreatDoor
