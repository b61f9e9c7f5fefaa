/- The walk of the statement ValueMakes. -/
import Derived.Test.YtjlpjooaclfnlaaGreatDoorTruths
namespace Go.Proofs.YtjlpjooaclfnlaaGreatDoor
open Go.RowKit

/-- two words of floats that Exact takes for one -/
def Like (f g : Nat) : Prop := (f = g ∧ feq f f = true) ∨ (feq f f = false ∧ feq g g = false)
theorem exact_like (k n : Int) (f g : Nat) (s : ByteArray) (W : World) (h : Like f g) : Calls Tryz.prog 17 #[vV k n f s, vV k n g s] W (RetV (.bool true) W) := by
  rcases h with ⟨rfl, h⟩ | ⟨h1, h2⟩
  · exact exact_same k n f s W h
  · exact exact_nan k n f g s W h1 h2
theorem realZ_num (f : Nat) (h : feq f f = true) : Like (realZ f) (realZ f) := by
  refine .inl ⟨rfl, ?_⟩
  unfold realZ
  rw [if_neg (by rw [h]; decide)]
  split
  · exact feq_zero
  · exact h
theorem realZ_like (f : Nat) : Like (realZ f) (rclF 2 f) := by
  unfold rclF
  rw [if_pos rfl]
  by_cases h : feq f f = false
  · have h0 : feq f 0 = false := ord_nan f 0 (.inl h) .eq
    rw [h0, realZ_nan h]
    exact .inr ⟨feq_nan, h⟩
  · have h' : feq f f = true := by simpa using h
    unfold realZ
    rw [if_neg h]
    by_cases h0 : feq f 0 = true
    · rw [if_pos h0]; exact .inl ⟨rfl, feq_zero⟩
    · rw [if_neg h0]; exact .inl ⟨rfl, h'⟩

/-- a boxed value, as it stands -/
@[reducible] def OneB (w : World) (g : Nat) (wx : World) (k n : Int) (f : Nat) (s : ByteArray) : Prop :=
  wx.cell? ⟨g, 0, none⟩ = some (.int .i64 k) ∧ wx.cell? ⟨g, 1, none⟩ = some (.int .i64 n) ∧ wx.cell? ⟨g, 2, none⟩ = some (.float .f64 f) ∧ wx.cell? ⟨g, 3, none⟩ = some (.string s) ∧ g < wx.heap.size ∧ Below w.heap.size w wx
section
variable {w W w2 : World} {g : Nat} {k n : Int} {f : Nat} {s : ByteArray}
theorem OneB.call (h : OneB w g W k n f s) (hB : Below W.heap.size W w2) : OneB w g w2 k n f s := by
  obtain ⟨a0, a1, a2, a3, l, hb⟩ := h
  have ha : ∀ o, w2.cell? ⟨g, o, none⟩ = W.cell? ⟨g, o, none⟩ := fun o => hB.cell (p := ⟨g, o, none⟩) l
  have hz := hB.size
  exact ⟨(ha _).trans a0, (ha _).trans a1, (ha _).trans a2, (ha _).trans a3, by omega, hb.trans (hB.mono hb.size)⟩
theorem OneB.new (h : Below w.heap.size w W) (k n : Int) (f : Nat) (s : ByteArray) : OneB w W.heap.size (W.alloc (.cells #[.int .i64 k, .int .i64 n, .float .f64 f, .string s] 24)) k n f s := by
  have q := Row4.new W (.int .i64 k) (.int .i64 n) (.float .f64 f) (.string s)
  obtain ⟨⟨a0, a1, a2, a3⟩, -⟩ := q.cells
  exact ⟨a0, a1, a2, a3, q.lt, h.alloc h.size _⟩
theorem OneB.below (h : OneB w g W k n f s) : Below w.heap.size w W := h.2.2.2.2.2
end

set_option maxRecDepth 100000 in
set_option maxHeartbeats 8000000 in
theorem makes_any (n : Int) (f : Nat) (s : ByteArray) (w : World) : Calls Tryz.prog 5 #[.int .i64 n, .float .f64 f, .string s] w (RetT w) := by
  have sf := store_float
  have HRC := Lib.hid (show ∀ W, Calls Tryz.prog 16 #[vV 2 0 f ⟨#[]⟩] W (RetV (vV 2 0 (rclF 2 f) ⟨#[]⟩) W) from fun W => rclean_any 2 0 f ⟨#[]⟩ W)
  have HX := Lib.hid (fun q m t W => exact_same q m 0 t W feq_zero)
  have HXR := Lib.hid (fun W => exact_like 2 0 (realZ f) (rclF 2 f) ⟨#[]⟩ W (realZ_like f))
  have HO := Lib.hid (fun W => ofreal_any f W)
  generalize realZ f = z at HXR HO
  generalize rclF 2 f = r at HRC HXR
  go_enter Tryz.func5, Tryz.ntmps5
  have hD := Below.refl w.heap.size w
  go_upto_region 4 with (first
    | (go_at_call 11; (with_reducible refine (lives_any _).mono ?_); rintro e w2 ⟨rfl, hB⟩; have hD := hD.trans (hB.mono hD.size); clear hB)
    | (go_at_call 16; (with_reducible refine (HRC.out _).mono ?_); rintro e w2 ⟨rfl, hB⟩; have hD := hD.trans (hB.mono hD.size); clear hB)
    | fail)
  · go_ret
    exact ⟨rfl, hD⟩
  · have T0 := OneB.new hD 2 0 r ⟨#[]⟩
    have T1 := OneB.call T0 (Below.refl _ _).drew
    obtain ⟨g, hg⟩ : ∃ g, g = w2.heap.size := ⟨_, rfl⟩
    go_region_held3 (fun wx => wx.cell? ⟨w2.heap.size, 0, none⟩ = some (.int .i64 2) ∧ wx.cell? ⟨w2.heap.size, 1, none⟩ = some (.int .i64 0) ∧ wx.cell? ⟨w2.heap.size, 2, none⟩ = some (.float .f64 r) ∧ wx.cell? ⟨w2.heap.size, 3, none⟩ = some (.string ⟨#[]⟩) ∧ w2.heap.size < wx.heap.size ∧ Below w.heap.size w wx)
        (first
          | (with_reducible exact T1)
          | (with_reducible assumption)
          | (with_reducible exact OneB.call (W := _) (by assumption) hB2)
          | fail)
        (first
          | (go_at_call 14; (with_reducible refine (ofint_any _ _).mono ?_); rintro e w4 ⟨rfl, hB2⟩)
          | (go_at_call 18; (with_reducible refine (HO.out _).mono ?_); rintro e w4 ⟨rfl, hB2⟩)
          | (go_at_call 19; (with_reducible refine (oftext_any _ _).mono ?_); rintro e w4 ⟨rfl, hB2⟩)
          | (go_at_call 20; (with_reducible refine (ofbool_any _ _).mono ?_); rintro e w4 ⟨rfl, hB2⟩)
          | (go_at_call 21; (with_reducible refine (rbool_any _ _).mono ?_); rintro e w4 ⟨rfl, hB2⟩)
          | (go_at_call 17; (with_reducible refine (HX.out _ _ _ _).mono ?_); rintro e w4 ⟨rfl, hB2⟩)
          | (go_at_call 17; (with_reducible refine (HXR.out _).mono ?_); rintro e w4 ⟨rfl, hB2⟩)
          | fail)
    all_goals
      rename_i hHeld
      go_wp2_with fail
      go_ret
      exact ⟨rfl, OneB.below hHeld⟩
end Go.Proofs.YtjlpjooaclfnlaaGreatDoor
