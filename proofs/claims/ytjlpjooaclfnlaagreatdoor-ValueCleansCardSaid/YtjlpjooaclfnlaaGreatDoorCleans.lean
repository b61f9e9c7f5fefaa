/- The walk of the statement ValueCleans. -/
import Derived.Test.YtjlpjooaclfnlaaGreatDoorFits
import Derived.Test.YtjlpjooaclfnlaaGreatDoorOpen
namespace Go.Proofs.YtjlpjooaclfnlaaGreatDoor
open Go.RowKit

/-- two boxed values, as they stand -/
@[reducible] def TwoG (w : World) (x3 x4 : Nat) (wx : World) (k n : Int) (f : Nat) (s : ByteArray) (k2 n2 : Int) (f2 : Nat) (s2 : ByteArray) : Prop :=
  wx.cell? ⟨x3, 0, none⟩ = some (.int .i64 k) ∧ wx.cell? ⟨x3, 1, none⟩ = some (.int .i64 n) ∧ wx.cell? ⟨x3, 2, none⟩ = some (.float .f64 f) ∧ wx.cell? ⟨x3, 3, none⟩ = some (.string s) ∧
  wx.cell? ⟨x4, 0, none⟩ = some (.int .i64 k2) ∧ wx.cell? ⟨x4, 1, none⟩ = some (.int .i64 n2) ∧ wx.cell? ⟨x4, 2, none⟩ = some (.float .f64 f2) ∧ wx.cell? ⟨x4, 3, none⟩ = some (.string s2) ∧ x3 < wx.heap.size ∧ x4 < wx.heap.size ∧ Below w.heap.size w wx
section
variable {w W w2 : World} {x3 x4 : Nat} {k n : Int} {f : Nat} {s : ByteArray} {k2 n2 : Int} {f2 : Nat} {s2 : ByteArray}
theorem TwoG.call (h : TwoG w x3 x4 W k n f s k2 n2 f2 s2) (hB : Below W.heap.size W w2) : TwoG w x3 x4 w2 k n f s k2 n2 f2 s2 := by
  obtain ⟨a0, a1, a2, a3, a4, a5, a6, a7, l3, l4, hb⟩ := h
  have h3 : ∀ o, w2.cell? ⟨x3, o, none⟩ = W.cell? ⟨x3, o, none⟩ := fun o => hB.cell (p := ⟨x3, o, none⟩) l3
  have h4 : ∀ o, w2.cell? ⟨x4, o, none⟩ = W.cell? ⟨x4, o, none⟩ := fun o => hB.cell (p := ⟨x4, o, none⟩) l4
  have hz := hB.size
  exact ⟨(h3 _).trans a0, (h3 _).trans a1, (h3 _).trans a2, (h3 _).trans a3, (h4 _).trans a4, (h4 _).trans a5, (h4 _).trans a6, (h4 _).trans a7, by omega, by omega, hb.trans (hB.mono hb.size)⟩
theorem TwoG.rows (h3 : Row4 W x3 (.int .i64 k) (.int .i64 n) (.float .f64 f) (.string s)) (h4 : Row4 W x4 (.int .i64 k2) (.int .i64 n2) (.float .f64 f2) (.string s2)) (hb : Below w.heap.size w W) : TwoG w x3 x4 W k n f s k2 n2 f2 s2 := by
  obtain ⟨⟨a0, a1, a2, a3⟩, -⟩ := h3.cells
  obtain ⟨⟨b0, b1, b2, b3⟩, -⟩ := h4.cells
  exact ⟨a0, a1, a2, a3, b0, b1, b2, b3, h3.lt, h4.lt, hb⟩
theorem TwoG.below (h : TwoG w x3 x4 W k n f s k2 n2 f2 s2) : Below w.heap.size w W := h.2.2.2.2.2.2.2.2.2.2
end
/-- one value, as a slice's element -/
theorem vals1 (T : TypeId) (w : World) (k n : Int) (f : Nat) (s : ByteArray) : Vals (w.alloc (.cells #[.int .i64 k, .int .i64 n, .float .f64 f, .string s] T)) w.heap.size 1 := by
  have q := heap_alloc_new w (.cells #[.int .i64 k, .int .i64 n, .float .f64 f, .string s] T)
  refine ⟨by simp, fun j hj => ?_⟩
  have : j = 0 := by omega
  subst this
  exact ⟨k, n, f, s, cell_of_row _ _ 0 _ _ _ q, cell_of_row _ _ 1 _ _ _ q, cell_of_row _ _ 2 _ _ _ q, cell_of_row _ _ 3 _ _ _ q⟩
theorem realZ_self (f : Nat) : Like (realZ f) (realZ f) := by
  rcases (show feq f f = false ∨ feq f f = true by cases feq f f <;> simp) with h | h
  · rw [realZ_nan h]; exact .inr ⟨feq_nan, feq_nan⟩
  · exact realZ_num f h
theorem clF_like (k : Int) (f : Nat) : Like (clF k f) (rclF k f) := by
  by_cases h : k = 2
  · subst h
    have e : clF 2 f = realZ f := by unfold clF; rw [if_pos rfl]
    rw [e]
    exact realZ_like f
  · unfold clF rclF
    rw [if_neg h, if_neg h]
    exact .inl ⟨rfl, feq_zero⟩
theorem clF_self (k : Int) (f : Nat) : Like (clF k f) (clF k f) := by
  unfold clF
  split
  · exact realZ_self f
  · exact .inl ⟨rfl, feq_zero⟩

set_option maxRecDepth 100000 in
set_option maxHeartbeats 8000000 in
theorem cleans_any (k n : Int) (f : Nat) (s : ByteArray) (t : Int) (w : World) : Calls Tryz.prog 7 #[vV k n f s, .int .i64 t] w (RetT w) := by
  have sf := store_float
  have HC := Lib.hid (show ∀ W, Calls Tryz.prog 26 #[vV k n f s] W (RetV (vV (clK k) (clN k n) (clF k f) (clS k s)) W) from fun W => clean_any k n f s W)
  have HC2 := Lib.hid (show ∀ W, Calls Tryz.prog 26 #[vV (clK k) (clN k n) (clF k f) (clS k s)] W (RetV (vV (clK k) (clN k n) (clF k f) (clS k s)) W) from fun W => by
    have := clean_any (clK k) (clN k n) (clF k f) (clS k s) W
    unfold clV at this
    rwa [clK_again, clN_again, clF_again, clS_again] at this)
  have HRC := Lib.hid (show ∀ W, Calls Tryz.prog 16 #[vV k n f s] W (RetV (vV (clK k) (clN k n) (rclF k f) (clS k s)) W) from fun W => rclean_any k n f s W)
  have HX := Lib.hid (fun W => exact_like (clK k) (clN k n) (clF k f) (rclF k f) (clS k s) W (clF_like k f))
  have HX2 := Lib.hid (fun W => exact_like (clK k) (clN k n) (clF k f) (clF k f) (clS k s) W (clF_self k f))
  have HF := Lib.hid (fun W => fits_any k n f s t W)
  have HRF := Lib.hid (fun W => rfits_any k n f s t W)
  generalize fitZ (clK k) (clS k s) t = ft at HF HRF
  generalize clK k = K at HC HC2 HRC HX HX2
  generalize clN k n = N at HC HC2 HRC HX HX2
  generalize clF k f = F at HC HC2 HX HX2
  generalize rclF k f = F' at HRC HX
  generalize clS k s = S at HC HC2 HRC HX HX2
  have HR := Lib.hid (Row4.new w (.int .i64 k) (.int .i64 n) (.float .f64 f) (.string s))
  have hA : Below w.heap.size w (w.alloc (.cells #[.int .i64 k, .int .i64 n, .float .f64 f, .string s] 24)) := by go_grown
  have HA := Lib.hid hA
  clear hA
  go_enter Tryz.func7, Tryz.ntmps7
  go_upto_region 4 with (first
    | (go_at_call 11; (with_reducible refine (lives_any _).mono ?_); rintro e w2 ⟨rfl, hB⟩; (first | (with_reducible have HR2 := Lib.hid (Row4.call HR2.out hB)) | (with_reducible have HR2 := Lib.hid (Row4.call HR.out hB))); (first | (with_reducible have HA2 := Lib.hid (HA2.out.trans (hB.mono HA2.out.size))) | (with_reducible have HA2 := Lib.hid (HA.out.trans (hB.mono HA.out.size)))); obtain ⟨⟨d0, d1, d2, d3⟩, -⟩ := HR2.out.cells; clear hB)
    | (go_at_call 12; ((with_reducible refine (short_any _ _ _ _ (vals1 _ _ _ _ _ _) (by decide)).mono ?_); rintro e w3 ⟨⟨b, rfl⟩, hB⟩; have HR2 := Lib.hid (Row4.call (Row4.alloc HR2.out _) hB); have HA2 := Lib.hid (HA2.out.trans ((below_made hB).mono HA2.out.size)); clear d0 d1 d2 d3; obtain ⟨⟨d0, d1, d2, d3⟩, -⟩ := HR2.out.cells; clear hB; cases b))
    | (go_at_call 26; (with_reducible refine (HC.out _).mono ?_); rintro e w4 ⟨rfl, hB⟩; have HR2 := Lib.hid (Row4.call HR2.out hB); have HA2 := Lib.hid (HA2.out.trans (hB.mono HA2.out.size)); clear d0 d1 d2 d3; obtain ⟨⟨d0, d1, d2, d3⟩, -⟩ := HR2.out.cells; clear hB)
    | fail)
  · go_ret
    exact ⟨rfl, HA2.out⟩
  · have R2 := HR2.out.alloc (.cells #[.int .i64 K, .int .i64 N, .float .f64 F, .string S] 24)
    have R5 := Row4.new w4 (.int .i64 K) (.int .i64 N) (.float .f64 F) (.string S)
    have T0 := TwoG.rows R2 R5 (HA2.out.alloc HA2.out.size _)
    have T1 := TwoG.call T0 (Below.refl _ _).drew
    clear R2 R5 d0 d1 d2 d3
    go_region_held3 (fun wx => wx.cell? ⟨w.heap.size, 0, none⟩ = some (.int .i64 k) ∧ wx.cell? ⟨w.heap.size, 1, none⟩ = some (.int .i64 n) ∧ wx.cell? ⟨w.heap.size, 2, none⟩ = some (.float .f64 f) ∧ wx.cell? ⟨w.heap.size, 3, none⟩ = some (.string s) ∧
  wx.cell? ⟨w4.heap.size, 0, none⟩ = some (.int .i64 K) ∧ wx.cell? ⟨w4.heap.size, 1, none⟩ = some (.int .i64 N) ∧ wx.cell? ⟨w4.heap.size, 2, none⟩ = some (.float .f64 F) ∧ wx.cell? ⟨w4.heap.size, 3, none⟩ = some (.string S) ∧ w.heap.size < wx.heap.size ∧ w4.heap.size < wx.heap.size ∧ Below w.heap.size w wx)
        (first
          | (with_reducible exact T1)
          | (with_reducible assumption)
          | (with_reducible exact TwoG.call (W := _) (by assumption) hB2)
          | fail)
        (first
          | (go_at_call 16; (with_reducible refine (HRC.out _).mono ?_); rintro e w6 ⟨rfl, hB2⟩)
          | (go_at_call 26; (with_reducible refine (HC2.out _).mono ?_); rintro e w6 ⟨rfl, hB2⟩)
          | (go_at_call 27; (with_reducible refine (HF.out _).mono ?_); rintro e w6 ⟨rfl, hB2⟩)
          | (go_at_call 28; (with_reducible refine (HRF.out _).mono ?_); rintro e w6 ⟨rfl, hB2⟩)
          | (go_at_call 17; (with_reducible refine (HX.out _).mono ?_); rintro e w6 ⟨rfl, hB2⟩)
          | (go_at_call 17; (with_reducible refine (HX2.out _).mono ?_); rintro e w6 ⟨rfl, hB2⟩)
          | fail)
    all_goals
      rename_i hHeld
      go_wp2_with fail
      go_ret
      exact ⟨ret_bool (by simp), TwoG.below hHeld⟩
set_option maxRecDepth 100000 in
theorem cleans_open {H : Type} {enc : TypeId × Value → H} {W : World} {b0 : Nat} {v1 : Value} {d1 : DataW H} {p1 : List MemPlace}
    (k1 : Value.okWide Tryz.prog W .any b0 24 v1) (h1 : DataW.Trod enc Tryz.prog W 0 (fun _ => true) true 24 v1 d1 p1) (t : Int) (_wt : (Lit.int .i64 t).wf = true) {X : Prop} (_hL : X) :
    Calls Tryz.prog 7 #[v1, .int .i64 t] W (RetT W) := by
  obtain ⟨k, n, f, s, rfl, _, _⟩ := value_open k1 h1
  exact cleans_any k n f s t W
end Go.Proofs.YtjlpjooaclfnlaaGreatDoor
