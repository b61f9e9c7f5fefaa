/- The walk of the statement ValueTruths. -/
import Derived.Test.YtjlpjooaclfnlaaGreatDoorShort
import Derived.Test.YtjlpjooaclfnlaaGreatDoorRAnd
namespace Go.Proofs.YtjlpjooaclfnlaaGreatDoor
open Go.RowKit

/-- the call returns true; of what was there nothing turns -/
def RetT (w : World) (e : Ending) (w' : World) : Prop := e = .returned (.bool true) ∧ Below w.heap.size w w'

/-- two boxed values, as they stand -/
@[reducible] def TwoB (w wx : World) (k n : Int) (f : Nat) (s : ByteArray) (k2 n2 : Int) (f2 : Nat) (s2 : ByteArray) : Prop :=
  wx.cell? ⟨w.heap.size, 0, none⟩ = some (.int .i64 k) ∧ wx.cell? ⟨w.heap.size, 1, none⟩ = some (.int .i64 n) ∧ wx.cell? ⟨w.heap.size, 2, none⟩ = some (.float .f64 f) ∧ wx.cell? ⟨w.heap.size, 3, none⟩ = some (.string s) ∧ wx.cell? ⟨w.heap.size + 1, 0, none⟩ = some (.int .i64 k2) ∧ wx.cell? ⟨w.heap.size + 1, 1, none⟩ = some (.int .i64 n2) ∧ wx.cell? ⟨w.heap.size + 1, 2, none⟩ = some (.float .f64 f2) ∧ wx.cell? ⟨w.heap.size + 1, 3, none⟩ = some (.string s2) ∧ w.heap.size + 1 < wx.heap.size ∧ Below w.heap.size w wx
section
variable {w W w2 : World} {k n : Int} {f : Nat} {s : ByteArray} {k2 n2 : Int} {f2 : Nat} {s2 : ByteArray}
theorem TwoB.call (h : TwoB w W k n f s k2 n2 f2 s2) (hB : Below W.heap.size W w2) : TwoB w w2 k n f s k2 n2 f2 s2 := by
  obtain ⟨a0, a1, a2, a3, b0, b1, b2, b3, l, hb⟩ := h
  have ha : ∀ o, w2.cell? ⟨w.heap.size, o, none⟩ = W.cell? ⟨w.heap.size, o, none⟩ := fun o => hB.cell (p := ⟨w.heap.size, o, none⟩) (by show w.heap.size < W.heap.size; omega)
  have hc : ∀ o, w2.cell? ⟨w.heap.size + 1, o, none⟩ = W.cell? ⟨w.heap.size + 1, o, none⟩ := fun o => hB.cell (p := ⟨w.heap.size + 1, o, none⟩) l
  have hz := hB.size
  exact ⟨(ha _).trans a0, (ha _).trans a1, (ha _).trans a2, (ha _).trans a3, (hc _).trans b0, (hc _).trans b1, (hc _).trans b2, (hc _).trans b3, by omega, hb.trans (hB.mono (by omega))⟩
theorem TwoB.at (h : Two w W (.int .i64 k) (.int .i64 n) (.float .f64 f) (.string s) (.int .i64 k2) (.int .i64 n2) (.float .f64 f2) (.string s2)) : TwoB w W k n f s k2 n2 f2 s2 := by
  obtain ⟨⟨a0, a1, a2, a3⟩, -⟩ := h.1.cells
  obtain ⟨⟨b0, b1, b2, b3⟩, -⟩ := h.2.1.cells
  exact ⟨a0, a1, a2, a3, b0, b1, b2, b3, h.2.1.lt, h.2.2⟩
theorem TwoB.below (h : TwoB w W k n f s k2 n2 f2 s2) : Below w.heap.size w W := h.2.2.2.2.2.2.2.2.2
end
/-- a call behind a new block, seen from ahead of the block -/
theorem below_made {w w2 : World} {o : Obj} (h : Below (w.alloc o).heap.size (w.alloc o) w2) : Below w.heap.size w w2 :=
  ((Below.refl _ _).alloc (Nat.le_refl _) o).trans (h.mono (by rw [World.size_alloc]; omega))
/-- two values, as a slice's elements -/
theorem vals2 (T : TypeId) (w : World) (k n : Int) (f : Nat) (s : ByteArray) (k2 n2 : Int) (f2 : Nat) (s2 : ByteArray) :
    Vals (w.alloc (.cells #[.int .i64 k, .int .i64 n, .float .f64 f, .string s, .int .i64 k2, .int .i64 n2, .float .f64 f2, .string s2] T)) w.heap.size 2 := by
  have q := heap_alloc_new w (.cells #[.int .i64 k, .int .i64 n, .float .f64 f, .string s, .int .i64 k2, .int .i64 n2, .float .f64 f2, .string s2] T)
  refine ⟨by simp, fun j hj => ?_⟩
  have : j = 0 ∨ j = 1 := by omega
  rcases this with rfl | rfl
  · exact ⟨k, n, f, s, cell_of_row _ _ 0 _ _ _ q, cell_of_row _ _ 1 _ _ _ q, cell_of_row _ _ 2 _ _ _ q, cell_of_row _ _ 3 _ _ _ q⟩
  · exact ⟨k2, n2, f2, s2, cell_of_row _ _ 4 _ _ _ q, cell_of_row _ _ 5 _ _ _ q, cell_of_row _ _ 6 _ _ _ q, cell_of_row _ _ 7 _ _ _ q⟩

set_option maxRecDepth 100000 in
set_option maxHeartbeats 8000000 in
theorem truths_any (k n : Int) (f : Nat) (s : ByteArray) (k2 n2 : Int) (f2 : Nat) (s2 : ByteArray) (bt : Bool) (rt : Int) (q0 m0 q1 m1 q2 m2 : Int) (hbt : (bt = false ∧ rt = 0) ∨ (bt = true ∧ rt = 2) ∨ (bt = false ∧ rt = 1))
    (h32 : ∀ W, Calls Tryz.prog 32 #[vV k n f s] W (RetV (.bool bt) W)) (h33 : ∀ W, Calls Tryz.prog 33 #[vV k n f s] W (RetV (.int .i64 rt) W))
    (h34 : ∀ W, Calls Tryz.prog 34 #[vV k n f s] W (RetV (vV q0 m0 0 ⟨#[]⟩) W)) (h35 : ∀ W, Calls Tryz.prog 35 #[vV k n f s] W (RetV (vV q0 m0 0 ⟨#[]⟩) W))
    (h36 : ∀ W, Calls Tryz.prog 36 #[vV k n f s, vV k2 n2 f2 s2] W (RetV (vV q1 m1 0 ⟨#[]⟩) W)) (h37 : ∀ W, Calls Tryz.prog 37 #[vV k n f s, vV k2 n2 f2 s2] W (RetV (vV q1 m1 0 ⟨#[]⟩) W))
    (h38 : ∀ W, Calls Tryz.prog 38 #[vV k n f s, vV k2 n2 f2 s2] W (RetV (vV q2 m2 0 ⟨#[]⟩) W)) (h39 : ∀ W, Calls Tryz.prog 39 #[vV k n f s, vV k2 n2 f2 s2] W (RetV (vV q2 m2 0 ⟨#[]⟩) W))
    (w : World) : Calls Tryz.prog 9 #[vV k n f s, vV k2 n2 f2 s2] w (RetT w) := by
  have sf := store_float
  have H32 := Lib.hid h32
  have H33 := Lib.hid h33
  have H34 := Lib.hid h34
  have H35 := Lib.hid h35
  have H36 := Lib.hid h36
  have H37 := Lib.hid h37
  have H38 := Lib.hid h38
  have H39 := Lib.hid h39
  have HX := Lib.hid (fun q m W => exact_same q m 0 ⟨#[]⟩ W feq_zero)
  clear h32 h33 h34 h35 h36 h37 h38 h39
  have TT := TwoB.at (Two.start w (.int .i64 k) (.int .i64 n) (.float .f64 f) (.string s) (.int .i64 k2) (.int .i64 n2) (.float .f64 f2) (.string s2))
  have HT := Lib.hid TT
  clear TT
  go_enter Tryz.func9, Tryz.ntmps9
  go_upto_region 3 with (first
    | (go_at_call 11; (with_reducible refine (lives_any _).mono ?_); rintro e w2 ⟨rfl, hB⟩; (first | (with_reducible have T1 := TwoB.call T2 hB) | (with_reducible have T1 := TwoB.call HT.out hB)); obtain ⟨a0, a1, a2, a3, b0, b1, b2, b3, hl, hbb⟩ := id T1; clear hB)
    | (go_at_call 12; (with_reducible refine (short_any _ _ _ _ (vals2 _ _ _ _ _ _ _ _ _ _) (by decide)).mono ?_); rintro e w2 ⟨⟨b, rfl⟩, hB⟩; have T2 := TwoB.call T1 (below_made hB); clear hB a0 a1 a2 a3 b0 b1 b2 b3 hl hbb; cases b)
    | fail)
  · go_ret
    exact ⟨rfl, TwoB.below T1⟩
  · have T3 := TwoB.call T2 (Below.refl _ _).drew
    go_cut [28] (fun s28 wc => s28 = .bool false ∧ TwoB w wc k n f s k2 n2 f2 s2)
    case first =>
      rcases hbt with ⟨rfl, rfl⟩ | ⟨rfl, rfl⟩ | ⟨rfl, rfl⟩
      all_goals
       go_region_held3 (fun wx => wx.cell? ⟨w.heap.size, 0, none⟩ = some (.int .i64 k) ∧ wx.cell? ⟨w.heap.size, 1, none⟩ = some (.int .i64 n) ∧ wx.cell? ⟨w.heap.size, 2, none⟩ = some (.float .f64 f) ∧ wx.cell? ⟨w.heap.size, 3, none⟩ = some (.string s) ∧ wx.cell? ⟨w.heap.size + 1, 0, none⟩ = some (.int .i64 k2) ∧ wx.cell? ⟨w.heap.size + 1, 1, none⟩ = some (.int .i64 n2) ∧ wx.cell? ⟨w.heap.size + 1, 2, none⟩ = some (.float .f64 f2) ∧ wx.cell? ⟨w.heap.size + 1, 3, none⟩ = some (.string s2) ∧ w.heap.size + 1 < wx.heap.size ∧ Below w.heap.size w wx)
          (first
            | (with_reducible exact T3)
            | (with_reducible assumption)
            | (with_reducible exact TwoB.call (W := _) (by assumption) hB2)
            | fail)
          (first
            | (go_at_call 32; (with_reducible refine (H32.out _).mono ?_); rintro e w4 ⟨rfl, hB2⟩)
            | (go_at_call 33; (with_reducible refine (H33.out _).mono ?_); rintro e w4 ⟨rfl, hB2⟩)
            | (go_at_call 34; (with_reducible refine (H34.out _).mono ?_); rintro e w4 ⟨rfl, hB2⟩)
            | (go_at_call 35; (with_reducible refine (H35.out _).mono ?_); rintro e w4 ⟨rfl, hB2⟩)
            | (go_at_call 17; (with_reducible refine (HX.out _ _ _).mono ?_); rintro e w4 ⟨rfl, hB2⟩)
            | fail)
       all_goals
          rename_i hHeld
          go_wp2_with fail
          go_meet
          exact ⟨rfl, hHeld⟩
    case rest =>
      obtain ⟨rfl, T4⟩ := hcut
      obtain ⟨w6, rfl⟩ : ∃ w6 : World, w6 = wc := ⟨_, rfl⟩
      clear T1 T2 T3
      have T5 := TwoB.call T4 (Below.refl _ _).drew
      go_wp2_with fail
      go_region_held3 (fun wx => wx.cell? ⟨w.heap.size, 0, none⟩ = some (.int .i64 k) ∧ wx.cell? ⟨w.heap.size, 1, none⟩ = some (.int .i64 n) ∧ wx.cell? ⟨w.heap.size, 2, none⟩ = some (.float .f64 f) ∧ wx.cell? ⟨w.heap.size, 3, none⟩ = some (.string s) ∧ wx.cell? ⟨w.heap.size + 1, 0, none⟩ = some (.int .i64 k2) ∧ wx.cell? ⟨w.heap.size + 1, 1, none⟩ = some (.int .i64 n2) ∧ wx.cell? ⟨w.heap.size + 1, 2, none⟩ = some (.float .f64 f2) ∧ wx.cell? ⟨w.heap.size + 1, 3, none⟩ = some (.string s2) ∧ w.heap.size + 1 < wx.heap.size ∧ Below w.heap.size w wx)
        (first
          | (with_reducible exact T5)
          | (with_reducible assumption)
          | (with_reducible exact TwoB.call (W := _) (by assumption) hB2)
          | fail)
        (first
          | (go_at_call 36; (with_reducible refine (H36.out _).mono ?_); rintro e w4 ⟨rfl, hB2⟩)
          | (go_at_call 37; (with_reducible refine (H37.out _).mono ?_); rintro e w4 ⟨rfl, hB2⟩)
          | (go_at_call 38; (with_reducible refine (H38.out _).mono ?_); rintro e w4 ⟨rfl, hB2⟩)
          | (go_at_call 39; (with_reducible refine (H39.out _).mono ?_); rintro e w4 ⟨rfl, hB2⟩)
          | (go_at_call 17; (with_reducible refine (HX.out _ _ _).mono ?_); rintro e w4 ⟨rfl, hB2⟩)
          | fail)
      all_goals
        rename_i hHeld
        go_wp2_with fail
        go_ret
        exact ⟨rfl, TwoB.below hHeld⟩
end Go.Proofs.YtjlpjooaclfnlaaGreatDoor
