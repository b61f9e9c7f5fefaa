/- The walk of the statement ValueOrders. -/
import Derived.Test.YtjlpjooaclfnlaaGreatDoorRCompare
import Derived.Test.YtjlpjooaclfnlaaGreatDoorLineLaw
import Derived.Test.YtjlpjooaclfnlaaGreatDoorRows4
import Derived.Test.YtjlpjooaclfnlaaGreatDoorOpen
namespace Go.Proofs.YtjlpjooaclfnlaaGreatDoor
open Go.RowKit

set_option maxRecDepth 100000 in
set_option maxHeartbeats 1000000 in
theorem same_any (k n : Int) (f : Nat) (s : ByteArray) (k2 n2 : Int) (f2 : Nat) (s2 : ByteArray) (x : Int) (w : World) (hx : ∀ W, Calls Tryz.prog 13 #[vV k n f s, vV k2 n2 f2 s2] W (RetV (.int .i64 x) W)) : Calls Tryz.prog 25 #[vV k n f s, vV k2 n2 f2 s2] w (RetV (.bool (x == 0)) w) := by
  have HX := Lib.hid hx
  clear hx
  have HA := Lib.hid (Two.start w (.int .i64 k) (.int .i64 n) (.float .f64 f) (.string s) (.int .i64 k2) (.int .i64 n2) (.float .f64 f2) (.string s2)).2.2
  go_enter Tryz.func25, Tryz.ntmps25
  go_wp2_with (first
    | (go_at_call 13; (with_reducible refine (HX.out _).mono ?_); rintro e w2 ⟨rfl, hB⟩; have HD := Lib.hid (HA.out.trans (hB.mono HA.out.size)); clear hB)
    | fail)
  go_ret
  exact ⟨rfl, HD.out⟩

/-- two values and seven texts, as they stand -/
@[reducible] def TwoL (w : World) (g : Nat) (op : ByteArray) (wx : World) (k n : Int) (f : Nat) (s : ByteArray) (k2 n2 : Int) (f2 : Nat) (s2 : ByteArray) : Prop :=
  TwoB w wx k n f s k2 n2 f2 s2 ∧ wx.heap[g]? = some (.cells #[.string op, .string ⟨#[61]⟩, .string ⟨#[60, 62]⟩, .string ⟨#[60]⟩, .string ⟨#[60, 61]⟩, .string ⟨#[62]⟩, .string ⟨#[62, 61]⟩] 9 (0, 0))

section
variable {w W w2 : World} {g : Nat} {op : ByteArray} {k n : Int} {f : Nat} {s : ByteArray} {k2 n2 : Int} {f2 : Nat} {s2 : ByteArray}
theorem heap_lt {W : World} {g : Nat} {o : Obj} (q : W.heap[g]? = some o) : g < W.heap.size := by
  rcases Nat.lt_or_ge g W.heap.size with h | h
  · exact h
  · rw [Array.getElem?_eq_none h] at q; cases q
theorem TwoL.call (h : TwoL w g op W k n f s k2 n2 f2 s2) (hB : Below W.heap.size W w2) : TwoL w g op w2 k n f s k2 n2 f2 s2 :=
  ⟨TwoB.call h.1 hB, (hB.block g (heap_lt h.2)).trans h.2⟩
theorem TwoL.start (h : TwoB w W k n f s k2 n2 f2 s2) : TwoL w W.heap.size op (W.alloc (.cells #[.string op, .string ⟨#[61]⟩, .string ⟨#[60, 62]⟩, .string ⟨#[60]⟩, .string ⟨#[60, 61]⟩, .string ⟨#[62]⟩, .string ⟨#[62, 61]⟩] 9)) k n f s k2 n2 f2 s2 :=
  ⟨TwoB.call h ((Below.refl _ _).alloc (Nat.le_refl _) _), heap_alloc_new _ _⟩
theorem TwoL.at (h : TwoL w g op W k n f s k2 n2 f2 s2) (j : Nat) (hj : j < 7) : ∃ o, W.cell? ⟨g, j, none⟩ = some (.string o) := by
  match j, hj with
  | 0, _ => exact ⟨_, cell_of_row W g 0 _ _ _ h.2⟩
  | 1, _ => exact ⟨_, cell_of_row W g 1 _ _ _ h.2⟩
  | 2, _ => exact ⟨_, cell_of_row W g 2 _ _ _ h.2⟩
  | 3, _ => exact ⟨_, cell_of_row W g 3 _ _ _ h.2⟩
  | 4, _ => exact ⟨_, cell_of_row W g 4 _ _ _ h.2⟩
  | 5, _ => exact ⟨_, cell_of_row W g 5 _ _ _ h.2⟩
  | 6, _ => exact ⟨_, cell_of_row W g 6 _ _ _ h.2⟩
end

set_option maxRecDepth 100000 in
set_option maxHeartbeats 8000000 in
theorem orders_walk (k n : Int) (f : Nat) (s : ByteArray) (k2 n2 : Int) (f2 : Nat) (s2 : ByteArray) (op : ByteArray) (x : Int) (K N : ByteArray → Int) (w : World)
    (h13 : ∀ W, Calls Tryz.prog 13 #[vV k n f s, vV k2 n2 f2 s2] W (RetV (.int .i64 x) W)) (h24 : ∀ W, Calls Tryz.prog 24 #[vV k n f s, vV k2 n2 f2 s2] W (RetV (.int .i64 x) W))
    (h22 : ∀ o W, Calls Tryz.prog 22 #[.string o, vV k n f s, vV k2 n2 f2 s2] W (RetV (vV (K o) (N o) 0 ⟨#[]⟩) W)) (h23 : ∀ o W, Calls Tryz.prog 23 #[.string o, vV k n f s, vV k2 n2 f2 s2] W (RetV (vV (K o) (N o) 0 ⟨#[]⟩) W)) :
    Calls Tryz.prog 6 #[vV k n f s, vV k2 n2 f2 s2, .string op] w (RetT w) := by
  have sf := store_float
  have H25 := Lib.hid (fun W => same_any k n f s k2 n2 f2 s2 x W h13)
  have H13 := Lib.hid h13
  have H24 := Lib.hid h24
  have H22 := Lib.hid h22
  have H23 := Lib.hid h23
  clear h13 h24 h22 h23
  have HX := Lib.hid (fun q m W => exact_same q m 0 ⟨#[]⟩ W feq_zero)
  have HT := Lib.hid (TwoB.at (Two.start w (.int .i64 k) (.int .i64 n) (.float .f64 f) (.string s) (.int .i64 k2) (.int .i64 n2) (.float .f64 f2) (.string s2)))
  go_enter Tryz.func6, Tryz.ntmps6
  go_wp2_with (first
    | (go_at_call 11; (with_reducible refine (lives_any _).mono ?_); rintro e w2 ⟨rfl, hB⟩; (first | (with_reducible have T1 := TwoB.call T2 hB) | (with_reducible have T1 := TwoB.call HT.out hB)); obtain ⟨a0, a1, a2, a3, b0, b1, b2, b3, hl, hbb⟩ := id T1; clear hB)
    | (go_at_call 12; (with_reducible refine (short_any _ _ _ _ (vals2 _ _ _ _ _ _ _ _ _ _) (by decide)).mono ?_); rintro e w2 ⟨⟨b, rfl⟩, hB⟩; have T2 := TwoB.call T1 (below_made hB); clear hB a0 a1 a2 a3 b0 b1 b2 b3 hl hbb; cases b)
    | fail)
  · go_ret
    exact ⟨rfl, TwoB.below T1⟩
  · have TL := TwoL.start (op := op) T2
    obtain ⟨g, hg⟩ : ∃ g, g = w2.heap.size := ⟨_, rfl⟩
    rw [← hg] at TL
    go_loopw [22] (fun i wr => ∃ j : Nat, j ≤ 7 ∧ i = .int .i64 j ∧ TwoL w w2.heap.size op wr k n f s k2 n2 f2 s2) (fun i _ => 7 - (intOf i).toNat)
    case atStart => exact ⟨0, Nat.zero_le _, rfl, hg ▸ TL⟩
    case round =>
      obtain ⟨j, hj, rfl, hTL⟩ := hrel
      obtain ⟨wo, rfl⟩ : ∃ wo : World, wo = wr := ⟨_, rfl⟩
      clear T1 T2 TL hg
      have HTL := Lib.hid hTL
      obtain ⟨a0, a1, a2, a3, b0, b1, b2, b3, hl, hbb⟩ := id hTL.1
      by_cases hlt : j < 7
      · obtain ⟨o, co⟩ := TwoL.at hTL j hlt
        clear hTL
        have T3 := TwoL.call HTL.out (Below.refl _ _).drew
        go_wp2_with fail
        go_region_held3 (fun wx => (wx.cell? ⟨w.heap.size, 0, none⟩ = some (.int .i64 k) ∧ wx.cell? ⟨w.heap.size, 1, none⟩ = some (.int .i64 n) ∧ wx.cell? ⟨w.heap.size, 2, none⟩ = some (.float .f64 f) ∧ wx.cell? ⟨w.heap.size, 3, none⟩ = some (.string s) ∧ wx.cell? ⟨w.heap.size + 1, 0, none⟩ = some (.int .i64 k2) ∧ wx.cell? ⟨w.heap.size + 1, 1, none⟩ = some (.int .i64 n2) ∧ wx.cell? ⟨w.heap.size + 1, 2, none⟩ = some (.float .f64 f2) ∧ wx.cell? ⟨w.heap.size + 1, 3, none⟩ = some (.string s2) ∧ w.heap.size + 1 < wx.heap.size ∧ Below w.heap.size w wx) ∧ wx.heap[w2.heap.size]? = some (.cells #[.string op, .string ⟨#[61]⟩, .string ⟨#[60, 62]⟩, .string ⟨#[60]⟩, .string ⟨#[60, 61]⟩, .string ⟨#[62]⟩, .string ⟨#[62, 61]⟩] 9 (0, 0)))
          (first
            | (with_reducible exact T3)
            | (with_reducible assumption)
            | (with_reducible exact TwoL.call (W := _) (by assumption) hB2)
            | fail)
          (first
            | (go_at_call 22; (with_reducible refine (H22.out _ _).mono ?_); rintro e w4 ⟨rfl, hB2⟩)
            | (go_at_call 23; (with_reducible refine (H23.out _ _).mono ?_); rintro e w4 ⟨rfl, hB2⟩)
            | (go_at_call 17; (with_reducible refine (HX.out _ _ _).mono ?_); rintro e w4 ⟨rfl, hB2⟩)
            | fail)
        all_goals
          rename_i hHeld
          go_wp2_with fail
          go_roundw
          case rel => exact ⟨j + 1, by omega, by go_num, hHeld⟩
          case measure => simp [intOf]; omega
      · clear hTL
        have T3 := TwoB.call HTL.out.1 (Below.refl _ _).drew
        go_wp2_with fail
        go_region_held3 (fun wx => wx.cell? ⟨w.heap.size, 0, none⟩ = some (.int .i64 k) ∧ wx.cell? ⟨w.heap.size, 1, none⟩ = some (.int .i64 n) ∧ wx.cell? ⟨w.heap.size, 2, none⟩ = some (.float .f64 f) ∧ wx.cell? ⟨w.heap.size, 3, none⟩ = some (.string s) ∧ wx.cell? ⟨w.heap.size + 1, 0, none⟩ = some (.int .i64 k2) ∧ wx.cell? ⟨w.heap.size + 1, 1, none⟩ = some (.int .i64 n2) ∧ wx.cell? ⟨w.heap.size + 1, 2, none⟩ = some (.float .f64 f2) ∧ wx.cell? ⟨w.heap.size + 1, 3, none⟩ = some (.string s2) ∧ w.heap.size + 1 < wx.heap.size ∧ Below w.heap.size w wx)
          (first
            | (with_reducible exact T3)
            | (with_reducible assumption)
            | (with_reducible exact TwoB.call (W := _) (by assumption) hB2)
            | fail)
          (first
            | (go_at_call 13; (with_reducible refine (H13.out _).mono ?_); rintro e w4 ⟨rfl, hB2⟩)
            | (go_at_call 24; (with_reducible refine (H24.out _).mono ?_); rintro e w4 ⟨rfl, hB2⟩)
            | (go_at_call 25; (with_reducible refine (H25.out _).mono ?_); rintro e w4 ⟨rfl, hB2⟩)
            | fail)
        all_goals
          rename_i hHeld
          go_wp2_with fail
          go_ret
          exact ⟨ret_bool (by simp), TwoB.below hHeld⟩
end Go.Proofs.YtjlpjooaclfnlaaGreatDoor
