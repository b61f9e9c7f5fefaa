/- The walk of the statement ValueReckons. -/
import Derived.Test.YtjlpjooaclfnlaaGreatDoorNegs
import Derived.Test.YtjlpjooaclfnlaaGreatDoorOrders
namespace Go.Proofs.YtjlpjooaclfnlaaGreatDoor
open Go.RowKit

/-- two values and four texts, as they stand -/
@[reducible] def TwoF (w : World) (g : Nat) (op : ByteArray) (wx : World) (k n : Int) (f : Nat) (s : ByteArray) (k2 n2 : Int) (f2 : Nat) (s2 : ByteArray) : Prop :=
  TwoB w wx k n f s k2 n2 f2 s2 ∧ wx.heap[g]? = some (.cells #[.string op, .string ⟨#[43]⟩, .string ⟨#[45]⟩, .string ⟨#[42]⟩] 9 (0, 0))

section
variable {w W w2 : World} {g : Nat} {op : ByteArray} {k n : Int} {f : Nat} {s : ByteArray} {k2 n2 : Int} {f2 : Nat} {s2 : ByteArray}
theorem TwoF.call (h : TwoF w g op W k n f s k2 n2 f2 s2) (hB : Below W.heap.size W w2) : TwoF w g op w2 k n f s k2 n2 f2 s2 :=
  ⟨TwoB.call h.1 hB, (hB.block g (heap_lt h.2)).trans h.2⟩
theorem TwoF.start (h : TwoB w W k n f s k2 n2 f2 s2) : TwoF w W.heap.size op (W.alloc (.cells #[.string op, .string ⟨#[43]⟩, .string ⟨#[45]⟩, .string ⟨#[42]⟩] 9)) k n f s k2 n2 f2 s2 :=
  ⟨TwoB.call h ((Below.refl _ _).alloc (Nat.le_refl _) _), heap_alloc_new _ _⟩
theorem TwoF.at (h : TwoF w g op W k n f s k2 n2 f2 s2) (j : Nat) (hj : j < 4) : ∃ o, W.cell? ⟨g, j, none⟩ = some (.string o) := by
  match j, hj with
  | 0, _ => exact ⟨_, cell_of_row W g 0 _ _ _ h.2⟩
  | 1, _ => exact ⟨_, cell_of_row W g 1 _ _ _ h.2⟩
  | 2, _ => exact ⟨_, cell_of_row W g 2 _ _ _ h.2⟩
  | 3, _ => exact ⟨_, cell_of_row W g 3 _ _ _ h.2⟩
end
/-- the document's answer: the same, but for the bits of what is no number -/
def RetLike (K N : Int) (F : Nat) (w : World) (e : Ending) (w' : World) : Prop := ∃ g, Like F g ∧ e = .returned (vV K N g ⟨#[]⟩) ∧ Below w.heap.size w w'

set_option maxRecDepth 100000 in
set_option maxHeartbeats 8000000 in
theorem reckons_walk (k n : Int) (f : Nat) (s : ByteArray) (k2 n2 : Int) (f2 : Nat) (s2 : ByteArray) (op : ByteArray) (K N : ByteArray → Int) (F : ByteArray → Nat) (KN NN : Int) (FN : Nat) (w : World)
    (h15 : ∀ o W, Calls Tryz.prog 15 #[.string o, vV k n f s, vV k2 n2 f2 s2] W (RetV (vV (K o) (N o) (F o) ⟨#[]⟩) W)) (h29 : ∀ o W, Calls Tryz.prog 29 #[.string o, vV k n f s, vV k2 n2 f2 s2] W (RetLike (K o) (N o) (F o) W))
    (h30 : ∀ W, Calls Tryz.prog 30 #[vV k n f s] W (RetV (vV KN NN FN ⟨#[]⟩) W)) (h31 : ∀ W, Calls Tryz.prog 31 #[vV k n f s] W (RetLike KN NN FN W)) :
    Calls Tryz.prog 8 #[vV k n f s, vV k2 n2 f2 s2, .string op] w (RetT w) := by
  have sf := store_float
  have H15 := Lib.hid h15
  have H29 := Lib.hid h29
  have H30 := Lib.hid h30
  have H31 := Lib.hid h31
  clear h15 h29 h30 h31
  have HT := Lib.hid (TwoB.at (Two.start w (.int .i64 k) (.int .i64 n) (.float .f64 f) (.string s) (.int .i64 k2) (.int .i64 n2) (.float .f64 f2) (.string s2)))
  go_enter Tryz.func8, Tryz.ntmps8
  go_wp2_with (first
    | (go_at_call 11; (with_reducible refine (lives_any _).mono ?_); rintro e w2 ⟨rfl, hB⟩; (first | (with_reducible have T1 := TwoB.call T2 hB) | (with_reducible have T1 := TwoB.call HT.out hB)); obtain ⟨a0, a1, a2, a3, b0, b1, b2, b3, hl, hbb⟩ := id T1; clear hB)
    | (go_at_call 12; (with_reducible refine (short_any _ _ _ _ (vals2 _ _ _ _ _ _ _ _ _ _) (by decide)).mono ?_); rintro e w2 ⟨⟨b, rfl⟩, hB⟩; have T2 := TwoB.call T1 (below_made hB); clear hB a0 a1 a2 a3 b0 b1 b2 b3 hl hbb; cases b)
    | fail)
  · go_ret
    exact ⟨rfl, TwoB.below T1⟩
  · have TL := TwoF.start (op := op) T2
    obtain ⟨g, hg⟩ : ∃ g, g = w2.heap.size := ⟨_, rfl⟩
    rw [← hg] at TL
    go_loopw [22] (fun i wr => ∃ j : Nat, j ≤ 4 ∧ i = .int .i64 j ∧ TwoF w w2.heap.size op wr k n f s k2 n2 f2 s2) (fun i _ => 4 - (intOf i).toNat)
    case atStart => exact ⟨0, Nat.zero_le _, rfl, hg ▸ TL⟩
    case round =>
      obtain ⟨j, hj, rfl, hTL⟩ := hrel
      obtain ⟨wo, rfl⟩ : ∃ wo : World, wo = wr := ⟨_, rfl⟩
      clear T1 T2 TL hg
      have HTL := Lib.hid hTL
      obtain ⟨a0, a1, a2, a3, b0, b1, b2, b3, hl, hbb⟩ := id hTL.1
      by_cases hlt : j < 4
      · obtain ⟨o, co⟩ := TwoF.at hTL j hlt
        clear hTL
        have T3 := TwoF.call HTL.out (Below.refl _ _).drew
        go_wp2_with fail
        go_region_held3 (fun wx => (wx.cell? ⟨w.heap.size, 0, none⟩ = some (.int .i64 k) ∧ wx.cell? ⟨w.heap.size, 1, none⟩ = some (.int .i64 n) ∧ wx.cell? ⟨w.heap.size, 2, none⟩ = some (.float .f64 f) ∧ wx.cell? ⟨w.heap.size, 3, none⟩ = some (.string s) ∧ wx.cell? ⟨w.heap.size + 1, 0, none⟩ = some (.int .i64 k2) ∧ wx.cell? ⟨w.heap.size + 1, 1, none⟩ = some (.int .i64 n2) ∧ wx.cell? ⟨w.heap.size + 1, 2, none⟩ = some (.float .f64 f2) ∧ wx.cell? ⟨w.heap.size + 1, 3, none⟩ = some (.string s2) ∧ w.heap.size + 1 < wx.heap.size ∧ Below w.heap.size w wx) ∧ wx.heap[w2.heap.size]? = some (.cells #[.string op, .string ⟨#[43]⟩, .string ⟨#[45]⟩, .string ⟨#[42]⟩] 9 (0, 0)))
          (first
            | (with_reducible exact T3)
            | (with_reducible assumption)
            | (with_reducible exact TwoF.call (W := _) (by assumption) hB2)
            | fail)
          (first
            | (go_at_call 15; (with_reducible refine (H15.out _ _).mono ?_); rintro e w4 ⟨rfl, hB2⟩)
            | (go_at_call 29; (with_reducible refine (H29.out _ _).mono ?_); rintro e w4 ⟨g, hg, rfl, hB2⟩)
            | (go_at_call 17; (with_reducible refine (exact_like _ _ _ _ _ _ ?_).mono ?_); (with_reducible assumption); rintro e w4 ⟨rfl, hB2⟩)
            | fail)
        all_goals
          rename_i hHeld
          go_wp2_with fail
          go_roundw
          case rel => exact ⟨j + 1, by omega, by go_num, hHeld⟩
          case measure => simp [intOf]; omega
      · clear hTL
        have T3 := TwoB.call HTL.out.1 (Below.refl _ _).drew
        go_wp2_with fail
        go_region_held3 (fun wx => wx.cell? ⟨w.heap.size, 0, none⟩ = some (.int .i64 k) ∧ wx.cell? ⟨w.heap.size, 1, none⟩ = some (.int .i64 n) ∧ wx.cell? ⟨w.heap.size, 2, none⟩ = some (.float .f64 f) ∧ wx.cell? ⟨w.heap.size, 3, none⟩ = some (.string s) ∧ wx.cell? ⟨w.heap.size + 1, 0, none⟩ = some (.int .i64 k2) ∧ wx.cell? ⟨w.heap.size + 1, 1, none⟩ = some (.int .i64 n2) ∧ wx.cell? ⟨w.heap.size + 1, 2, none⟩ = some (.float .f64 f2) ∧ wx.cell? ⟨w.heap.size + 1, 3, none⟩ = some (.string s2) ∧ w.heap.size + 1 < wx.heap.size ∧ Below w.heap.size w wx)
          (first
            | (with_reducible exact T3)
            | (with_reducible assumption)
            | (with_reducible exact TwoB.call (W := _) (by assumption) hB2)
            | fail)
          (first
            | (go_at_call 30; (with_reducible refine (H30.out _).mono ?_); rintro e w4 ⟨rfl, hB2⟩)
            | (go_at_call 31; (with_reducible refine (H31.out _).mono ?_); rintro e w4 ⟨g, hg, rfl, hB2⟩)
            | (go_at_call 17; (with_reducible refine (exact_like _ _ _ _ _ _ ?_).mono ?_); (with_reducible assumption); rintro e w4 ⟨rfl, hB2⟩)
            | fail)
        all_goals
          rename_i hHeld
          go_wp2_with fail
          go_ret
          exact ⟨ret_bool (by simp), TwoB.below hHeld⟩
end Go.Proofs.YtjlpjooaclfnlaaGreatDoor
