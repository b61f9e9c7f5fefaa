/- The walk of the document's Write: any value. -/
import Derived.Test.YtoafiombpokpaaaGreatDoorRwrT
namespace Go.Proofs.YtoafiombpokpaaaGreatDoor
open Go.RowKit

set_option maxRecDepth 100000 in
set_option maxHeartbeats 4000000 in
theorem rwr_any (k n : Int) (f : Nat) (s : ByteArray) (sf : List UInt8) (w0 : World) (H : WrH w0 f s n sf) (w : World) (hw : Below w0.heap.size w0 w) : Calls Tryz.prog 7 #[vV k n f s] w (WrO k n f s sf w) := by
  by_cases h2 : k = 2
  · subst h2; exact rwr_fl n f s sf w0 H w hw
  by_cases h3 : k = 3
  · subst h3; exact rwr_tx n f s sf w0 H w hw
  have stf := store_float
  have HC := Lib.hid (show ∀ w, Calls Tryz.prog 17 #[vV k n f s] w (RetV (vV (clK k) (clN k n) 0 ⟨#[]⟩) w) from fun w => by
    have h := rclean_any k n f s w
    rw [show rclV k n f s = vV (clK k) (clN k n) 0 ⟨#[]⟩ by unfold rclV rclF clS; rw [if_neg h2, if_neg h3]] at h
    exact h)
  have hB1 := Lib.hid (below1 w (.cells #[.int .i64 k, .int .i64 n, .float .f64 f, .string s] 24))
  have HQ := Lib.hid (heap_alloc_new w (.cells #[.int .i64 k, .int .i64 n, .float .f64 f, .string s] 24))
  go_enter Tryz.func7, Tryz.ntmps7
  go_upto_region 2 with (first
    | (go_at_call 17; (with_reducible refine (HC.out _).mono ?_); rintro e1 w2 ⟨rfl, hb2⟩; obtain ⟨⟨d0, d1, d2, d3⟩, ⟨f0, f1, f2, f3⟩, l0⟩ := result_kept HQ.out hb2)
    | fail)
  obtain ⟨w3, hw3⟩ : ∃ W, W = ((((w2.setCell ⟨w.heap.size, 0, none⟩ (Value.int IntKind.i64 (clK k))).setCell ⟨w.heap.size, 1, none⟩ (Value.int IntKind.i64 (clN k n))).setCell ⟨w.heap.size, 2, none⟩ (Value.float FloatKind.f64 0)).setCell ⟨w.heap.size, 3, none⟩ (Value.string ⟨#[]⟩)) := ⟨_, rfl⟩
  rw [← hw3]
  have q3 : w3.heap[w.heap.size]? = some (.cells #[.int .i64 (clK k), .int .i64 (clN k n), .float .f64 0, .string ⟨#[]⟩] 24) := by
    rw [hw3]; exact set_four _ _ _ _ ((hb2.block _ (heap_lt HQ.out)).trans HQ.out)
  have hb3 : Below w.heap.size w w3 := by
    rw [hw3]
    exact ((((hB1.out.trans (hb2.mono hB1.out.size)).setCell (Nat.le_refl _) _).setCell (Nat.le_refl _) _).setCell (Nat.le_refl _) _).setCell (Nat.le_refl _) _
  clear hw3 hb2 d0 d1 d2 d3 f0 f1 f2 f3 l0 HQ HC hB1
  have c0 := cell_of_row w3 _ 0 _ _ _ q3
  have c1 := cell_of_row w3 _ 1 _ _ _ q3
  have hw3 : Below w0.heap.size w0 w3 := hw.trans (hb3.mono hw.size)
  clear q3
  by_cases h1 : k = 1
  · subst h1
    replace c0 : w3.cell? ⟨w.heap.size, 0, none⟩ = some (.int .i64 1) := c0
    replace c1 : w3.cell? ⟨w.heap.size, 1, none⟩ = some (.int .i64 n) := c1
    have HF := Lib.hid (fi_any n H.n0 H.n1 w0 H.tab w3 hw3)
    have HR := Lib.hid (show wrT 1 n f s sf = Lib.itoa n from rfl)
    clear hw3
    go_wp2_with (first
      | (go_at_call 14; (with_reducible refine HF.out.mono ?_); rintro e1 w4 ⟨rfl, hb4⟩)
      | fail)
    go_ret
    exact ⟨by rw [HR.out]; rfl, hb3.trans (hb4.mono hb3.size)⟩
  · by_cases h4 : k = 4
    · subst h4
      replace c0 : w3.cell? ⟨w.heap.size, 0, none⟩ = some (.int .i64 4) := c0
      by_cases hn : n = 0
      · subst hn
        replace c1 : w3.cell? ⟨w.heap.size, 1, none⟩ = some (.int .i64 0) := c1
        have HR := Lib.hid (show wrT 4 0 f s sf = falseT from rfl)
        clear hw3
        go_wp2_with fail
        go_ret
        exact ⟨by rw [HR.out]; rfl, hb3⟩
      · have e : clN 4 n = 1 := by unfold clN; simp [hn]
        rw [e] at c1
        replace c1 : w3.cell? ⟨w.heap.size, 1, none⟩ = some (.int .i64 1) := c1
        have HR := Lib.hid (show wrT 4 n f s sf = trueT by unfold wrT; simp [hn])
        clear hw3 e
        go_wp2_with fail
        go_ret
        exact ⟨by rw [HR.out]; rfl, hb3⟩
    · have e : clK k = 0 := by unfold clK; rw [if_neg (by omega)]
      rw [e] at c0
      replace c0 : w3.cell? ⟨w.heap.size, 0, none⟩ = some (.int .i64 0) := c0
      have HR := Lib.hid (show wrT k n f s sf = nullT by unfold wrT; rw [if_neg h1, if_neg h2, if_neg h3, if_neg h4])
      clear c1 hw3 e
      go_wp2_with fail
      go_ret
      exact ⟨by rw [HR.out]; rfl, hb3⟩
end Go.Proofs.YtoafiombpokpaaaGreatDoor
