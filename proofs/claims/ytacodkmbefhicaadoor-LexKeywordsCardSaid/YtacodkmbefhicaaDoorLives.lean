/- The walk of lives. -/
import Derived.Test.YtacodkmbefhicaaDoorLex
namespace Go.Proofs.YtacodkmbefhicaaDoor
open Go.RowKit

theorem lex_cells {w : World} {base n : Nat} {v : Value} {xs : List Value} (h : w.ownsRow base 36 3 v n xs) (hn : 0 < n) : ∃ g cap, v = .slice (some ⟨g, 0, none⟩) n cap ∧ g < w.heap.size ∧ ∀ j u, xs[j]? = some u → w.cell? ⟨g, j, none⟩ = some u := by
  rcases h.2 with ⟨_, h0⟩ | ⟨g, cap, cur, rfl, _, hh, _, _, _, ht⟩
  · omega
  · refine ⟨g, cap, rfl, heap_lt hh, fun j u hj => ?_⟩
    rw [cell_of_row w g j _ _ _ hh]
    rw [← ht] at hj
    have := (List.getElem?_eq_some_iff.1 hj).1
    rw [List.getElem?_take_of_lt (by simp at this; omega)] at hj
    simpa using hj
set_option maxRecDepth 100000 in
set_option maxHeartbeats 8000000 in
theorem lives_any (m : Int) (w : World) (hm : w.cell? ⟨0, 0, none⟩ = some (.int .i64 m)) : Calls Tryd.prog 4 #[] w (RetT w) := by
  have HL := Lib.hid (show ∀ W, W.cell? ⟨0, 0, none⟩ = some (.int .i64 m) → Calls Tryd.prog 8 #[.string ⟨#[97, 60, 61, 49]⟩, .int .i64 9] W (LexP W) from fun W h => lex_any m W h)
  have HM := Lib.hid hm
  clear hm
  go_enter Tryd.func4, Tryd.ntmps4
  go_wp2_with (first
    | (go_at_call 8
       (with_reducible refine (HL.out _ HM.out).mono ?_)
       rintro e w2 ⟨v, rfl, ho, hB⟩
       obtain ⟨g, cap, rfl, hg, hc⟩ := lex_cells ho (by decide)
       have HB := Lib.hid hB
       have k3 := hc 3 _ rfl
       have k4 := hc 4 _ rfl
       have k5 := hc 5 _ rfl
       have k9 := hc 9 _ rfl
       have k10 := hc 10 _ rfl
       have k11 := hc 11 _ rfl
       clear ho hB hc)
    | fail)
  go_ret
  exact ⟨rfl, HB.out⟩
end Go.Proofs.YtacodkmbefhicaaDoor
