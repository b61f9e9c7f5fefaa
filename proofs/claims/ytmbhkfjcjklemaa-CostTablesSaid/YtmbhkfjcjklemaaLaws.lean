/- The walks of the statements about costs. -/
import Derived.Test.YtmbhkfjcjklemaaWalks
namespace Go.Proofs.Ytmbhkfjcjklemaa
open Go.RowKit

set_option maxHeartbeats 1000000 in
theorem sums_any (a b c : Int) (w : World) : Calls Try.prog 3 #[.int .i64 a, .int .i64 b, .int .i64 c] w (RetT w) := by
  go_enter Try.func3, Try.ntmps3
  go_wp2_with (first
    | (go_at_call 8; (with_reducible refine (lives_any _).mono ?_); rintro e w' ⟨rfl, hB⟩)
    | (go_at_call 9; (with_reducible refine (fit_any _ _).mono ?_); rintro e w' ⟨rfl, rfl, _, _⟩)
    | (go_at_call 10; (with_reducible refine (rfit_any _ _).mono ?_); rintro e w' ⟨rfl, rfl, _, _⟩)
    | (go_at_call 11; (with_reducible refine (add0_any _).mono ?_); rintro e w' ⟨rfl, rfl, _, _⟩)
    | (go_at_call 11; (with_reducible refine (add3_at _ _ _ _).mono ?_); rintro e w' ⟨rfl, rfl, _, _⟩)
    | (go_at_call 12; (with_reducible refine (radd_any _ _ _).mono ?_); rintro e w' ⟨rfl, rfl, _, _⟩)
    | (go_at_call 13; (with_reducible refine (mul_any _ _ _).mono ?_); rintro e w' ⟨rfl, rfl, _, _⟩)
    | (go_at_call 14; (with_reducible refine (rmul_any _ _ _).mono ?_); rintro e w' ⟨rfl, rfl, _, _⟩))
  go_ret
  have hs := hB.size
  exact ⟨rfl, by go_grown⟩

set_option maxHeartbeats 1000000 in
theorem tables_any (r c : Int) (w : World) : Calls Try.prog 4 #[.int .i64 r, .int .i64 c] w (RetT w) := by
  go_enter Try.func4, Try.ntmps4
  go_wp2_with (first
    | (go_at_call 8; (with_reducible refine (lives_any _).mono ?_); rintro e w' ⟨rfl, hB⟩)
    | (go_at_call 15; (with_reducible refine (pages_any _ _ _).mono ?_); rintro e w' ⟨rfl, _, _, hB1⟩)
    | (go_at_call 16; (with_reducible refine (rpages_any _ _ _).mono ?_); rintro e w' ⟨rfl, rfl, _, _⟩)
    | (go_at_call 17; (with_reducible refine (seq_any _ _ _).mono ?_); rintro e w' ⟨rfl, _, _, hB2⟩)
    | (go_at_call 18; (with_reducible refine (rseq_any _ _ _).mono ?_); rintro e w' ⟨rfl, rfl, _, _⟩))
  go_ret
  have hs := hB.size
  have hs1 := hB1.size
  exact ⟨rfl, (hB.trans (hB1.mono hs)).trans (hB2.mono (by omega))⟩

set_option maxHeartbeats 1000000 in
theorem parts_any (n t : Int) (w : World) : Calls Try.prog 5 #[.int .i64 n, .int .i64 t] w (RetT w) := by
  go_enter Try.func5, Try.ntmps5
  go_wp2_with (first
    | (go_at_call 8; (with_reducible refine (lives_any _).mono ?_); rintro e w' ⟨rfl, hB⟩)
    | (go_at_call 19; (with_reducible refine (part_any _ _ _).mono ?_); rintro e w' ⟨rfl, rfl, _, _⟩)
    | (go_at_call 20; (with_reducible refine (rpart_any _ _ _).mono ?_); rintro e w' ⟨rfl, rfl, _, _⟩)
    | (go_at_call 21; (with_reducible refine (bits_any _ _).mono ?_); rintro e w' ⟨rfl, rfl, _, _⟩)
    | (go_at_call 22; (with_reducible refine (rbits_any _ _).mono ?_); rintro e w' ⟨rfl, rfl, _, _⟩))
  go_ret
  exact ⟨rfl, hB⟩

set_option maxHeartbeats 1000000 in
theorem plans_any (a b c : Int) (w : World) : Calls Try.prog 6 #[.int .i64 a, .int .i64 b, .int .i64 c] w (RetT w) := by
  go_enter Try.func6, Try.ntmps6
  go_wp2_with (first
    | (go_at_call 8; (with_reducible refine (lives_any _).mono ?_); rintro e w' ⟨rfl, hB⟩)
    | (go_at_call 23; (with_reducible refine (loop_any _ _ _ _).mono ?_); rintro e w' ⟨rfl, _, _, hB1⟩)
    | (go_at_call 24; (with_reducible refine (rloop_any _ _ _ _).mono ?_); rintro e w' ⟨rfl, rfl, _, _⟩)
    | (go_at_call 25; (with_reducible refine (look_any _ _ _ _).mono ?_); rintro e w' ⟨rfl, _, _, hB2⟩)
    | (go_at_call 26; (with_reducible refine (rlook_any _ _ _ _).mono ?_); rintro e w' ⟨rfl, rfl, _, _⟩)
    | (go_at_call 27; (with_reducible refine (sort_any _ _ _).mono ?_); rintro e w' ⟨rfl, _, _, hB3⟩)
    | (go_at_call 28; (with_reducible refine (rsort_any _ _ _).mono ?_); rintro e w' ⟨rfl, rfl, _, _⟩)
    | (go_at_call 29; (with_reducible refine (range_any _ _).mono ?_); rintro e w' ⟨rfl, _, _, hB4⟩)
    | (go_at_call 30; (with_reducible refine (rrange_any _ _).mono ?_); rintro e w' ⟨rfl, rfl, _, _⟩))
  go_ret
  have hs := hB.size
  have hs1 := hB1.size
  have hs2 := hB2.size
  have hs3 := hB3.size
  exact ⟨rfl, (((hB.trans (hB1.mono hs)).trans (hB2.mono (by omega))).trans (hB3.mono (by omega))).trans (hB4.mono (by omega))⟩

end Go.Proofs.Ytmbhkfjcjklemaa
