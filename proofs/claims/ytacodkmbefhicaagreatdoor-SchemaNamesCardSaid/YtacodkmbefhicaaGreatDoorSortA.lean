/- The walks of cmp.Compare at texts, of the order of tables. -/
import Derived.Test.YtacodkmbefhicaaGreatDoorCloneC
import Derived.Laws.Cover1
namespace Go.Proofs.YtacodkmbefhicaaGreatDoor
open Go.RowKit

set_option maxHeartbeats 2000000 in
theorem isnan_any (s : ByteArray) (w : World) : Calls Tryz.prog 29 #[.string s] w (SameV (.bool false) w) := by
  go_enter Tryz.func29, Tryz.ntmps29
  go_wp2_with fail
  go_ret
  exact ⟨ret_b (by simp), rfl⟩
/-- does a text come ahead of another one? -/
def ltN (a b : ByteArray) : Bool := Op.bytesLess a.toList b.toList
/-- what a comparison answers: below 0, if the first comes ahead -/
def cmpN (a b : ByteArray) : Int := if ltN a b then -1 else if sameN a b then 0 else 1
theorem cmpN_neg (a b : ByteArray) : decide (cmpN a b < 0) = ltN a b := by
  unfold cmpN
  cases ltN a b <;> cases sameN a b <;> rfl
set_option maxHeartbeats 2000000 in
theorem compare_any (x y : ByteArray) (w : World) : Calls Tryz.prog 16 #[.string x, .string y] w (SameV (.int .i64 (cmpN x y)) w) := by
  have HN := Lib.hid isnan_any
  obtain ⟨r, hr⟩ : ∃ r, r = cmpN x y := ⟨_, rfl⟩
  rw [← hr]
  have HR := Lib.hid hr
  clear hr
  cases h1 : Op.bytesLess x.toList y.toList with
  | true =>
    have HE := Lib.hid (show r = -1 by rw [HR.out]; unfold cmpN ltN; rw [h1]; rfl)
    go_enter Tryz.func16, Tryz.ntmps16
    go_wp2_with (first
      | (go_at_call 29; (with_reducible refine (HN.out _ _).mono ?_); rintro e w2 ⟨rfl, rfl⟩)
      | fail)
    go_ret
    exact ⟨by rw [HE.out]; rfl, rfl⟩
  | false =>
    cases h2 : (x.toList == y.toList) with
    | true =>
      have HE := Lib.hid (show r = 0 by rw [HR.out]; unfold cmpN ltN sameN; rw [h1, h2]; rfl)
      go_enter Tryz.func16, Tryz.ntmps16
      go_wp2_with (first
        | (go_at_call 29; (with_reducible refine (HN.out _ _).mono ?_); rintro e w2 ⟨rfl, rfl⟩)
        | fail)
      go_ret
      exact ⟨by rw [HE.out]; rfl, rfl⟩
    | false =>
      have HE := Lib.hid (show r = 1 by rw [HR.out]; unfold cmpN ltN sameN; rw [h1, h2]; rfl)
      go_enter Tryz.func16, Tryz.ntmps16
      go_wp2_with (first
        | (go_at_call 29; (with_reducible refine (HN.out _ _).mono ?_); rintro e w2 ⟨rfl, rfl⟩)
        | fail)
      go_ret
      exact ⟨by rw [HE.out]; rfl, rfl⟩
set_option maxRecDepth 100000 in
set_option maxHeartbeats 4000000 in
theorem order_tab (t u : Tab) (W : World) : Calls Tryz.prog 15 (#[.agg (tabL t).toArray, .agg (tabL u).toArray] ++ #[]) W (RetV (.int .i64 (cmpN t.name u.name)) W) := by
  obtain ⟨tn, ta, tl, tc, tr, tx, ts⟩ := t
  obtain ⟨un, ua, ul, uc, ur, ux, us⟩ := u
  show Calls Tryz.prog 15 #[.agg #[.string tn, .slice ta tl tc, .int .i64 tr, .int .i64 tx, .int .i64 ts], .agg #[.string un, .slice ua ul uc, .int .i64 ur, .int .i64 ux, .int .i64 us]] W (RetV (.int .i64 (cmpN tn un)) W)
  have HC := Lib.hid (compare_any tn un)
  have HB := Lib.hid (show Below W.heap.size W ((W.alloc (.cells #[.string tn, .slice ta tl tc, .int .i64 tr, .int .i64 tx, .int .i64 ts] 35)).alloc (.cells #[.string un, .slice ua ul uc, .int .i64 ur, .int .i64 ux, .int .i64 us] 35)) from (below1 W _).alloc (by simp) _)
  go_enter Tryz.func15, Tryz.ntmps15
  go_wp2_with (first
    | (go_at_call 16; (with_reducible refine (HC.out _).mono ?_); rintro e w2 ⟨rfl, rfl⟩)
    | fail)
  go_ret
  exact ⟨rfl, HB.out⟩
end Go.Proofs.YtacodkmbefhicaaGreatDoor
