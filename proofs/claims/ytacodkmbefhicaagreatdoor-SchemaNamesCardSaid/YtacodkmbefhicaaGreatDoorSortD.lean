/- The walk of slices.SortStableFunc of at most nineteen tables. -/
import Derived.Test.YtacodkmbefhicaaGreatDoorSortC
namespace Go.Proofs.YtacodkmbefhicaaGreatDoor
open Go.RowKit

def sortT (l : List Tab) : List Tab := isortT (l.length - 1) 1 l
def SortedP (w : World) (g n : Nat) (l : List Tab) (e : Ending) (w' : World) : Prop := e = .returned (.tuple #[]) ∧ SortW w g n l w'
set_option maxRecDepth 100000 in
set_option maxHeartbeats 4000000 in
theorem stable_any (g cap n : Nat) (l : List Tab) (w : World) (hn : n ≤ 19) (h : RowT w g l) (hl : l.length = n) (hc : n ≤ cap) :
    Calls Tryz.prog 28 #[.slice (some ⟨g, 0, none⟩) n cap, .int .i64 n, .func (.func 15) #[] #[]] w (SortedP w g n (sortT l)) := by
  have HI := Lib.hid (insertion_any g cap n l w (by omega) h hl hc)
  rw [← show sortT l = isortT (n - 1) 1 l by unfold sortT; rw [hl]] at HI
  generalize sortT l = R at HI ⊢
  have h20 : ((20 : Int) ≤ (n : Int)) = False := eq_false (by omega)
  have h20b : ((20 : Int) < (n : Int)) = False := eq_false (by omega)
  clear h hl
  go_enter Tryz.func28, Tryz.ntmps28
  go_wp2_with fail
  go_loop [7, 8] (fun a b => a = .int .i64 0 ∧ b = .int .i64 20) (fun _ _ => 0)
  case atStart => exact ⟨rfl, rfl⟩
  case round =>
    obtain ⟨rfl, rfl⟩ := hrel
    go_wp2_with (first
      | (go_at_call 43; (with_reducible refine HI.out.mono ?_); rintro e w5 ⟨rfl, hS⟩; have HS := Lib.hid hS; clear hS)
      | fail)
    go_loop [6] (fun a => a = .int .i64 20) (fun _ => 0)
    case atStart => rfl
    case round =>
      subst hrel
      go_wp2_with fail
      go_end0
      exact ⟨rfl, HS.out⟩
set_option maxRecDepth 100000 in
theorem sort_any (g cap n : Nat) (l : List Tab) (w : World) (hn : n ≤ 19) (h : RowT w g l) (hl : l.length = n) (hc : n ≤ cap) :
    Calls Tryz.prog 14 #[.slice (some ⟨g, 0, none⟩) n cap, .func (.func 15) #[] #[]] w (SortedP w g n (sortT l)) := by
  have HI := Lib.hid (stable_any g cap n l w hn h hl hc)
  clear h hl
  go_enter Tryz.func14, Tryz.ntmps14
  go_wp2_with (first
    | (go_at_call 28; (with_reducible refine HI.out.mono ?_); rintro e w5 ⟨rfl, hS⟩; have HS := Lib.hid hS; clear hS)
    | fail)
  go_end0
  exact ⟨rfl, HS.out⟩
end Go.Proofs.YtacodkmbefhicaaGreatDoor
