/- The walks of the document's size, whole, Add. -/
import Derived.Test.YtjlpjooaclfnlaaGreatDoorArith
namespace Go.Proofs.YtjlpjooaclfnlaaGreatDoor
open Go.RowKit

theorem ret_u64 {a b : Int} (h : a = b) : Ending.returned (.int .u64 a) = .returned (.int .u64 b) := by rw [h]
/-- how far a number is from nought -/
def szZ (n : Int) : Int := if n < 0 then -n else n
theorem szZ_bd (n : Int) (h : In64 n) : 0 ≤ szZ n ∧ szZ n ≤ 9223372036854775808 := by
  unfold In64 at h; unfold szZ; split <;> omega
/-- a number, if it fits -/
def fitO (m : Int) : Option Int := if fit64 m = true then some m else none
theorem fitO_yes {m : Int} (h : In64 m) : fitO m = some m := by unfold fitO; rw [if_pos (fit64_in.2 h)]
theorem fitO_no {m : Int} (h : ¬ In64 m) : fitO m = none := by unfold fitO; rw [if_neg (fun g => h (fit64_in.1 g))]

set_option maxRecDepth 100000 in
set_option maxHeartbeats 1000000 in
theorem size_any (n : Int) (w : World) (h : In64 n) : Calls Tryz.prog 64 #[.int .i64 n] w fun e w' => e = .returned (.int .u64 (szZ n)) ∧ w = w' := by
  unfold In64 at h
  go_enter Tryz.func64, Tryz.ntmps64
  go_wp2
  · go_ret
    exact ⟨ret_u64 (by unfold szZ; split <;> omega), rfl⟩
  · go_ret
    exact ⟨ret_u64 (by unfold szZ; split <;> omega), rfl⟩

set_option maxRecDepth 100000 in
set_option maxHeartbeats 1000000 in
theorem whole_r (b : Bool) (n : Int) (h : 0 ≤ n ∧ n ≤ 18446744073709551615) (w : World) : Calls Tryz.prog 65 #[.bool b, .int .u64 n] w (WholeP (fitO (if b = true then -n else n)) w) := by
  cases b
  all_goals
    go_enter Tryz.func65, Tryz.ntmps65
    go_wp2
  all_goals
    go_ret2
    refine ⟨⟨_, _, rfl, ?_⟩, rfl⟩
    simp only [decide_eq_true_eq]
    split
    · exact (fitO_yes (by unfold In64; omega)).trans (congrArg some (by first | rfl | omega | (unfold wrap64; omega)))
    · exact fitO_no (by unfold In64; omega)
set_option maxRecDepth 100000 in
set_option maxHeartbeats 4000000 in
theorem radd_any (a b : Int) (w : World) (ha : In64 a) (hb : In64 b) : Calls Tryz.prog 50 #[.int .i64 a, .int .i64 b] w (WholeP (fitO (a + b)) w) := by
  have HA := Lib.hid (fun W => size_any a W ha)
  have HB := Lib.hid (fun W => size_any b W hb)
  obtain ⟨x0, x1⟩ := szZ_bd a ha
  obtain ⟨y0, y1⟩ := szZ_bd b hb
  have da : (decide (a < 0) = true ∧ a < 0) ∨ (decide (a < 0) = false ∧ 0 ≤ a) := by
    by_cases h : a < 0
    · exact .inl ⟨decide_eq_true h, h⟩
    · exact .inr ⟨decide_eq_false h, by omega⟩
  have db : (decide (b < 0) = true ∧ b < 0) ∨ (decide (b < 0) = false ∧ 0 ≤ b) := by
    by_cases h : b < 0
    · exact .inl ⟨decide_eq_true h, h⟩
    · exact .inr ⟨decide_eq_false h, by omega⟩
  rcases da with ⟨da, h1⟩ | ⟨da, h1⟩ <;> rcases db with ⟨db, h2⟩ | ⟨db, h2⟩
  all_goals
    go_enter Tryz.func50, Tryz.ntmps50
    go_wp2_with (first
      | (go_at_call 64; (with_reducible refine (HA.out _).mono ?_); rintro e w' ⟨rfl, rfl⟩)
      | (go_at_call 64; (with_reducible refine (HB.out _).mono ?_); rintro e w' ⟨rfl, rfl⟩)
      | (go_at_call 65; (with_reducible refine (whole_r _ _ ?_ _).mono ?_); (· omega); rintro e w2 ⟨⟨n, ok, rfl, ho⟩, rfl⟩; have HO := Lib.hid ho; clear ho)
      | fail)
  all_goals
    go_ret2
    first
      | (refine ⟨⟨_, _, rfl, Eq.trans ?_ HO.out⟩, rfl⟩; simp only [if_true, Bool.false_eq_true, if_false]; congr 1; unfold szZ at *; (repeat' split) <;> omega)
      | (refine ⟨⟨_, _, rfl, ?_⟩, rfl⟩; exact fitO_no (by unfold In64; unfold szZ at *; (repeat' split at *) <;> omega))
end Go.Proofs.YtjlpjooaclfnlaaGreatDoor
