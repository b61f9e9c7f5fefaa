/- Floats of which the language fixes no bits: what the walk takes. -/
import Derived.Test.YtjlpjooaclfnlaaGreatDoorCompare
import Derived.Test.YtjlpjooaclfnlaaGreatDoorPlain7
namespace Go.Proofs.YtjlpjooaclfnlaaGreatDoor
open Go.RowKit

/-- the word of a number that is none, as the tape picks it -/
def nanCut (t : Nat) : Nat := (t % 2) * 2 ^ 63 + 0x7ff0000000000000 + 1 + (t / 2) % (2 ^ 52 - 1)
theorem nanCut_nan (t : Nat) : feq (nanCut t) (nanCut t) = false := by
  cases h : feq (nanCut t) (nanCut t)
  · rfl
  · have hn := (feq_num _).1 h
    exfalso
    have hw : (nanCut t) % 9223372036854775808 = 9218868437227405312 + 1 + (t / 2) % 4503599627370495 := by
      unfold nanCut
      have := Nat.mod_lt (t / 2) (show 4503599627370495 > 0 by decide)
      have h2 := Nat.mod_lt t (show 2 > 0 by decide)
      generalize t % 2 = a at *
      generalize t / 2 % (2 ^ 52 - 1) = m at *
      omega
    have hr : Ieee.double.read (nanCut t) = .nan (nanCut t / 9223372036854775808 % 2 == 1) (nanCut t % 9223372036854775808 - 9218868437227405312) := by
      unfold Ieee.Format.read
      have e1 : Ieee.double.signWeight = 9223372036854775808 := by decide
      have e2 : Ieee.double.binade = 4503599627370496 := by decide
      have e3 : Ieee.double.infRung = 9218868437227405312 := by decide
      simp only [e1, e2, e3]
      rw [if_neg (by omega), if_neg (by omega), if_neg (by omega)]
    exact hn _ _ hr
theorem run_float_nan (op : BinOp) (hop : op = .add ∨ op = .sub ∨ op = .mul) (x y : Nat) (h : floatBits op .f64 x y = none) (w : World) :
    (binOp op 22 (.float .f64 x) (.float .f64 y)).run Tryz.prog w = .ok (.float .f64 (nanCut (w.tape w.drawn (.nanBits .f64 x y)))) w.drew := by
  unfold floatBits at h
  rcases hop with rfl | rfl | rfl
  all_goals
    simp only at h
    simp [binOp, Op.floatArith, h, Question.forced, Question.cut, nanCut]
end Go.Proofs.YtjlpjooaclfnlaaGreatDoor
