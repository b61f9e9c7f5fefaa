
/- The walks of package value: truths. -/
import Derived.Test.YtoafiombpokpaaaGreatDoorBase
import Derived.WalkKit
import Derived.WalkSpells
import Derived.WalkLawsBesides
import Derived.Handy
import Derived.Lib.Hide
import Derived.Deep.QuietTactic
import Derived.BigQuiet
import Derived.Deep.RegionHeld3
import Derived.Deep.DeepCutAuto
namespace Go.Proofs.YtoafiombpokpaaaGreatDoor
open Go.RowKit

theorem ret_i64 {a b : Int} (h : a = b) : Ending.returned (.int .i64 a) = .returned (.int .i64 b) := by rw [h]

/-- a value as a truth: 1 yes, 0 no, -1 unknown -/
def truthZ (k n : Int) : Int := if k = 4 then (if n = 0 then 0 else 1) else -1
theorem truthZ_bd (k n : Int) : -1 ≤ truthZ k n ∧ truthZ k n ≤ 1 := by unfold truthZ; split <;> (try split) <;> omega

/-- a store of a float, as the walk meets it: the kit's laws have it for every other kind -/
theorem store_float (w : World) (a : Addr) (m : Mode) (k : FloatKind) (b : Nat) : (store a (.float k b) m).run Tryz.prog w = stored Tryz.prog w a (.float k b) m := run_store Tryz.prog w a _ m rfl

/-- a truth as a number -/
def bZ (x : Bool) : Int := if x then 1 else 0
/-- a truth as a value; null; a whole number -/
@[reducible] def boolV (x : Bool) : Value := .agg #[.int .i64 4, .int .i64 (bZ x), .float .f64 0, .string ⟨#[]⟩]
@[reducible] def nullV : Value := .agg #[.int .i64 0, .int .i64 0, .float .f64 0, .string ⟨#[]⟩]
@[reducible] def intV (n : Int) : Value := .agg #[.int .i64 1, .int .i64 n, .float .f64 0, .string ⟨#[]⟩]

theorem bcell {W w1 : World} (hb : Below W.heap.size W w1) : (∀ b o, b < W.heap.size → w1.cell? ⟨b, o, none⟩ = W.cell? ⟨b, o, none⟩) ∧ (∀ b o, b < W.heap.size → w1.frozen? ⟨b, o, none⟩ = W.frozen? ⟨b, o, none⟩) :=
  ⟨fun b o h => hb.cell (p := ⟨b, o, none⟩) h, fun b o h => hb.frozen (p := ⟨b, o, none⟩) h⟩
theorem below_step {B : Nat} {W0 W w' : World} (h0 : Below B W0 W) (hB : Below W.heap.size W w') (hle : B ≤ W.heap.size) : Below B W0 w' := h0.trans (hB.mono hle)

set_option maxHeartbeats 400000 in
theorem ofbool_any (x : Bool) (w : World) :
    Calls Tryz.prog 24 #[.bool x] w (RetV (boolV x) w) := by
  have sf := store_float
  cases x
  · go_enter Tryz.func24, Tryz.ntmps24
    go_wp2
    exact bodyPost_ret (v := boolV false) (by simp [results, Tryz.results24, go_sem, bZ]) rfl ⟨rfl, by go_grown⟩
  · go_enter Tryz.func24, Tryz.ntmps24
    go_wp2
    exact bodyPost_ret (v := boolV true) (by simp [results, Tryz.results24, go_sem, bZ]) rfl ⟨rfl, by go_grown⟩

set_option maxHeartbeats 400000 in
theorem ofint_any (n : Int) (w : World) : Calls Tryz.prog 9 #[.int .i64 n] w (RetV (intV n) w) := by
  have sf := store_float
  go_enter Tryz.func9, Tryz.ntmps9
  go_wp2
  exact bodyPost_ret (v := intV n) (by simp [results, Tryz.results9, go_sem]) rfl ⟨rfl, by go_grown⟩

/-- what 'of' makes of a number: a value's kind and its N -/
def ofK (t : Int) : Int := if t < 0 then 0 else 4
def ofN (t : Int) : Int := if t = 1 then 1 else 0
@[reducible] def ofV (t : Int) : Value := .agg #[.int .i64 (ofK t), .int .i64 (ofN t), .float .f64 0, .string ⟨#[]⟩]
end Go.Proofs.YtoafiombpokpaaaGreatDoor
