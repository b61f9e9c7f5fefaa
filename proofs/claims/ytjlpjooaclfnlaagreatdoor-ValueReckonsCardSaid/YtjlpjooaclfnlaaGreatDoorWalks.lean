/- The walks of package value: truths. -/
import Derived.Test.YtjlpjooaclfnlaaGreatDoorRows
import Derived.WalkKit
import Derived.WalkSpells
import Derived.WalkLawsBesides
import Derived.Handy
import Derived.Lib.Hide
import Derived.Deep.QuietTactic
import Derived.BigQuiet
import Derived.Deep.RegionHeld3
import Derived.Deep.DeepCutAuto
namespace Go.Proofs.YtjlpjooaclfnlaaGreatDoor
open Go.RowKit

theorem ret_i64 {a b : Int} (h : a = b) : Ending.returned (.int .i64 a) = .returned (.int .i64 b) := by rw [h]
/-- the call returns this; of what was there nothing turns -/
def RetV (v : Value) (w : World) (e : Ending) (w' : World) : Prop := e = .returned v ∧ Below w.heap.size w w'

/-- a value as a truth: 1 yes, 0 no, -1 unknown -/
def truthZ (k n : Int) : Int := if k = 4 then (if n = 0 then 0 else 1) else -1
theorem truthZ_bd (k n : Int) : -1 ≤ truthZ k n ∧ truthZ k n ≤ 1 := by unfold truthZ; split <;> (try split) <;> omega

set_option maxHeartbeats 400000 in
theorem truth_any (k n : Int) (f : Value) (s : Value) (w : World) :
    Calls Tryz.prog 52 #[.agg #[.int .i64 k, .int .i64 n, f, s]] w (RetV (.int .i64 (truthZ k n)) w) := by
  by_cases hk : k = 4
  · subst hk
    by_cases hn : n = 0
    · subst hn
      go_enter Tryz.func52, Tryz.ntmps52
      go_wp2
      go_ret
      exact ⟨rfl, by go_grown⟩
    · have H := Lib.hid (show truthZ 4 n = 1 by unfold truthZ; simp [hn])
      have hb : (n != 0) = true := by simpa using hn
      have hb2 : (n == 0) = false := by simpa using hn
      go_enter Tryz.func52, Tryz.ntmps52
      go_wp2
      go_ret
      exact ⟨ret_i64 H.out.symm, by go_grown⟩
  · have H := Lib.hid (show truthZ k n = -1 by unfold truthZ; simp [hk])
    have hb : (k != 4) = true := by simpa using hk
    have hb2 : (k == 4) = false := by simpa using hk
    go_enter Tryz.func52, Tryz.ntmps52
    go_wp2
    go_ret
    exact ⟨ret_i64 H.out.symm, by go_grown⟩


/-- a store of a float, as the walk meets it: the kit's laws have it for every other kind -/
theorem store_float (w : World) (a : Addr) (m : Mode) (k : FloatKind) (b : Nat) : (store a (.float k b) m).run Tryz.prog w = stored Tryz.prog w a (.float k b) m := run_store Tryz.prog w a _ m rfl

/-- a truth as a number -/
def bZ (x : Bool) : Int := if x then 1 else 0
/-- a truth as a value; null; a whole number -/
@[reducible] def boolV (x : Bool) : Value := .agg #[.int .i64 4, .int .i64 (bZ x), .float .f64 0, .string ⟨#[]⟩]
@[reducible] def nullV : Value := .agg #[.int .i64 0, .int .i64 0, .float .f64 0, .string ⟨#[]⟩]
@[reducible] def intV (n : Int) : Value := .agg #[.int .i64 1, .int .i64 n, .float .f64 0, .string ⟨#[]⟩]

theorem bcell {W w1 : World} (hb : Below W.heap.size W w1) : (∀ b o, b < W.heap.size → w1.cell? ⟨b, o, none⟩ = W.cell? ⟨b, o, none⟩) ∧ (∀ b o, b < W.heap.size → w1.frozen? ⟨b, o, none⟩ = W.frozen? ⟨b, o, none⟩) :=
  ⟨fun b o h => hb.cell (p := ⟨b, o, none⟩) h, fun b o h => hb.frozen (p := ⟨b, o, none⟩) h⟩
theorem below_step {B : Nat} {W0 W w' : World} (h0 : Below B W0 W) (hB : Below W.heap.size W w') (hle : B ≤ W.heap.size) : Below B W0 w' := h0.trans (hB.mono hle)

set_option maxHeartbeats 400000 in
theorem ofbool_any (x : Bool) (w : World) :
    Calls Tryz.prog 20 #[.bool x] w (RetV (boolV x) w) := by
  have sf := store_float
  cases x
  · go_enter Tryz.func20, Tryz.ntmps20
    go_wp2
    exact bodyPost_ret (v := boolV false) (by simp [results, Tryz.results20, go_sem, bZ]) rfl ⟨rfl, by go_grown⟩
  · go_enter Tryz.func20, Tryz.ntmps20
    go_wp2
    exact bodyPost_ret (v := boolV true) (by simp [results, Tryz.results20, go_sem, bZ]) rfl ⟨rfl, by go_grown⟩

set_option maxHeartbeats 400000 in
theorem ofint_any (n : Int) (w : World) : Calls Tryz.prog 14 #[.int .i64 n] w (RetV (intV n) w) := by
  have sf := store_float
  go_enter Tryz.func14, Tryz.ntmps14
  go_wp2
  exact bodyPost_ret (v := intV n) (by simp [results, Tryz.results14, go_sem]) rfl ⟨rfl, by go_grown⟩

set_option maxHeartbeats 400000 in
theorem of_null (t : Int) (w : World) (ht : t < 0) : Calls Tryz.prog 53 #[.int .i64 t] w (RetV nullV w) := by
  have sf := store_float
  go_enter Tryz.func53, Tryz.ntmps53
  go_wp2
  exact bodyPost_ret (v := nullV) (by simp [results, Tryz.results53, go_sem]) rfl ⟨rfl, by go_grown⟩

set_option maxHeartbeats 400000 in
theorem of_bool (t : Int) (w : World) (ht : ¬ t < 0) : Calls Tryz.prog 53 #[.int .i64 t] w (RetV (boolV (t == 1)) w) := by
  have sf := store_float
  go_enter Tryz.func53, Tryz.ntmps53
  go_wp2_with (go_at_call 20; (with_reducible refine (ofbool_any _ _).mono ?_); rintro e w' ⟨rfl, hB⟩; have hD := below_step (B := w.heap.size) (W0 := w) (by go_grown) hB (by first | (simp; done) | omega | (simp; omega)); obtain ⟨hcc, hff⟩ := bcell hB; have hs := hB.size; (try simp only [World.size_alloc] at hcc hff hs); clear hB)
  exact bodyPost_ret (v := boolV (t == 1)) (by simp [results, Tryz.results53, go_sem, hcc]) rfl ⟨rfl, by go_grown⟩

/-- what 'of' makes of a number: a value's kind and its N -/
def ofK (t : Int) : Int := if t < 0 then 0 else 4
def ofN (t : Int) : Int := if t = 1 then 1 else 0
@[reducible] def ofV (t : Int) : Value := .agg #[.int .i64 (ofK t), .int .i64 (ofN t), .float .f64 0, .string ⟨#[]⟩]
theorem of_any (t : Int) (w : World) : Calls Tryz.prog 53 #[.int .i64 t] w (RetV (ofV t) w) := by
  by_cases ht : t < 0
  · have e : ofV t = nullV := by
      unfold ofV ofK ofN
      rw [if_pos ht, if_neg (by omega)]
    rw [e]; exact of_null t w ht
  · have e : ofV t = boolV (t == 1) := by
      unfold ofV ofK ofN boolV bZ
      rw [if_neg ht]
      by_cases h1 : t = 1 <;> simp [h1]
    rw [e]; exact of_bool t w ht

set_option maxHeartbeats 1000000 in
theorem not_any (k n : Int) (f : Nat) (s : ByteArray) (w : World) :
    Calls Tryz.prog 34 #[.agg #[.int .i64 k, .int .i64 n, .float .f64 f, .string s]] w (RetV (ofV (if truthZ k n < 0 then -1 else 1 - truthZ k n)) w) := by
  have sf := store_float
  by_cases hk : k = 4
  · subst hk
    by_cases hn : n = 0
    · subst hn
      go_enter Tryz.func34, Tryz.ntmps34
      go_wp2
      exact bodyPost_ret (v := boolV true) (by simp [results, Tryz.results34, go_sem, bZ]) rfl ⟨rfl, by go_grown⟩
    · have hb : (n != 0) = true := by simpa using hn
      have H := Lib.hid (show truthZ 4 n = 1 by unfold truthZ; simp [hn])
      rw [H.out]
      go_enter Tryz.func34, Tryz.ntmps34
      go_wp2
      exact bodyPost_ret (v := boolV false) (by simp [results, Tryz.results34, go_sem, bZ]) rfl ⟨rfl, by go_grown⟩
  · have hb : (k != 4) = true := by simpa using hk
    have hb2 : (k == 4) = false := by simpa using hk
    have H := Lib.hid (show truthZ k n = -1 by unfold truthZ; simp [hk])
    rw [H.out]
    go_enter Tryz.func34, Tryz.ntmps34
    go_wp2
    exact bodyPost_ret (v := nullV) (by simp [results, Tryz.results34, go_sem]) rfl ⟨rfl, by go_grown⟩
end Go.Proofs.YtjlpjooaclfnlaaGreatDoor
