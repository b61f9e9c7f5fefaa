/- Small words for this claim: what a call answers; bytes in a block of their own. Contracts. Calls that give up. -/
import Derived.Test.YthdmfaepjemopaaGreatDoorRows
import Derived.Below
import Derived.WalkKit
import Derived.WalkSmall
import Derived.ProofKit
import Derived.Lib.Hide
import Derived.IntWalk
import Derived.Laws.IdiomStrings
import Derived.Laws.Concat
import Derived.Lib.Strings
import Derived.WalkSpells
import Derived.WalkLawsBesides
import Derived.Handy
import Derived.Deep.QuietTactic
import Derived.BigQuiet
import Derived.Deep.RegionHeld3
import Derived.Deep.DeepCutAuto
import Derived.Outline
namespace Go.Proofs.YthdmfaepjemopaaGreatDoor
open Go.RowKit

def RetV (v : Value) (w : World) (e : Ending) (w' : World) : Prop := e = .returned v ∧ Below w.heap.size w w'
theorem ret_bool {a b : Bool} (h : a = b) : Ending.returned (.bool a) = .returned (.bool b) := by rw [h]
theorem below1 (w : World) (o : Obj) : Below w.heap.size w (w.alloc o) := (Below.refl _ _).alloc (Nat.le_refl _) _
theorem cell_kept {w w2 : World} {b o : Nat} {v : Value} (h : w.cell? ⟨b, o, none⟩ = some v) (hB : Below w.heap.size w w2) : w2.cell? ⟨b, o, none⟩ = some v := (hB.cell (p := ⟨b, o, none⟩) (World.block_lt_of_cell? w _ h)).trans h
theorem heap_lt {W : World} {g : Nat} {o : Obj} (q : W.heap[g]? = some o) : g < W.heap.size := (Array.getElem?_eq_some_iff.1 q).1
theorem heap_setFar {W : World} {b j k : Nat} (v : Value) (h : k ≠ b) : (W.setCell ⟨b, j, none⟩ v).heap[k]? = W.heap[k]? := by
  simp only [World.setCell, Array.getElem?_modify]
  rw [if_neg (fun e => h e.symm)]

theorem add_text (w : World) (a b : ByteArray) (h : a.size + b.size ≤ 1000) : (Op.stringOp .add a b).run Tryz.prog w = .ok (.string (a ++ b)) w := run_string_add_sum w a b (by omega)
end Go.Proofs.YthdmfaepjemopaaGreatDoor
/- The walks of package value: truths. -/
namespace Go.Proofs.YthdmfaepjemopaaGreatDoor
open Go.RowKit

theorem ret_i64 {a b : Int} (h : a = b) : Ending.returned (.int .i64 a) = .returned (.int .i64 b) := by rw [h]

theorem store_float (w : World) (a : Addr) (m : Mode) (k : FloatKind) (b : Nat) : (store a (.float k b) m).run Tryz.prog w = stored Tryz.prog w a (.float k b) m := run_store Tryz.prog w a _ m rfl

@[reducible] def nullV : Value := .agg #[.int .i64 0, .int .i64 0, .float .f64 0, .string ⟨#[]⟩]
end Go.Proofs.YthdmfaepjemopaaGreatDoor
namespace Go.Proofs.YthdmfaepjemopaaGreatDoor
open Go.RowKit
theorem check_yes (e : Int) (w : World) : Calls Tryz.prog 24 #[.bool true, .int .i64 e] w fun en w' => en = .returned (.tuple #[]) ∧ w = w' := by
  go_enter Tryz.func24, Tryz.ntmps24
  go_wp2
  go_end0
  exact ⟨rfl, rfl⟩
theorem check_no (e : Int) (w : World) : Calls Tryz.prog 24 #[.bool false, .int .i64 e] w fun en w' => en = .panicked [{ v := .iface 49 (.int .i64 e), recovered := false }] ∧ w = w' := by
  go_enter Tryz.func24, Tryz.ntmps24
  go_wp2
  exact ⟨rfl, rfl, rfl⟩
end Go.Proofs.YthdmfaepjemopaaGreatDoor
