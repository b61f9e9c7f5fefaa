/- A region that draws its order, with several appends: what holds between two operations, by what is done so far. -/
import Derived.Test.YthdmfaepjemopaaGreatDoorQAG
import Derived.Orders
namespace Go.Proofs.YthdmfaepjemopaaGreatDoor
open Go.RowKit

section
variable {P : Program} {ops : Array Oper} {Q : Exit → Act → World → Prop}
def leftAt (ops : Array Oper) (a : Act) (j : Nat) : Value := match (ops[j]?).bind (·.dst) with
  | some d => a.tmps.getD d undef
  | none => undef
def SameBut (ops : Array Oper) (last : Nat) (a0 a : Act) : Prop :=
  a.defers = a0.defers ∧ a.tmps.size = a0.tmps.size ∧ ∀ t, (∀ j, j < last → (ops[j]?).bind (·.dst) ≠ some t) → a.tmps.getD t undef = a0.tmps.getD t undef
theorem getD_true_of_false {listed : Array Bool} {j : Nat} (h : listed.getD j true = false) : listed.getD j false = false ∧ j < listed.size := by
  rcases Nat.lt_or_ge j listed.size with h' | h'
  · simp [h'] at h ⊢; exact h
  · simp [Array.getElem?_eq_none h'] at h
theorem getD_set_self {listed : Array Bool} {i : Nat} (h : i < listed.size) : (listed.setIfInBounds i true).getD i false = true := by
  simp [h]
abbrev Done := Nat → Option Value
def Done.set (st : Done) (i : Nat) (v : Value) : Done := fun j => if j = i then some v else st j
def stOf (ops : Array Oper) (last : Nat) (listed : Array Bool) (a : Act) : Done := fun j => if j < last ∧ listed.getD j false = true then some (leftAt ops a j) else none
def dstVal (o : Oper) (v : Value) : Value := match o.dst with
  | some _ => v
  | none => undef
theorem SameBut.get {last : Nat} {a0 a : Act} (h : SameBut ops last a0 a) (t : Tmp) (hB : (List.range last).all (fun j => (ops[j]?).bind (·.dst) != some t) = true) {v : Value} (hv : a0.tmps.getD t undef = v) : a.tmps[t]?.getD undef = v := by
  have h2 := h.2.2 t (fun j hj e => by
    have := List.all_eq_true.1 hB j (List.mem_range.2 hj)
    rw [e] at this
    simp at this)
  rw [hv] at h2
  rw [← h2, Array.getD_eq_getD_getElem?]
theorem leftAt_get {a : Act} {j : Nat} (t : Tmp) (hd : (ops[j]?).bind (·.dst) = some t) : a.tmps[t]?.getD undef = leftAt ops a j := by
  unfold leftAt
  rw [hd, ← Array.getD_eq_getD_getElem?]
end
end Go.Proofs.YthdmfaepjemopaaGreatDoor
