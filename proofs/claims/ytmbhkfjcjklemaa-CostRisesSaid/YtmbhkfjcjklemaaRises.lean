/- The walk of CostRises. -/
import Derived.Test.YtmbhkfjcjklemaaWalks
import Derived.Deep.RegionHeld3
import Derived.Laws.Rows
import Derived.Laws.Tables
import Derived.Laws.Pointers
namespace Go.Proofs.Ytmbhkfjcjklemaa
open Go.RowKit

/-- the eight costs -/
def eightA (x y z c : Int) : Array Value := #[.int .i64 (addZ x y), .int .i64 (mulZ x y), .int .i64 (partZ x y), .int .i64 (seqZ x c), .int .i64 (rangeZ x), .int .i64 (loopZ x y z), .int .i64 (lookZ x y z), .int .i64 (sortZ x y)]
def RetE (x y z c : Int) (w : World) (e : Ending) (w' : World) : Prop := e = .returned (.agg (eightA x y z c)) ∧ Below w.heap.size w w'
def noneA : Array Value := #[.int .i64 0, .int .i64 0, .int .i64 0, .int .i64 0, .int .i64 0, .int .i64 0, .int .i64 0, .int .i64 0]

theorem add2_dr (a b : Int) (w : World) :
    Calls Try.prog 11 #[.slice (some ⟨w.heap.size, 0, none⟩) 2 2] (w.alloc (.cells #[.int .i64 a, .int .i64 b] 2)).drew (RetC (addZ a b) (w.alloc (.cells #[.int .i64 a, .int .i64 b] 2)).drew) :=
  add2_any a b _ _ (by rw [World.cell?_drew, World.cell?_alloc_new]; rfl) (by rw [World.cell?_drew, World.cell?_alloc_new]; rfl)

/-- what a cell of the result holds -/
def c8 (w : World) (B o : Nat) : Value := (w.cell? ⟨B + 1, o, none⟩).getD undef
theorem c8_of {w : World} {B o : Nat} (h : (w.cell? ⟨B + 1, o, none⟩).isSome = true) : w.cell? ⟨B + 1, o, none⟩ = some (c8 w B o) := by
  unfold c8
  cases hc : w.cell? ⟨B + 1, o, none⟩ with
  | none => rw [hc] at h; cases h
  | some v => rfl

theorem eight_all {w : World} {B : Nat} (h : (w.cell? ⟨B + 1, 0, none⟩ = some (c8 w B 0) ∧ w.cell? ⟨B + 1, 1, none⟩ = some (c8 w B 1) ∧ w.cell? ⟨B + 1, 2, none⟩ = some (c8 w B 2) ∧ w.cell? ⟨B + 1, 3, none⟩ = some (c8 w B 3) ∧ w.cell? ⟨B + 1, 4, none⟩ = some (c8 w B 4) ∧ w.cell? ⟨B + 1, 5, none⟩ = some (c8 w B 5) ∧ w.cell? ⟨B + 1, 6, none⟩ = some (c8 w B 6) ∧ w.cell? ⟨B + 1, 7, none⟩ = some (c8 w B 7))) : ∀ o, o < 8 → w.cell? ⟨B + 1, o, none⟩ = some (c8 w B o) := by
  obtain ⟨h0, h1, h2, h3, h4, h5, h6, h7⟩ := h
  intro o ho
  match o, ho with
  | 0, _ => exact h0
  | 1, _ => exact h1
  | 2, _ => exact h2
  | 3, _ => exact h3
  | 4, _ => exact h4
  | 5, _ => exact h5
  | 6, _ => exact h6
  | 7, _ => exact h7
theorem all_eight {w : World} {B : Nat} (h : ∀ o, o < 8 → w.cell? ⟨B + 1, o, none⟩ = some (c8 w B o)) : (w.cell? ⟨B + 1, 0, none⟩ = some (c8 w B 0) ∧ w.cell? ⟨B + 1, 1, none⟩ = some (c8 w B 1) ∧ w.cell? ⟨B + 1, 2, none⟩ = some (c8 w B 2) ∧ w.cell? ⟨B + 1, 3, none⟩ = some (c8 w B 3) ∧ w.cell? ⟨B + 1, 4, none⟩ = some (c8 w B 4) ∧ w.cell? ⟨B + 1, 5, none⟩ = some (c8 w B 5) ∧ w.cell? ⟨B + 1, 6, none⟩ = some (c8 w B 6) ∧ w.cell? ⟨B + 1, 7, none⟩ = some (c8 w B 7)) :=
  ⟨h 0 (by omega), h 1 (by omega), h 2 (by omega), h 3 (by omega), h 4 (by omega), h 5 (by omega), h 6 (by omega), h 7 (by omega)⟩

/-- what is kept of the world of the closure -/
theorem keep_all {B cb : Nat} {x y z c : Int} {w2 W w' : World} (hb : Below W.heap.size W w') (hcb : cb < B)
    (h : W.cell? ⟨B, 0, none⟩ = some (.int .i64 x) ∧ W.cell? ⟨B, 1, none⟩ = some (.int .i64 y) ∧ W.cell? ⟨B, 2, none⟩ = some (.int .i64 z) ∧ W.cell? ⟨cb, 0, none⟩ = some (.int .i64 c) ∧ (W.cell? ⟨B + 1, 0, none⟩ = some (c8 W B 0) ∧ W.cell? ⟨B + 1, 1, none⟩ = some (c8 W B 1) ∧ W.cell? ⟨B + 1, 2, none⟩ = some (c8 W B 2) ∧ W.cell? ⟨B + 1, 3, none⟩ = some (c8 W B 3) ∧ W.cell? ⟨B + 1, 4, none⟩ = some (c8 W B 4) ∧ W.cell? ⟨B + 1, 5, none⟩ = some (c8 W B 5) ∧ W.cell? ⟨B + 1, 6, none⟩ = some (c8 W B 6) ∧ W.cell? ⟨B + 1, 7, none⟩ = some (c8 W B 7)) ∧ (∀ o, W.frozen? ⟨B + 1, o, none⟩ = false) ∧ Below (B + 1) w2 W ∧ B + 2 ≤ W.heap.size) :
    w'.cell? ⟨B, 0, none⟩ = some (.int .i64 x) ∧ w'.cell? ⟨B, 1, none⟩ = some (.int .i64 y) ∧ w'.cell? ⟨B, 2, none⟩ = some (.int .i64 z) ∧ w'.cell? ⟨cb, 0, none⟩ = some (.int .i64 c) ∧ (w'.cell? ⟨B + 1, 0, none⟩ = some (c8 w' B 0) ∧ w'.cell? ⟨B + 1, 1, none⟩ = some (c8 w' B 1) ∧ w'.cell? ⟨B + 1, 2, none⟩ = some (c8 w' B 2) ∧ w'.cell? ⟨B + 1, 3, none⟩ = some (c8 w' B 3) ∧ w'.cell? ⟨B + 1, 4, none⟩ = some (c8 w' B 4) ∧ w'.cell? ⟨B + 1, 5, none⟩ = some (c8 w' B 5) ∧ w'.cell? ⟨B + 1, 6, none⟩ = some (c8 w' B 6) ∧ w'.cell? ⟨B + 1, 7, none⟩ = some (c8 w' B 7)) ∧ (∀ o, w'.frozen? ⟨B + 1, o, none⟩ = false) ∧ Below (B + 1) w2 w' ∧ B + 2 ≤ w'.heap.size := by
  obtain ⟨h0, h1, h2, h3, h40, h5, h6, h7⟩ := h
  have h4 := eight_all h40
  have hl : ∀ b o, b < B + 2 → w'.cell? ⟨b, o, none⟩ = W.cell? ⟨b, o, none⟩ := fun b o h => hb.cell (p := ⟨b, o, none⟩) (by show b < _; omega)
  have hf : ∀ b o, b < B + 2 → w'.frozen? ⟨b, o, none⟩ = W.frozen? ⟨b, o, none⟩ := fun b o h => hb.frozen (p := ⟨b, o, none⟩) (by show b < _; omega)
  have hz := hb.size
  exact ⟨(hl _ _ (by omega)).trans h0, (hl _ _ (by omega)).trans h1, (hl _ _ (by omega)).trans h2, (hl _ _ (by omega)).trans h3, all_eight (fun o ho => c8_of (by rw [hl _ _ (by omega), h4 o ho]; rfl)), fun o => (hf _ _ (by omega)).trans (h5 o), h6.trans (hb.mono (by omega)), by omega⟩

/-- one store into the result -/
theorem keep_set {B cb : Nat} {x y z c : Int} {w2 W : World} (hcb : cb < B) (i : Nat) (v : Value)
    (h : W.cell? ⟨B, 0, none⟩ = some (.int .i64 x) ∧ W.cell? ⟨B, 1, none⟩ = some (.int .i64 y) ∧ W.cell? ⟨B, 2, none⟩ = some (.int .i64 z) ∧ W.cell? ⟨cb, 0, none⟩ = some (.int .i64 c) ∧ (W.cell? ⟨B + 1, 0, none⟩ = some (c8 W B 0) ∧ W.cell? ⟨B + 1, 1, none⟩ = some (c8 W B 1) ∧ W.cell? ⟨B + 1, 2, none⟩ = some (c8 W B 2) ∧ W.cell? ⟨B + 1, 3, none⟩ = some (c8 W B 3) ∧ W.cell? ⟨B + 1, 4, none⟩ = some (c8 W B 4) ∧ W.cell? ⟨B + 1, 5, none⟩ = some (c8 W B 5) ∧ W.cell? ⟨B + 1, 6, none⟩ = some (c8 W B 6) ∧ W.cell? ⟨B + 1, 7, none⟩ = some (c8 W B 7)) ∧ (∀ o, W.frozen? ⟨B + 1, o, none⟩ = false) ∧ Below (B + 1) w2 W ∧ B + 2 ≤ W.heap.size) :
    (W.setCell ⟨B + 1, i, none⟩ v).cell? ⟨B, 0, none⟩ = some (.int .i64 x) ∧ (W.setCell ⟨B + 1, i, none⟩ v).cell? ⟨B, 1, none⟩ = some (.int .i64 y) ∧ (W.setCell ⟨B + 1, i, none⟩ v).cell? ⟨B, 2, none⟩ = some (.int .i64 z) ∧ (W.setCell ⟨B + 1, i, none⟩ v).cell? ⟨cb, 0, none⟩ = some (.int .i64 c) ∧ ((W.setCell ⟨B + 1, i, none⟩ v).cell? ⟨B + 1, 0, none⟩ = some (c8 (W.setCell ⟨B + 1, i, none⟩ v) B 0) ∧ (W.setCell ⟨B + 1, i, none⟩ v).cell? ⟨B + 1, 1, none⟩ = some (c8 (W.setCell ⟨B + 1, i, none⟩ v) B 1) ∧ (W.setCell ⟨B + 1, i, none⟩ v).cell? ⟨B + 1, 2, none⟩ = some (c8 (W.setCell ⟨B + 1, i, none⟩ v) B 2) ∧ (W.setCell ⟨B + 1, i, none⟩ v).cell? ⟨B + 1, 3, none⟩ = some (c8 (W.setCell ⟨B + 1, i, none⟩ v) B 3) ∧ (W.setCell ⟨B + 1, i, none⟩ v).cell? ⟨B + 1, 4, none⟩ = some (c8 (W.setCell ⟨B + 1, i, none⟩ v) B 4) ∧ (W.setCell ⟨B + 1, i, none⟩ v).cell? ⟨B + 1, 5, none⟩ = some (c8 (W.setCell ⟨B + 1, i, none⟩ v) B 5) ∧ (W.setCell ⟨B + 1, i, none⟩ v).cell? ⟨B + 1, 6, none⟩ = some (c8 (W.setCell ⟨B + 1, i, none⟩ v) B 6) ∧ (W.setCell ⟨B + 1, i, none⟩ v).cell? ⟨B + 1, 7, none⟩ = some (c8 (W.setCell ⟨B + 1, i, none⟩ v) B 7)) ∧ (∀ o, (W.setCell ⟨B + 1, i, none⟩ v).frozen? ⟨B + 1, o, none⟩ = false) ∧ Below (B + 1) w2 (W.setCell ⟨B + 1, i, none⟩ v) ∧ B + 2 ≤ (W.setCell ⟨B + 1, i, none⟩ v).heap.size := by
  obtain ⟨h0, h1, h2, h3, h40, h5, h6, h7⟩ := h
  have h4 := eight_all h40
  have hb : Below (B + 1) W (W.setCell ⟨B + 1, i, none⟩ v) := (Below.refl (B + 1) W).setCell (p := ⟨B + 1, i, none⟩) (Nat.le_refl _) _
  have hl : ∀ b o, b < B + 1 → (W.setCell ⟨B + 1, i, none⟩ v).cell? ⟨b, o, none⟩ = W.cell? ⟨b, o, none⟩ := fun b o h => hb.cell (p := ⟨b, o, none⟩) h
  have hz := hb.size
  refine ⟨(hl _ _ (by omega)).trans h0, (hl _ _ (by omega)).trans h1, (hl _ _ (by omega)).trans h2, (hl _ _ (by omega)).trans h3, all_eight (fun o ho => c8_of ?_), fun o => ?_, h6.trans hb, by omega⟩
  · obtain ⟨v', hv⟩ := cell?_setCell_some (w := W) (p := ⟨B + 1, i, none⟩) (x := v) (q := ⟨B + 1, o, none⟩) (v := _) (h4 o ho)
    rw [hv]; rfl
  · rw [World.frozen?_setCell]; exact h5 o

theorem keep_allocd {B cb : Nat} {x y z c : Int} {w2 W : World} {ob : Obj} (hcb : cb < B)
    (h : W.drew.cell? ⟨B, 0, none⟩ = some (.int .i64 x) ∧ W.drew.cell? ⟨B, 1, none⟩ = some (.int .i64 y) ∧ W.drew.cell? ⟨B, 2, none⟩ = some (.int .i64 z) ∧ W.drew.cell? ⟨cb, 0, none⟩ = some (.int .i64 c) ∧ (W.drew.cell? ⟨B + 1, 0, none⟩ = some (c8 W.drew B 0) ∧ W.drew.cell? ⟨B + 1, 1, none⟩ = some (c8 W.drew B 1) ∧ W.drew.cell? ⟨B + 1, 2, none⟩ = some (c8 W.drew B 2) ∧ W.drew.cell? ⟨B + 1, 3, none⟩ = some (c8 W.drew B 3) ∧ W.drew.cell? ⟨B + 1, 4, none⟩ = some (c8 W.drew B 4) ∧ W.drew.cell? ⟨B + 1, 5, none⟩ = some (c8 W.drew B 5) ∧ W.drew.cell? ⟨B + 1, 6, none⟩ = some (c8 W.drew B 6) ∧ W.drew.cell? ⟨B + 1, 7, none⟩ = some (c8 W.drew B 7)) ∧ (∀ o, W.drew.frozen? ⟨B + 1, o, none⟩ = false) ∧ Below (B + 1) w2 W.drew ∧ B + 2 ≤ W.drew.heap.size) :
    (W.alloc ob).drew.cell? ⟨B, 0, none⟩ = some (.int .i64 x) ∧ (W.alloc ob).drew.cell? ⟨B, 1, none⟩ = some (.int .i64 y) ∧ (W.alloc ob).drew.cell? ⟨B, 2, none⟩ = some (.int .i64 z) ∧ (W.alloc ob).drew.cell? ⟨cb, 0, none⟩ = some (.int .i64 c) ∧ ((W.alloc ob).drew.cell? ⟨B + 1, 0, none⟩ = some (c8 (W.alloc ob).drew B 0) ∧ (W.alloc ob).drew.cell? ⟨B + 1, 1, none⟩ = some (c8 (W.alloc ob).drew B 1) ∧ (W.alloc ob).drew.cell? ⟨B + 1, 2, none⟩ = some (c8 (W.alloc ob).drew B 2) ∧ (W.alloc ob).drew.cell? ⟨B + 1, 3, none⟩ = some (c8 (W.alloc ob).drew B 3) ∧ (W.alloc ob).drew.cell? ⟨B + 1, 4, none⟩ = some (c8 (W.alloc ob).drew B 4) ∧ (W.alloc ob).drew.cell? ⟨B + 1, 5, none⟩ = some (c8 (W.alloc ob).drew B 5) ∧ (W.alloc ob).drew.cell? ⟨B + 1, 6, none⟩ = some (c8 (W.alloc ob).drew B 6) ∧ (W.alloc ob).drew.cell? ⟨B + 1, 7, none⟩ = some (c8 (W.alloc ob).drew B 7)) ∧ (∀ o, (W.alloc ob).drew.frozen? ⟨B + 1, o, none⟩ = false) ∧ Below (B + 1) w2 (W.alloc ob).drew ∧ B + 2 ≤ (W.alloc ob).drew.heap.size := keep_all (W := W.drew) (w' := (W.alloc ob).drew) ((Below.refl _ W.drew).alloc (Nat.le_refl _) ob) hcb h
theorem keep_drew {B cb : Nat} {x y z c : Int} {w2 W : World} (hcb : cb < B)
    (h : W.cell? ⟨B, 0, none⟩ = some (.int .i64 x) ∧ W.cell? ⟨B, 1, none⟩ = some (.int .i64 y) ∧ W.cell? ⟨B, 2, none⟩ = some (.int .i64 z) ∧ W.cell? ⟨cb, 0, none⟩ = some (.int .i64 c) ∧ (W.cell? ⟨B + 1, 0, none⟩ = some (c8 W B 0) ∧ W.cell? ⟨B + 1, 1, none⟩ = some (c8 W B 1) ∧ W.cell? ⟨B + 1, 2, none⟩ = some (c8 W B 2) ∧ W.cell? ⟨B + 1, 3, none⟩ = some (c8 W B 3) ∧ W.cell? ⟨B + 1, 4, none⟩ = some (c8 W B 4) ∧ W.cell? ⟨B + 1, 5, none⟩ = some (c8 W B 5) ∧ W.cell? ⟨B + 1, 6, none⟩ = some (c8 W B 6) ∧ W.cell? ⟨B + 1, 7, none⟩ = some (c8 W B 7)) ∧ (∀ o, W.frozen? ⟨B + 1, o, none⟩ = false) ∧ Below (B + 1) w2 W ∧ B + 2 ≤ W.heap.size) :
    W.drew.cell? ⟨B, 0, none⟩ = some (.int .i64 x) ∧ W.drew.cell? ⟨B, 1, none⟩ = some (.int .i64 y) ∧ W.drew.cell? ⟨B, 2, none⟩ = some (.int .i64 z) ∧ W.drew.cell? ⟨cb, 0, none⟩ = some (.int .i64 c) ∧ (W.drew.cell? ⟨B + 1, 0, none⟩ = some (c8 W.drew B 0) ∧ W.drew.cell? ⟨B + 1, 1, none⟩ = some (c8 W.drew B 1) ∧ W.drew.cell? ⟨B + 1, 2, none⟩ = some (c8 W.drew B 2) ∧ W.drew.cell? ⟨B + 1, 3, none⟩ = some (c8 W.drew B 3) ∧ W.drew.cell? ⟨B + 1, 4, none⟩ = some (c8 W.drew B 4) ∧ W.drew.cell? ⟨B + 1, 5, none⟩ = some (c8 W.drew B 5) ∧ W.drew.cell? ⟨B + 1, 6, none⟩ = some (c8 W.drew B 6) ∧ W.drew.cell? ⟨B + 1, 7, none⟩ = some (c8 W.drew B 7)) ∧ (∀ o, W.drew.frozen? ⟨B + 1, o, none⟩ = false) ∧ Below (B + 1) w2 W.drew ∧ B + 2 ≤ W.drew.heap.size := keep_all (W := W) (w' := W.drew) (Below.refl _ W).drew hcb h

set_option maxRecDepth 100000 in
set_option maxHeartbeats 1000000 in
theorem all_any (x y z c : Int) (cb : Nat) (w : World) (hc : w.cell? ⟨cb, 0, none⟩ = some (.int .i64 c)) (hcb : cb < w.heap.size) :
    Calls Try.prog 31 #[.agg #[.int .i64 x, .int .i64 y, .int .i64 z], .pointer (some ⟨cb, 0, none⟩)] w (RetE x y z c w) := by
  go_enter Try.func31, Try.ntmps31
  go_wp2_with fail
  have hsz : ((w.alloc (Obj.cells #[Value.int IntKind.i64 x, Value.int IntKind.i64 y, Value.int IntKind.i64 z] 31)).alloc
      (Obj.cells
        #[Value.int IntKind.i64 0, Value.int IntKind.i64 0, Value.int IntKind.i64 0, Value.int IntKind.i64 0,
          Value.int IntKind.i64 0, Value.int IntKind.i64 0, Value.int IntKind.i64 0, Value.int IntKind.i64 0]
        34)).heap.size = w.heap.size + 2 := by simp
  generalize hw2 : ((w.alloc (Obj.cells #[Value.int IntKind.i64 x, Value.int IntKind.i64 y, Value.int IntKind.i64 z] 31)).alloc
      (Obj.cells
        #[Value.int IntKind.i64 0, Value.int IntKind.i64 0, Value.int IntKind.i64 0, Value.int IntKind.i64 0,
          Value.int IntKind.i64 0, Value.int IntKind.i64 0, Value.int IntKind.i64 0, Value.int IntKind.i64 0]
        34)) = w2 at hsz ⊢
  have HB := Lib.hid (show Below w.heap.size w w2 by rw [← hw2]; exact ((Below.refl _ _).alloc (Nat.le_refl _) _).alloc (by simp) _)
  have c0 : w2.cell? ⟨w.heap.size, 0, none⟩ = some (.int .i64 x) := by rw [← hw2, World.cell?_alloc2_first]; rfl
  have c1 : w2.cell? ⟨w.heap.size, 1, none⟩ = some (.int .i64 y) := by rw [← hw2, World.cell?_alloc2_first]; rfl
  have c2 : w2.cell? ⟨w.heap.size, 2, none⟩ = some (.int .i64 z) := by rw [← hw2, World.cell?_alloc2_first]; rfl
  have cc : w2.cell? ⟨cb, 0, none⟩ = some (.int .i64 c) := by rw [← hw2]; exact (World.cell?_alloc_lt _ _ ⟨cb, 0, none⟩ (by simp; omega)).trans ((World.cell?_alloc_lt _ _ ⟨cb, 0, none⟩ hcb).trans hc)
  have cr : w2.heap[w.heap.size + 1]? = some (.cells noneA 34 (0, 0)) := by rw [← hw2]; exact heap_alloc2_new _ _ _
  have HZ := Lib.hid hsz
  clear hw2 hsz
  have hb0 : Below (w.heap.size + 1) w2 w2 := Below.refl _ _
  have hz0 : w.heap.size + 2 ≤ w2.heap.size := by have := HZ.out; omega
  have h8a : ∀ o, o < 8 → w2.cell? ⟨w.heap.size + 1, o, none⟩ = some (c8 w2 w.heap.size o) := fun o ho => c8_of (by rw [cell_of_row _ _ _ _ _ _ cr]; simp [noneA]; omega)
  have h8 := Lib.hid (all_eight h8a)
  clear h8a
  have hf8 : ∀ o, w2.frozen? ⟨w.heap.size + 1, o, none⟩ = false := fun o => frozen_of_row _ _ _ _ _ cr
  clear cr
  go_region_held3 (fun w' => w'.cell? ⟨w.heap.size, 0, none⟩ = some (.int .i64 x) ∧ w'.cell? ⟨w.heap.size, 1, none⟩ = some (.int .i64 y) ∧ w'.cell? ⟨w.heap.size, 2, none⟩ = some (.int .i64 z) ∧ w'.cell? ⟨cb, 0, none⟩ = some (.int .i64 c) ∧ (w'.cell? ⟨w.heap.size + 1, 0, none⟩ = some (c8 w' w.heap.size 0) ∧ w'.cell? ⟨w.heap.size + 1, 1, none⟩ = some (c8 w' w.heap.size 1) ∧ w'.cell? ⟨w.heap.size + 1, 2, none⟩ = some (c8 w' w.heap.size 2) ∧ w'.cell? ⟨w.heap.size + 1, 3, none⟩ = some (c8 w' w.heap.size 3) ∧ w'.cell? ⟨w.heap.size + 1, 4, none⟩ = some (c8 w' w.heap.size 4) ∧ w'.cell? ⟨w.heap.size + 1, 5, none⟩ = some (c8 w' w.heap.size 5) ∧ w'.cell? ⟨w.heap.size + 1, 6, none⟩ = some (c8 w' w.heap.size 6) ∧ w'.cell? ⟨w.heap.size + 1, 7, none⟩ = some (c8 w' w.heap.size 7)) ∧ (∀ o, w'.frozen? ⟨w.heap.size + 1, o, none⟩ = false) ∧ Below (w.heap.size + 1) w2 w' ∧ w.heap.size + 2 ≤ w'.heap.size)
    (first
      | (with_reducible refine keep_set hcb 7 _ (keep_set hcb 6 _ (keep_set hcb 5 _ (keep_set hcb 4 _ (keep_set hcb 3 _ (keep_set hcb 2 _ (keep_set hcb 1 _ (keep_set hcb 0 _ ?_))))))); assumption)
      | (with_reducible assumption)
      | with_reducible exact keep_drew (W := w2) hcb ⟨c0, c1, c2, cc, h8.out, hf8, hb0, hz0⟩
      | with_reducible exact keep_allocd hcb (by assumption)
      | with_reducible exact keep_all hB5 hcb (by assumption)
      | with_reducible exact keep_all hB4 hcb (by assumption)
      | with_reducible exact keep_all hB3 hcb (by assumption)
      | with_reducible exact keep_all hB2 hcb (by assumption)
      | with_reducible exact keep_all hB1 hcb (by assumption))
    (first
      | (go_at_call 11; (with_reducible refine (add2_dr _ _ _).mono ?_); rintro e w' ⟨rfl, rfl, _, _⟩)
      | (go_at_call 13; (with_reducible refine (mul_any _ _ _).mono ?_); rintro e w' ⟨rfl, rfl, _, _⟩)
      | (go_at_call 19; (with_reducible refine (part_any _ _ _).mono ?_); rintro e w' ⟨rfl, rfl, _, _⟩)
      | (go_at_call 17; (with_reducible refine (seq_any _ _ _).mono ?_); rintro e w' ⟨rfl, _, _, hB1⟩)
      | (go_at_call 29; (with_reducible refine (range_any _ _).mono ?_); rintro e w' ⟨rfl, _, _, hB2⟩)
      | (go_at_call 23; (with_reducible refine (loop_any _ _ _ _).mono ?_); rintro e w' ⟨rfl, _, _, hB3⟩)
      | (go_at_call 25; (with_reducible refine (look_any _ _ _ _).mono ?_); rintro e w' ⟨rfl, _, _, hB4⟩)
      | (go_at_call 27; (with_reducible refine (sort_any _ _ _).mono ?_); rintro e w' ⟨rfl, _, _, hB5⟩))
  rename_i hHeld
  have hBw := hHeld.2.2.2.2.2.2.1
  have HF := Lib.hid (HB.out.trans (hBw.mono (Nat.le_succ _)))
  clear hBw
  have hS := keep_all hB5 hcb (keep_all hB4 hcb (keep_all hB3 hcb (keep_all hB2 hcb (keep_all hB1 hcb (keep_allocd hcb (keep_drew (W := w2) hcb ⟨c0, c1, c2, cc, h8.out, hf8, hb0, hz0⟩))))))
  obtain ⟨g0, g1, g2, g3, g4, g5, g6, g7⟩ := hS.2.2.2.2.1
  clear hS hB1 hB2 hB3 hB4 hB5 c0 c1 c2 cc hf8 hHeld
  go_wp2
  exact bodyPost_ret (v := .agg (eightA x y z c)) (by simp [results, Try.results31, go_sem, eightA, g0, g1, g2, g3, g4, g5, g6, g7]) rfl ⟨rfl, HF.out⟩
end Go.Proofs.Ytmbhkfjcjklemaa
