/- The walk of package value's Clean. -/
import Derived.Test.YtoafiombpokpaaaGreatDoorClean
namespace Go.Proofs.YtoafiombpokpaaaGreatDoor
open Go.RowKit

/-- a value as it may be, field by field -/
def clK (k : Int) : Int := if k = 1 ∨ k = 2 ∨ k = 3 ∨ k = 4 then k else 0
def clN (k n : Int) : Int := if k = 1 then n else if k = 4 then (if n = 0 then 0 else 1) else 0
def clF (k : Int) (f : Nat) : Nat := if k = 2 then realZ f else 0
def clS (k : Int) (s : ByteArray) : ByteArray := if k = 3 then s else ⟨#[]⟩
@[reducible] def clV (k n : Int) (f : Nat) (s : ByteArray) : Value := vV (clK k) (clN k n) (clF k f) (clS k s)

/-- a result's cells, kept over a call -/
theorem result_kept {W w2 : World} {g : Nat} {T : TypeId} {u0 u1 u2 u3 : Value} (q : W.heap[g]? = some (.cells #[u0, u1, u2, u3] T (0, 0))) (hB : Below W.heap.size W w2) :
    (w2.cell? ⟨g, 0, none⟩ = some u0 ∧ w2.cell? ⟨g, 1, none⟩ = some u1 ∧ w2.cell? ⟨g, 2, none⟩ = some u2 ∧ w2.cell? ⟨g, 3, none⟩ = some u3) ∧
    (w2.frozen? ⟨g, 0, none⟩ = false ∧ w2.frozen? ⟨g, 1, none⟩ = false ∧ w2.frozen? ⟨g, 2, none⟩ = false ∧ w2.frozen? ⟨g, 3, none⟩ = false) ∧ g < w2.heap.size := by
  have hlt : g < W.heap.size := by
    rcases Nat.lt_or_ge g W.heap.size with h | h
    · exact h
    · rw [Array.getElem?_eq_none h] at q; cases q
  have q2 := (hB.block g hlt).trans q
  have := hB.size
  exact ⟨⟨cell_of_row w2 g 0 _ _ _ q2, cell_of_row w2 g 1 _ _ _ q2, cell_of_row w2 g 2 _ _ _ q2, cell_of_row w2 g 3 _ _ _ q2⟩, ⟨frozen_of_row w2 g 0 _ _ q2, frozen_of_row w2 g 1 _ _ q2, frozen_of_row w2 g 2 _ _ q2, frozen_of_row w2 g 3 _ _ q2⟩, by omega⟩

set_option maxRecDepth 100000 in
set_option maxHeartbeats 2000000 in
theorem clean_any (k n : Int) (f : Nat) (s : ByteArray) (w : World) : Calls Tryz.prog 13 #[vV k n f s] w (RetV (clV k n f s) w) := by
  have sf := store_float
  by_cases h1 : k = 1
  · subst h1
    go_enter Tryz.func13, Tryz.ntmps13
    go_wp2
    exact bodyPost_ret (v := vV 1 n 0 ⟨#[]⟩) (by simp [results, Tryz.results13, go_sem]) rfl ⟨rfl, by go_grown⟩
  · by_cases h2 : k = 2
    · subst h2
      have q := heap_alloc2_new w (.cells #[.int .i64 2, .int .i64 n, .float .f64 f, .string s] 24) (.cells #[.int .i64 0, .int .i64 0, .float .f64 0, .string ⟨#[]⟩] 24)
      have HR := Lib.hid (show clV 2 n f s = vV 2 0 (realZ f) ⟨#[]⟩ from rfl)
      have hA : Below w.heap.size w ((w.alloc (.cells #[.int .i64 2, .int .i64 n, .float .f64 f, .string s] 24)).alloc (.cells #[.int .i64 0, .int .i64 0, .float .f64 0, .string ⟨#[]⟩] 24)) := by go_grown
      have HC := Lib.hid (fun w => ofreal_any f w)
      have HQ := Lib.hid q
      clear q
      rw [HR.out]
      generalize realZ f = z at HR HC ⊢
      go_enter Tryz.func13, Tryz.ntmps13
      go_wp2_with (first
        | (go_at_call 21; (with_reducible refine (HC.out _).mono ?_); rintro e w2 ⟨rfl, hB⟩; obtain ⟨⟨d0, d1, d2, d3⟩, ⟨f0, f1, f2, f3⟩, l0⟩ := result_kept HQ.out hB; have hB2 := hA.trans (hB.mono hA.size))
        | fail)
      exact bodyPost_ret (v := vV 2 0 z ⟨#[]⟩) (by simp [results, Tryz.results13, go_sem, d0, d1, d2, d3]) rfl ⟨rfl, by exact (((hB2.setCell (Nat.le_succ _) _).setCell (Nat.le_succ _) _).setCell (Nat.le_succ _) _).setCell (Nat.le_succ _) _⟩
    · by_cases h3 : k = 3
      · subst h3
        go_enter Tryz.func13, Tryz.ntmps13
        go_wp2
        exact bodyPost_ret (v := vV 3 0 0 s) (by simp [results, Tryz.results13, go_sem]) rfl ⟨rfl, by go_grown⟩
      · by_cases h4 : k = 4
        · subst h4
          by_cases hn : n = 0
          · subst hn
            go_enter Tryz.func13, Tryz.ntmps13
            go_wp2
            exact bodyPost_ret (v := vV 4 0 0 ⟨#[]⟩) (by simp [results, Tryz.results13, go_sem]) rfl ⟨rfl, by go_grown⟩
          · have H := Lib.hid (show clN 4 n = 1 by unfold clN; simp [hn])
            have hb : (n != 0) = true := by simpa using hn
            go_enter Tryz.func13, Tryz.ntmps13
            go_wp2
            exact bodyPost_ret (v := vV 4 1 0 ⟨#[]⟩) (by simp [results, Tryz.results13, go_sem]) rfl ⟨by unfold clV; rw [H.out]; rfl, by go_grown⟩
        · have H := Lib.hid (show clV k n f s = nullV by unfold clV clK clN clF clS; rw [if_neg (by omega), if_neg h1, if_neg h4, if_neg h2, if_neg h3])
          rw [H.out]
          have b1 : (k == 1) = false := by simpa using h1
          have b2 : (k == 2) = false := by simpa using h2
          have b3 : (k == 3) = false := by simpa using h3
          have b4 : (k == 4) = false := by simpa using h4
          go_enter Tryz.func13, Tryz.ntmps13
          go_wp2
          exact bodyPost_ret (v := nullV) (by simp [results, Tryz.results13, go_sem]) rfl ⟨rfl, by go_grown⟩
end Go.Proofs.YtoafiombpokpaaaGreatDoor
