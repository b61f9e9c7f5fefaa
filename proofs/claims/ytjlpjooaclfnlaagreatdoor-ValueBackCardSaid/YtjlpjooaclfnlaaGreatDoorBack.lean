/- The walk of the statement ValueBack. -/
import Derived.Test.YtjlpjooaclfnlaaGreatDoorRows4
import Derived.Test.YtjlpjooaclfnlaaGreatDoorOpen
namespace Go.Proofs.YtjlpjooaclfnlaaGreatDoor
open Go.RowKit

/-- two new rows and a call behind them -/
theorem Row4.new2 {w W w2 : World} (h : Below w.heap.size w W) {a0 a1 a2 a3 b0 b1 b2 b3 : Value} (hB : Below ((W.alloc (.cells #[a0, a1, a2, a3] 24)).alloc (.cells #[b0, b1, b2, b3] 24)).heap.size ((W.alloc (.cells #[a0, a1, a2, a3] 24)).alloc (.cells #[b0, b1, b2, b3] 24)) w2) :
    Below w.heap.size w w2 ∧ Row4 w2 W.heap.size a0 a1 a2 a3 ∧ Row4 w2 (W.heap.size + 1) b0 b1 b2 b3 := by
  have T := Two.call (Two.start W a0 a1 a2 a3 b0 b1 b2 b3) hB
  exact ⟨h.trans (T.2.2.mono h.size), T.1, T.2.1⟩
/-- a new row and a call behind it -/
theorem Row4.one {w W w2 : World} (h : Below w.heap.size w W) {a0 a1 a2 a3 : Value} (hB : Below (W.alloc (.cells #[a0, a1, a2, a3] 24)).heap.size (W.alloc (.cells #[a0, a1, a2, a3] 24)) w2) :
    Below w.heap.size w w2 ∧ Row4 w2 W.heap.size a0 a1 a2 a3 :=
  ⟨(h.alloc h.size _).trans (hB.mono (h.alloc h.size _).size), (Row4.new W a0 a1 a2 a3).call hB⟩
theorem Row4.call1 {W w2 : World} {b : Nat} {u0 u1 u2 u3 : Value} {o : Obj} (h : Row4 W b u0 u1 u2 u3) (hB : Below (W.alloc o).heap.size (W.alloc o) w2) : Row4 w2 b u0 u1 u2 u3 := (h.alloc o).call hB
theorem arith_int (op : ByteArray) (a b : Int) (W : World) (ha : In64 a) (hb : In64 b) : Calls Tryz.prog 15 #[.string op, intV a, intV b] W (RetV (numV (arN op.toList a b)) W) :=
  arith_any op 1 a 0 ⟨#[]⟩ 1 b 0 ⟨#[]⟩ W ha hb

set_option maxRecDepth 100000 in
set_option maxHeartbeats 8000000 in
theorem back_walk (a b s p kS kP : Int) (w : World) (hS : kS = 0 ∨ kS = 1) (hP : kP = 0 ∨ kP = 1)
    (hs : ∀ W, Calls Tryz.prog 15 #[.string ⟨#[43]⟩, intV a, intV b] W (RetV (vV kS s 0 ⟨#[]⟩) W))
    (hd : ∀ W, kS = 1 → Calls Tryz.prog 15 #[.string ⟨#[45]⟩, intV s, intV b] W (RetV (intV a) W))
    (hp : ∀ W, Calls Tryz.prog 15 #[.string ⟨#[42]⟩, intV a, intV b] W (RetV (vV kP p 0 ⟨#[]⟩) W))
    (hq : kP = 1 → b ≠ 0 → wrap64 (p.tdiv b) = a) (hr : kP = 1 → p.tmod b = 0) : Calls Tryz.prog 4 #[.int .i64 a, .int .i64 b] w (RetT w) := by
  have sf := store_float
  have HS := Lib.hid hs
  have HP := Lib.hid hp
  clear hs hp
  have F : (kS = 0 ∨ kS = 1 ∧ (∀ W, Calls Tryz.prog 15 #[.string ⟨#[45]⟩, intV s, intV b] W (RetV (intV a) W))) := hS.imp id (fun h => ⟨h, fun W => hd W h⟩)
  clear hd hS
  have FB : kP = 1 → (b = 0 ∧ (b == 0) = true ∧ (b != 0) = false) ∨ ((b == 0) = false ∧ (b != 0) = true ∧ b ≠ 0 ∧ (wrap64 (p.tdiv b) == a) = true ∧ (p.tmod b == 0) = true) := by
    intro h1
    by_cases h : b = 0
    · subst h; exact .inl ⟨rfl, rfl, rfl⟩
    · exact .inr ⟨by simpa using h, by simpa using h, h, by rw [hq h1 h]; simp, by rw [hr h1]; rfl⟩
  clear hq hr
  rcases hP with rfl | rfl <;> rcases F with rfl | ⟨rfl, hd⟩
  case' inr.inl => rcases FB rfl with ⟨rfl, B1, B2⟩ | ⟨B1, B2, hb0, Q1, Q2⟩
  case' inr.inr => rcases FB rfl with ⟨rfl, B1, B2⟩ | ⟨B1, B2, hb0, Q1, Q2⟩
  all_goals
    (try clear FB)
    (try have HD := Lib.hid hd)
    (try clear hd)
    go_enter Tryz.func4, Tryz.ntmps4
    have hD := Below.refl w.heap.size w
    go_wp2_with (first
      | (go_at_call 11; (with_reducible refine (lives_any _).mono ?_); rintro e w2 ⟨rfl, hB⟩; have hD := hD.trans (hB.mono hD.size); clear hB)
      | (go_at_call 14; (with_reducible refine (ofint_any _ _).mono ?_); rintro e w3 ⟨rfl, hB⟩; have hD := hD.trans (hB.mono hD.size); clear hB)
      | (go_at_call 15; (with_reducible refine (HS.out _).mono ?_); rintro e w4 ⟨rfl, hB⟩; have hT := Row4.new2 hD hB; obtain ⟨hE, hR5, hR6⟩ := id hT; obtain ⟨⟨a0, a1, a2, a3⟩, -⟩ := hR5.cells; obtain ⟨⟨b0, b1, b2, b3⟩, -⟩ := hR6.cells; have l5 := hR5.lt; have l6 := hR6.lt; clear hB)
      | (go_at_call 15; ((with_reducible refine (HD.out _).mono ?_); rintro e w5 ⟨rfl, hB⟩; have hT := Row4.one hE hB; obtain ⟨hE, -⟩ := id hT; have hR5 := Row4.call1 hR5 hB; have hR6 := Row4.call1 hR6 hB; obtain ⟨⟨a0, a1, a2, a3⟩, -⟩ := hR5.cells; obtain ⟨⟨b0, b1, b2, b3⟩, -⟩ := hR6.cells; have l5 := hR5.lt; have l6 := hR6.lt; clear hB))
      | (go_at_call 15; (with_reducible refine (HP.out _).mono ?_); rintro e w6 ⟨rfl, hB⟩; have hT := Row4.one hE hB; obtain ⟨hE, -⟩ := id hT; clear hB)
      | fail)
  all_goals
    go_ret
    exact ⟨ret_bool (by simp_all), hE.alloc hE.size _⟩
theorem numV_ite (c : Bool) (n : Int) : numV (if c = true then some n else none) = vV (if c = true then 1 else 0) (if c = true then n else 0) 0 ⟨#[]⟩ := by
  split <;> rfl
theorem back_law (a b : Int) (w : World) (ha : In64 a) (hb : In64 b) : Calls Tryz.prog 4 #[.int .i64 a, .int .i64 b] w (RetT w) := by
  have e1 : ∀ x y : Int, arN (ByteArray.toList ⟨#[43]⟩) x y = if fit64 (x + y) = true then some (x + y) else none := fun x y => by rw [ByteArray.toList_eq]; rfl
  have e2 : ∀ x y : Int, arN (ByteArray.toList ⟨#[45]⟩) x y = if fit64 (x - y) = true then some (x - y) else none := fun x y => by rw [ByteArray.toList_eq]; rfl
  have e3 : ∀ x y : Int, arN (ByteArray.toList ⟨#[42]⟩) x y = if fit64 (x * y) = true then some (x * y) else none := fun x y => by rw [ByteArray.toList_eq]; rfl
  have hs := fun W => arith_int ⟨#[43]⟩ a b W ha hb
  have hp := fun W => arith_int ⟨#[42]⟩ a b W ha hb
  rw [e1, numV_ite] at hs
  rw [e3, numV_ite] at hp
  refine back_walk a b _ _ _ _ w (by split <;> simp) (by split <;> simp) hs (fun W h => ?_) hp (fun h hb0 => ?_) (fun h => ?_)
  · have h1 : fit64 (a + b) = true := by
      by_cases g : fit64 (a + b) = true
      · exact g
      · rw [if_neg g] at h; cases h
    rw [if_pos h1]
    have hd := arith_int ⟨#[45]⟩ (a + b) b W (fit64_in.1 h1) hb
    have h2 : fit64 (a + b - b) = true := by rw [show a + b - b = a by omega]; exact fit64_in.2 ha
    rw [e2, if_pos h2, show a + b - b = a by omega] at hd
    exact hd
  · have h1 : fit64 (a * b) = true := by
      by_cases g : fit64 (a * b) = true
      · exact g
      · rw [if_neg g] at h; cases h
    rw [if_pos h1, Int.mul_tdiv_cancel _ hb0, wrap64_eq ha]
  · have h1 : fit64 (a * b) = true := by
      by_cases g : fit64 (a * b) = true
      · exact g
      · rw [if_neg g] at h; cases h
    rw [if_pos h1]
    exact Int.mul_tmod_left a b
theorem back_open {W : World} (a : Int) (wa : (Lit.int .i64 a).wf = true) (b : Int) (wb : (Lit.int .i64 b).wf = true) {X : Prop} (_hL : X) : Calls Tryz.prog 4 #[.int .i64 a, .int .i64 b] W (RetT W) :=
  back_law a b W (wf_i64 wa) (wf_i64 wb)
end Go.Proofs.YtjlpjooaclfnlaaGreatDoor
