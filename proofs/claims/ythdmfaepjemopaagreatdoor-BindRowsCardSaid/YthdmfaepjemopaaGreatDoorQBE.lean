/- The walk of the document's typed at comparisons and reckonings, and what it answers. -/
import Derived.Test.YthdmfaepjemopaaGreatDoorQBD
namespace Go.Proofs.YthdmfaepjemopaaGreatDoor
open Go.RowKit

set_option maxRecDepth 100000 in
set_option maxHeartbeats 16000000 in
theorem rty_7a (a : Int)  (B : Option Addr) (cB : Nat) (w : World) (hT : IntsAt w B [a, a]) : Calls Tryz.prog 49 #[.int .i64 7, .slice B 2 cB] w (RetV (.tuple #[.int .i64 4, .int .i64 0]) w) := by
  obtain ⟨tb, tof, rfl, htb, ht0⟩ := int_at (k := 0) (z := a) hT rfl
  have ht1 : w.cell? ⟨tb, tof + 1, none⟩ = some (.int .i64 a) := by obtain ⟨_, _, e, _, h⟩ := int_at (k := 1) (z := a) hT rfl; cases e; exact h
  rw [Nat.add_zero] at ht0
  have hBL : ∀ O O2 O3, Below w.heap.size w (((w.alloc O).alloc O2).alloc O3) := fun O O2 O3 => ((below1 w O).alloc (below1 w O).size O2).alloc (by simp <;> omega) O3
  have g0 : (a == a) = true := beq_self_eq_true _
  have c0 := cell_kept ht0 (hBL (.cells #[.int .i64 1, .int .i64 2] 3) (.cells #[.int .i64 1, .int .i64 2, .int .i64 3] 3) (.cells #[.int .i64 4] 3))
  have c1 := cell_kept ht1 (hBL (.cells #[.int .i64 1, .int .i64 2] 3) (.cells #[.int .i64 1, .int .i64 2, .int .i64 3] 3) (.cells #[.int .i64 4] 3))
  clear hT
  go_enter Tryz.func49, Tryz.ntmps49
  go_wp2_with fail
  go_quiet ((fail))
  go_wp2_with fail
  exact bodyPost_ret (res_tt (fn := Tryz.f49) rfl rfl rfl) rfl ⟨rfl, below_drewN (hBL _ _ _) _⟩
set_option maxRecDepth 100000 in
set_option maxHeartbeats 16000000 in
theorem rty_7b (b : Int) (h0b : 0 ≠ b) (B : Option Addr) (cB : Nat) (w : World) (hT : IntsAt w B [0, b]) : Calls Tryz.prog 49 #[.int .i64 7, .slice B 2 cB] w (RetV (.tuple #[.int .i64 4, .int .i64 0]) w) := by
  obtain ⟨tb, tof, rfl, htb, ht0⟩ := int_at (k := 0) (z := 0) hT rfl
  have ht1 : w.cell? ⟨tb, tof + 1, none⟩ = some (.int .i64 b) := by obtain ⟨_, _, e, _, h⟩ := int_at (k := 1) (z := b) hT rfl; cases e; exact h
  rw [Nat.add_zero] at ht0
  have hBL : ∀ O O2 O3, Below w.heap.size w (((w.alloc O).alloc O2).alloc O3) := fun O O2 O3 => ((below1 w O).alloc (below1 w O).size O2).alloc (by simp <;> omega) O3
  have g0b : ((0 : Int) == b) = false := beq_eq_false_iff_ne.2 h0b
  have k0b : ((0 : Int) = b) = False := eq_false h0b
  have c0 := cell_kept ht0 (hBL (.cells #[.int .i64 1, .int .i64 2] 3) (.cells #[.int .i64 1, .int .i64 2, .int .i64 3] 3) (.cells #[.int .i64 4] 3))
  have c1 := cell_kept ht1 (hBL (.cells #[.int .i64 1, .int .i64 2] 3) (.cells #[.int .i64 1, .int .i64 2, .int .i64 3] 3) (.cells #[.int .i64 4] 3))
  clear hT
  go_enter Tryz.func49, Tryz.ntmps49
  go_wp2_with fail
  go_quiet ((fail))
  go_wp2_with fail
  exact bodyPost_ret (res_tt (fn := Tryz.f49) rfl rfl rfl) rfl ⟨rfl, below_drewN (hBL _ _ _) _⟩
set_option maxRecDepth 100000 in
set_option maxHeartbeats 16000000 in
theorem rty_7c (a : Int) (ha0 : a ≠ 0) (B : Option Addr) (cB : Nat) (w : World) (hT : IntsAt w B [a, 0]) : Calls Tryz.prog 49 #[.int .i64 7, .slice B 2 cB] w (RetV (.tuple #[.int .i64 4, .int .i64 0]) w) := by
  obtain ⟨tb, tof, rfl, htb, ht0⟩ := int_at (k := 0) (z := a) hT rfl
  have ht1 : w.cell? ⟨tb, tof + 1, none⟩ = some (.int .i64 0) := by obtain ⟨_, _, e, _, h⟩ := int_at (k := 1) (z := 0) hT rfl; cases e; exact h
  rw [Nat.add_zero] at ht0
  have hBL : ∀ O O2 O3, Below w.heap.size w (((w.alloc O).alloc O2).alloc O3) := fun O O2 O3 => ((below1 w O).alloc (below1 w O).size O2).alloc (by simp <;> omega) O3
  have ga0 : (a == 0) = false := beq_eq_false_iff_ne.2 ha0
  have ka0 : (a = 0) = False := eq_false ha0
  have c0 := cell_kept ht0 (hBL (.cells #[.int .i64 1, .int .i64 2] 3) (.cells #[.int .i64 1, .int .i64 2, .int .i64 3] 3) (.cells #[.int .i64 4] 3))
  have c1 := cell_kept ht1 (hBL (.cells #[.int .i64 1, .int .i64 2] 3) (.cells #[.int .i64 1, .int .i64 2, .int .i64 3] 3) (.cells #[.int .i64 4] 3))
  clear hT
  go_enter Tryz.func49, Tryz.ntmps49
  go_wp2_with fail
  go_quiet ((fail))
  go_wp2_with fail
  exact bodyPost_ret (res_tt (fn := Tryz.f49) rfl rfl rfl) rfl ⟨rfl, below_drewN (hBL _ _ _) _⟩
set_option maxRecDepth 100000 in
set_option maxHeartbeats 16000000 in
theorem rty_7n (a b : Int) (hab : a ≠ b) (ha0 : a ≠ 0) (hb0 : b ≠ 0) (B : Option Addr) (cB : Nat) (w : World) (hT : IntsAt w B [a, b]) : Calls Tryz.prog 49 #[.int .i64 7, .slice B 2 cB] w (RetV (.tuple #[.int .i64 0, .int .i64 70]) w) := by
  obtain ⟨tb, tof, rfl, htb, ht0⟩ := int_at (k := 0) (z := a) hT rfl
  have ht1 : w.cell? ⟨tb, tof + 1, none⟩ = some (.int .i64 b) := by obtain ⟨_, _, e, _, h⟩ := int_at (k := 1) (z := b) hT rfl; cases e; exact h
  rw [Nat.add_zero] at ht0
  have hBL : ∀ O O2 O3, Below w.heap.size w (((w.alloc O).alloc O2).alloc O3) := fun O O2 O3 => ((below1 w O).alloc (below1 w O).size O2).alloc (by simp <;> omega) O3
  have gab : (a == b) = false := beq_eq_false_iff_ne.2 hab
  have kab : (a = b) = False := eq_false hab
  have ga0 : (a == 0) = false := beq_eq_false_iff_ne.2 ha0
  have ka0 : (a = 0) = False := eq_false ha0
  have gb0 : (b == 0) = false := beq_eq_false_iff_ne.2 hb0
  have kb0 : (b = 0) = False := eq_false hb0
  have c0 := cell_kept ht0 (hBL (.cells #[.int .i64 1, .int .i64 2] 3) (.cells #[.int .i64 1, .int .i64 2, .int .i64 3] 3) (.cells #[.int .i64 4] 3))
  have c1 := cell_kept ht1 (hBL (.cells #[.int .i64 1, .int .i64 2] 3) (.cells #[.int .i64 1, .int .i64 2, .int .i64 3] 3) (.cells #[.int .i64 4] 3))
  clear hT
  go_enter Tryz.func49, Tryz.ntmps49
  go_wp2_with fail
  go_quiet ((fail))
  go_wp2_with fail
  exact bodyPost_ret (res_tt (fn := Tryz.f49) rfl rfl rfl) rfl ⟨rfl, below_drewN (hBL _ _ _) _⟩
set_option maxRecDepth 100000 in
set_option maxHeartbeats 16000000 in
theorem rty_8x (a b : Int) (hHA : likeT a [1, 2] = false) (B : Option Addr) (cB : Nat) (w : World) (hT : IntsAt w B [a, b]) : Calls Tryz.prog 49 #[.int .i64 8, .slice B 2 cB] w (RetV (.tuple #[.int .i64 0, .int .i64 70]) w) := by
  obtain ⟨tb, tof, rfl, htb, ht0⟩ := int_at (k := 0) (z := a) hT rfl
  have ht1 : w.cell? ⟨tb, tof + 1, none⟩ = some (.int .i64 b) := by obtain ⟨_, _, e, _, h⟩ := int_at (k := 1) (z := b) hT rfl; cases e; exact h
  rw [Nat.add_zero] at ht0
  have hBL : ∀ O O2 O3, Below w.heap.size w (((w.alloc O).alloc O2).alloc O3) := fun O O2 O3 => ((below1 w O).alloc (below1 w O).size O2).alloc (by simp <;> omega) O3
  have H0 := fun (t : Int) n => Lib.hid (show Calls Tryz.prog 73 #[.int .i64 t, .slice (some ⟨w.heap.size, 0, none⟩) 2 2] ((((w.alloc (.cells #[.int .i64 1, .int .i64 2] 3)).alloc (.cells #[.int .i64 1, .int .i64 2, .int .i64 3] 3)).alloc (.cells #[.int .i64 4] 3)).drewN n) (fun e w' => e = .returned (.bool (likeT t [1, 2])) ∧ ((((w.alloc (.cells #[.int .i64 1, .int .i64 2] 3)).alloc (.cells #[.int .i64 1, .int .i64 2, .int .i64 3] 3)).alloc (.cells #[.int .i64 4] 3)).drewN n) = w') from in_any t _ 2 [1, 2] _ (ints_bx ((BX.three w _ _ _).keep (below_drewN (Below.refl _ _) n)) [1, 2] 0 rfl (by decide)))
  have H2 := fun (t : Int) n => Lib.hid (show Calls Tryz.prog 73 #[.int .i64 t, .slice (some ⟨w.heap.size + 2, 0, none⟩) 1 1] ((((w.alloc (.cells #[.int .i64 1, .int .i64 2] 3)).alloc (.cells #[.int .i64 1, .int .i64 2, .int .i64 3] 3)).alloc (.cells #[.int .i64 4] 3)).drewN n) (fun e w' => e = .returned (.bool (likeT t [4])) ∧ ((((w.alloc (.cells #[.int .i64 1, .int .i64 2] 3)).alloc (.cells #[.int .i64 1, .int .i64 2, .int .i64 3] 3)).alloc (.cells #[.int .i64 4] 3)).drewN n) = w') from in_any t _ 1 [4] _ (ints_bx ((BX.three w _ _ _).keep (below_drewN (Below.refl _ _) n)) [4] 2 rfl (by decide)))
  have Z0 := fun (t : Int) => Lib.hid (show Calls Tryz.prog 73 #[.int .i64 t, .slice (some ⟨w.heap.size, 0, none⟩) 2 2] (((w.alloc (.cells #[.int .i64 1, .int .i64 2] 3)).alloc (.cells #[.int .i64 1, .int .i64 2, .int .i64 3] 3)).alloc (.cells #[.int .i64 4] 3)) (fun e w' => e = .returned (.bool (likeT t [1, 2])) ∧ (((w.alloc (.cells #[.int .i64 1, .int .i64 2] 3)).alloc (.cells #[.int .i64 1, .int .i64 2, .int .i64 3] 3)).alloc (.cells #[.int .i64 4] 3)) = w') from (H0 t 0).out)
  have Z2 := fun (t : Int) => Lib.hid (show Calls Tryz.prog 73 #[.int .i64 t, .slice (some ⟨w.heap.size + 1 + 1, 0, none⟩) 1 1] (((w.alloc (.cells #[.int .i64 1, .int .i64 2] 3)).alloc (.cells #[.int .i64 1, .int .i64 2, .int .i64 3] 3)).alloc (.cells #[.int .i64 4] 3)) (fun e w' => e = .returned (.bool (likeT t [4])) ∧ (((w.alloc (.cells #[.int .i64 1, .int .i64 2] 3)).alloc (.cells #[.int .i64 1, .int .i64 2, .int .i64 3] 3)).alloc (.cells #[.int .i64 4] 3)) = w') from (H2 t 0).out)
  have HA : ∀ n, Hid (Calls Tryz.prog 73 #[.int .i64 a, .slice (some ⟨w.heap.size, 0, none⟩) 2 2] ((((w.alloc (.cells #[.int .i64 1, .int .i64 2] 3)).alloc (.cells #[.int .i64 1, .int .i64 2, .int .i64 3] 3)).alloc (.cells #[.int .i64 4] 3)).drewN n) (fun e w' => e = .returned (.bool false) ∧ (((w.alloc (.cells #[.int .i64 1, .int .i64 2] 3)).alloc (.cells #[.int .i64 1, .int .i64 2, .int .i64 3] 3)).alloc (.cells #[.int .i64 4] 3)).drewN n = w')) := fun n => Lib.hid (by have h := (H0 a n).out; rwa [hHA] at h)
  have c0 := cell_kept ht0 (hBL (.cells #[.int .i64 1, .int .i64 2] 3) (.cells #[.int .i64 1, .int .i64 2, .int .i64 3] 3) (.cells #[.int .i64 4] 3))
  have c1 := cell_kept ht1 (hBL (.cells #[.int .i64 1, .int .i64 2] 3) (.cells #[.int .i64 1, .int .i64 2, .int .i64 3] 3) (.cells #[.int .i64 4] 3))
  clear hT
  go_enter Tryz.func49, Tryz.ntmps49
  go_wp2_with fail
  go_quiet (first
    | ((with_reducible refine quiet_here (HA _).out))
    | fail)
  go_wp2_with fail
  exact bodyPost_ret (res_tt (fn := Tryz.f49) rfl rfl rfl) rfl ⟨rfl, below_drewN (hBL _ _ _) _⟩
set_option maxRecDepth 100000 in
set_option maxHeartbeats 16000000 in
theorem rty_8y (a b : Int) (hHA : likeT a [1, 2] = true) (hHB : likeT b [1, 2] = false) (B : Option Addr) (cB : Nat) (w : World) (hT : IntsAt w B [a, b]) : Calls Tryz.prog 49 #[.int .i64 8, .slice B 2 cB] w (RetV (.tuple #[.int .i64 0, .int .i64 70]) w) := by
  obtain ⟨tb, tof, rfl, htb, ht0⟩ := int_at (k := 0) (z := a) hT rfl
  have ht1 : w.cell? ⟨tb, tof + 1, none⟩ = some (.int .i64 b) := by obtain ⟨_, _, e, _, h⟩ := int_at (k := 1) (z := b) hT rfl; cases e; exact h
  rw [Nat.add_zero] at ht0
  have hBL : ∀ O O2 O3, Below w.heap.size w (((w.alloc O).alloc O2).alloc O3) := fun O O2 O3 => ((below1 w O).alloc (below1 w O).size O2).alloc (by simp <;> omega) O3
  have H0 := fun (t : Int) n => Lib.hid (show Calls Tryz.prog 73 #[.int .i64 t, .slice (some ⟨w.heap.size, 0, none⟩) 2 2] ((((w.alloc (.cells #[.int .i64 1, .int .i64 2] 3)).alloc (.cells #[.int .i64 1, .int .i64 2, .int .i64 3] 3)).alloc (.cells #[.int .i64 4] 3)).drewN n) (fun e w' => e = .returned (.bool (likeT t [1, 2])) ∧ ((((w.alloc (.cells #[.int .i64 1, .int .i64 2] 3)).alloc (.cells #[.int .i64 1, .int .i64 2, .int .i64 3] 3)).alloc (.cells #[.int .i64 4] 3)).drewN n) = w') from in_any t _ 2 [1, 2] _ (ints_bx ((BX.three w _ _ _).keep (below_drewN (Below.refl _ _) n)) [1, 2] 0 rfl (by decide)))
  have H2 := fun (t : Int) n => Lib.hid (show Calls Tryz.prog 73 #[.int .i64 t, .slice (some ⟨w.heap.size + 2, 0, none⟩) 1 1] ((((w.alloc (.cells #[.int .i64 1, .int .i64 2] 3)).alloc (.cells #[.int .i64 1, .int .i64 2, .int .i64 3] 3)).alloc (.cells #[.int .i64 4] 3)).drewN n) (fun e w' => e = .returned (.bool (likeT t [4])) ∧ ((((w.alloc (.cells #[.int .i64 1, .int .i64 2] 3)).alloc (.cells #[.int .i64 1, .int .i64 2, .int .i64 3] 3)).alloc (.cells #[.int .i64 4] 3)).drewN n) = w') from in_any t _ 1 [4] _ (ints_bx ((BX.three w _ _ _).keep (below_drewN (Below.refl _ _) n)) [4] 2 rfl (by decide)))
  have Z0 := fun (t : Int) => Lib.hid (show Calls Tryz.prog 73 #[.int .i64 t, .slice (some ⟨w.heap.size, 0, none⟩) 2 2] (((w.alloc (.cells #[.int .i64 1, .int .i64 2] 3)).alloc (.cells #[.int .i64 1, .int .i64 2, .int .i64 3] 3)).alloc (.cells #[.int .i64 4] 3)) (fun e w' => e = .returned (.bool (likeT t [1, 2])) ∧ (((w.alloc (.cells #[.int .i64 1, .int .i64 2] 3)).alloc (.cells #[.int .i64 1, .int .i64 2, .int .i64 3] 3)).alloc (.cells #[.int .i64 4] 3)) = w') from (H0 t 0).out)
  have Z2 := fun (t : Int) => Lib.hid (show Calls Tryz.prog 73 #[.int .i64 t, .slice (some ⟨w.heap.size + 1 + 1, 0, none⟩) 1 1] (((w.alloc (.cells #[.int .i64 1, .int .i64 2] 3)).alloc (.cells #[.int .i64 1, .int .i64 2, .int .i64 3] 3)).alloc (.cells #[.int .i64 4] 3)) (fun e w' => e = .returned (.bool (likeT t [4])) ∧ (((w.alloc (.cells #[.int .i64 1, .int .i64 2] 3)).alloc (.cells #[.int .i64 1, .int .i64 2, .int .i64 3] 3)).alloc (.cells #[.int .i64 4] 3)) = w') from (H2 t 0).out)
  have HA : ∀ n, Hid (Calls Tryz.prog 73 #[.int .i64 a, .slice (some ⟨w.heap.size, 0, none⟩) 2 2] ((((w.alloc (.cells #[.int .i64 1, .int .i64 2] 3)).alloc (.cells #[.int .i64 1, .int .i64 2, .int .i64 3] 3)).alloc (.cells #[.int .i64 4] 3)).drewN n) (fun e w' => e = .returned (.bool true) ∧ (((w.alloc (.cells #[.int .i64 1, .int .i64 2] 3)).alloc (.cells #[.int .i64 1, .int .i64 2, .int .i64 3] 3)).alloc (.cells #[.int .i64 4] 3)).drewN n = w')) := fun n => Lib.hid (by have h := (H0 a n).out; rwa [hHA] at h)
  have HB : ∀ n, Hid (Calls Tryz.prog 73 #[.int .i64 b, .slice (some ⟨w.heap.size, 0, none⟩) 2 2] ((((w.alloc (.cells #[.int .i64 1, .int .i64 2] 3)).alloc (.cells #[.int .i64 1, .int .i64 2, .int .i64 3] 3)).alloc (.cells #[.int .i64 4] 3)).drewN n) (fun e w' => e = .returned (.bool false) ∧ (((w.alloc (.cells #[.int .i64 1, .int .i64 2] 3)).alloc (.cells #[.int .i64 1, .int .i64 2, .int .i64 3] 3)).alloc (.cells #[.int .i64 4] 3)).drewN n = w')) := fun n => Lib.hid (by have h := (H0 b n).out; rwa [hHB] at h)
  have c0 := cell_kept ht0 (hBL (.cells #[.int .i64 1, .int .i64 2] 3) (.cells #[.int .i64 1, .int .i64 2, .int .i64 3] 3) (.cells #[.int .i64 4] 3))
  have c1 := cell_kept ht1 (hBL (.cells #[.int .i64 1, .int .i64 2] 3) (.cells #[.int .i64 1, .int .i64 2, .int .i64 3] 3) (.cells #[.int .i64 4] 3))
  clear hT
  go_enter Tryz.func49, Tryz.ntmps49
  go_wp2_with fail
  go_quiet (first
    | ((with_reducible refine quiet_here (HA _).out))
    | ((with_reducible refine quiet_here (HB _).out))
    | fail)
  go_wp2_with fail
  exact bodyPost_ret (res_tt (fn := Tryz.f49) rfl rfl rfl) rfl ⟨rfl, below_drewN (hBL _ _ _) _⟩
set_option maxRecDepth 100000 in
set_option maxHeartbeats 16000000 in
theorem rty_8a (a : Int) (hHA : likeT a [1, 2] = true) (B : Option Addr) (cB : Nat) (w : World) (hT : IntsAt w B [a, a]) : Calls Tryz.prog 49 #[.int .i64 8, .slice B 2 cB] w (RetV (.tuple #[.int .i64 a, .int .i64 0]) w) := by
  obtain ⟨tb, tof, rfl, htb, ht0⟩ := int_at (k := 0) (z := a) hT rfl
  have ht1 : w.cell? ⟨tb, tof + 1, none⟩ = some (.int .i64 a) := by obtain ⟨_, _, e, _, h⟩ := int_at (k := 1) (z := a) hT rfl; cases e; exact h
  rw [Nat.add_zero] at ht0
  have hBL : ∀ O O2 O3, Below w.heap.size w (((w.alloc O).alloc O2).alloc O3) := fun O O2 O3 => ((below1 w O).alloc (below1 w O).size O2).alloc (by simp <;> omega) O3
  have H0 := fun (t : Int) n => Lib.hid (show Calls Tryz.prog 73 #[.int .i64 t, .slice (some ⟨w.heap.size, 0, none⟩) 2 2] ((((w.alloc (.cells #[.int .i64 1, .int .i64 2] 3)).alloc (.cells #[.int .i64 1, .int .i64 2, .int .i64 3] 3)).alloc (.cells #[.int .i64 4] 3)).drewN n) (fun e w' => e = .returned (.bool (likeT t [1, 2])) ∧ ((((w.alloc (.cells #[.int .i64 1, .int .i64 2] 3)).alloc (.cells #[.int .i64 1, .int .i64 2, .int .i64 3] 3)).alloc (.cells #[.int .i64 4] 3)).drewN n) = w') from in_any t _ 2 [1, 2] _ (ints_bx ((BX.three w _ _ _).keep (below_drewN (Below.refl _ _) n)) [1, 2] 0 rfl (by decide)))
  have H2 := fun (t : Int) n => Lib.hid (show Calls Tryz.prog 73 #[.int .i64 t, .slice (some ⟨w.heap.size + 2, 0, none⟩) 1 1] ((((w.alloc (.cells #[.int .i64 1, .int .i64 2] 3)).alloc (.cells #[.int .i64 1, .int .i64 2, .int .i64 3] 3)).alloc (.cells #[.int .i64 4] 3)).drewN n) (fun e w' => e = .returned (.bool (likeT t [4])) ∧ ((((w.alloc (.cells #[.int .i64 1, .int .i64 2] 3)).alloc (.cells #[.int .i64 1, .int .i64 2, .int .i64 3] 3)).alloc (.cells #[.int .i64 4] 3)).drewN n) = w') from in_any t _ 1 [4] _ (ints_bx ((BX.three w _ _ _).keep (below_drewN (Below.refl _ _) n)) [4] 2 rfl (by decide)))
  have Z0 := fun (t : Int) => Lib.hid (show Calls Tryz.prog 73 #[.int .i64 t, .slice (some ⟨w.heap.size, 0, none⟩) 2 2] (((w.alloc (.cells #[.int .i64 1, .int .i64 2] 3)).alloc (.cells #[.int .i64 1, .int .i64 2, .int .i64 3] 3)).alloc (.cells #[.int .i64 4] 3)) (fun e w' => e = .returned (.bool (likeT t [1, 2])) ∧ (((w.alloc (.cells #[.int .i64 1, .int .i64 2] 3)).alloc (.cells #[.int .i64 1, .int .i64 2, .int .i64 3] 3)).alloc (.cells #[.int .i64 4] 3)) = w') from (H0 t 0).out)
  have Z2 := fun (t : Int) => Lib.hid (show Calls Tryz.prog 73 #[.int .i64 t, .slice (some ⟨w.heap.size + 1 + 1, 0, none⟩) 1 1] (((w.alloc (.cells #[.int .i64 1, .int .i64 2] 3)).alloc (.cells #[.int .i64 1, .int .i64 2, .int .i64 3] 3)).alloc (.cells #[.int .i64 4] 3)) (fun e w' => e = .returned (.bool (likeT t [4])) ∧ (((w.alloc (.cells #[.int .i64 1, .int .i64 2] 3)).alloc (.cells #[.int .i64 1, .int .i64 2, .int .i64 3] 3)).alloc (.cells #[.int .i64 4] 3)) = w') from (H2 t 0).out)
  have HA : ∀ n, Hid (Calls Tryz.prog 73 #[.int .i64 a, .slice (some ⟨w.heap.size, 0, none⟩) 2 2] ((((w.alloc (.cells #[.int .i64 1, .int .i64 2] 3)).alloc (.cells #[.int .i64 1, .int .i64 2, .int .i64 3] 3)).alloc (.cells #[.int .i64 4] 3)).drewN n) (fun e w' => e = .returned (.bool true) ∧ (((w.alloc (.cells #[.int .i64 1, .int .i64 2] 3)).alloc (.cells #[.int .i64 1, .int .i64 2, .int .i64 3] 3)).alloc (.cells #[.int .i64 4] 3)).drewN n = w')) := fun n => Lib.hid (by have h := (H0 a n).out; rwa [hHA] at h)
  have g0 : (a == a) = true := beq_self_eq_true _
  have gm : max a a = a := by omega
  have c0 := cell_kept ht0 (hBL (.cells #[.int .i64 1, .int .i64 2] 3) (.cells #[.int .i64 1, .int .i64 2, .int .i64 3] 3) (.cells #[.int .i64 4] 3))
  have c1 := cell_kept ht1 (hBL (.cells #[.int .i64 1, .int .i64 2] 3) (.cells #[.int .i64 1, .int .i64 2, .int .i64 3] 3) (.cells #[.int .i64 4] 3))
  clear hT
  go_enter Tryz.func49, Tryz.ntmps49
  go_wp2_with fail
  go_quiet (first
    | ((with_reducible refine quiet_here (HA _).out))
    | fail)
  go_wp2_with fail
  go_quiet ((fail))
  go_wp2_with fail
  exact bodyPost_ret (res_tt (fn := Tryz.f49) rfl rfl rfl) rfl ⟨rfl, below_drewN (below_drewN (hBL _ _ _) _) _⟩
set_option maxRecDepth 100000 in
set_option maxHeartbeats 16000000 in
theorem rty_8b (b : Int) (h0b : 0 ≠ b) (hHB : likeT b [1, 2] = true) (B : Option Addr) (cB : Nat) (w : World) (hT : IntsAt w B [0, b]) : Calls Tryz.prog 49 #[.int .i64 8, .slice B 2 cB] w (RetV (.tuple #[.int .i64 (max 0 b), .int .i64 0]) w) := by
  obtain ⟨tb, tof, rfl, htb, ht0⟩ := int_at (k := 0) (z := 0) hT rfl
  have ht1 : w.cell? ⟨tb, tof + 1, none⟩ = some (.int .i64 b) := by obtain ⟨_, _, e, _, h⟩ := int_at (k := 1) (z := b) hT rfl; cases e; exact h
  rw [Nat.add_zero] at ht0
  have hBL : ∀ O O2 O3, Below w.heap.size w (((w.alloc O).alloc O2).alloc O3) := fun O O2 O3 => ((below1 w O).alloc (below1 w O).size O2).alloc (by simp <;> omega) O3
  have H0 := fun (t : Int) n => Lib.hid (show Calls Tryz.prog 73 #[.int .i64 t, .slice (some ⟨w.heap.size, 0, none⟩) 2 2] ((((w.alloc (.cells #[.int .i64 1, .int .i64 2] 3)).alloc (.cells #[.int .i64 1, .int .i64 2, .int .i64 3] 3)).alloc (.cells #[.int .i64 4] 3)).drewN n) (fun e w' => e = .returned (.bool (likeT t [1, 2])) ∧ ((((w.alloc (.cells #[.int .i64 1, .int .i64 2] 3)).alloc (.cells #[.int .i64 1, .int .i64 2, .int .i64 3] 3)).alloc (.cells #[.int .i64 4] 3)).drewN n) = w') from in_any t _ 2 [1, 2] _ (ints_bx ((BX.three w _ _ _).keep (below_drewN (Below.refl _ _) n)) [1, 2] 0 rfl (by decide)))
  have H2 := fun (t : Int) n => Lib.hid (show Calls Tryz.prog 73 #[.int .i64 t, .slice (some ⟨w.heap.size + 2, 0, none⟩) 1 1] ((((w.alloc (.cells #[.int .i64 1, .int .i64 2] 3)).alloc (.cells #[.int .i64 1, .int .i64 2, .int .i64 3] 3)).alloc (.cells #[.int .i64 4] 3)).drewN n) (fun e w' => e = .returned (.bool (likeT t [4])) ∧ ((((w.alloc (.cells #[.int .i64 1, .int .i64 2] 3)).alloc (.cells #[.int .i64 1, .int .i64 2, .int .i64 3] 3)).alloc (.cells #[.int .i64 4] 3)).drewN n) = w') from in_any t _ 1 [4] _ (ints_bx ((BX.three w _ _ _).keep (below_drewN (Below.refl _ _) n)) [4] 2 rfl (by decide)))
  have Z0 := fun (t : Int) => Lib.hid (show Calls Tryz.prog 73 #[.int .i64 t, .slice (some ⟨w.heap.size, 0, none⟩) 2 2] (((w.alloc (.cells #[.int .i64 1, .int .i64 2] 3)).alloc (.cells #[.int .i64 1, .int .i64 2, .int .i64 3] 3)).alloc (.cells #[.int .i64 4] 3)) (fun e w' => e = .returned (.bool (likeT t [1, 2])) ∧ (((w.alloc (.cells #[.int .i64 1, .int .i64 2] 3)).alloc (.cells #[.int .i64 1, .int .i64 2, .int .i64 3] 3)).alloc (.cells #[.int .i64 4] 3)) = w') from (H0 t 0).out)
  have Z2 := fun (t : Int) => Lib.hid (show Calls Tryz.prog 73 #[.int .i64 t, .slice (some ⟨w.heap.size + 1 + 1, 0, none⟩) 1 1] (((w.alloc (.cells #[.int .i64 1, .int .i64 2] 3)).alloc (.cells #[.int .i64 1, .int .i64 2, .int .i64 3] 3)).alloc (.cells #[.int .i64 4] 3)) (fun e w' => e = .returned (.bool (likeT t [4])) ∧ (((w.alloc (.cells #[.int .i64 1, .int .i64 2] 3)).alloc (.cells #[.int .i64 1, .int .i64 2, .int .i64 3] 3)).alloc (.cells #[.int .i64 4] 3)) = w') from (H2 t 0).out)
  have hHZ : likeT 0 [1, 2] = true := by decide
  have HZ : ∀ n, Hid (Calls Tryz.prog 73 #[.int .i64 0, .slice (some ⟨w.heap.size, 0, none⟩) 2 2] ((((w.alloc (.cells #[.int .i64 1, .int .i64 2] 3)).alloc (.cells #[.int .i64 1, .int .i64 2, .int .i64 3] 3)).alloc (.cells #[.int .i64 4] 3)).drewN n) (fun e w' => e = .returned (.bool true) ∧ (((w.alloc (.cells #[.int .i64 1, .int .i64 2] 3)).alloc (.cells #[.int .i64 1, .int .i64 2, .int .i64 3] 3)).alloc (.cells #[.int .i64 4] 3)).drewN n = w')) := fun n => Lib.hid (by have h := (H0 0 n).out; rwa [hHZ] at h)
  have HB : ∀ n, Hid (Calls Tryz.prog 73 #[.int .i64 b, .slice (some ⟨w.heap.size, 0, none⟩) 2 2] ((((w.alloc (.cells #[.int .i64 1, .int .i64 2] 3)).alloc (.cells #[.int .i64 1, .int .i64 2, .int .i64 3] 3)).alloc (.cells #[.int .i64 4] 3)).drewN n) (fun e w' => e = .returned (.bool true) ∧ (((w.alloc (.cells #[.int .i64 1, .int .i64 2] 3)).alloc (.cells #[.int .i64 1, .int .i64 2, .int .i64 3] 3)).alloc (.cells #[.int .i64 4] 3)).drewN n = w')) := fun n => Lib.hid (by have h := (H0 b n).out; rwa [hHB] at h)
  have g0b : ((0 : Int) == b) = false := beq_eq_false_iff_ne.2 h0b
  have k0b : ((0 : Int) = b) = False := eq_false h0b
  have c0 := cell_kept ht0 (hBL (.cells #[.int .i64 1, .int .i64 2] 3) (.cells #[.int .i64 1, .int .i64 2, .int .i64 3] 3) (.cells #[.int .i64 4] 3))
  have c1 := cell_kept ht1 (hBL (.cells #[.int .i64 1, .int .i64 2] 3) (.cells #[.int .i64 1, .int .i64 2, .int .i64 3] 3) (.cells #[.int .i64 4] 3))
  clear hT
  go_enter Tryz.func49, Tryz.ntmps49
  go_wp2_with fail
  go_quiet (first
    | ((with_reducible refine quiet_here (HZ _).out))
    | ((with_reducible refine quiet_here (HB _).out))
    | fail)
  go_wp2_with fail
  go_quiet ((fail))
  go_wp2_with fail
  exact bodyPost_ret (res_tt (fn := Tryz.f49) rfl rfl rfl) rfl ⟨rfl, below_drewN (below_drewN (hBL _ _ _) _) _⟩
set_option maxRecDepth 100000 in
set_option maxHeartbeats 16000000 in
theorem rty_8c (a : Int) (ha0 : a ≠ 0) (hHA : likeT a [1, 2] = true) (B : Option Addr) (cB : Nat) (w : World) (hT : IntsAt w B [a, 0]) : Calls Tryz.prog 49 #[.int .i64 8, .slice B 2 cB] w (RetV (.tuple #[.int .i64 (max a 0), .int .i64 0]) w) := by
  obtain ⟨tb, tof, rfl, htb, ht0⟩ := int_at (k := 0) (z := a) hT rfl
  have ht1 : w.cell? ⟨tb, tof + 1, none⟩ = some (.int .i64 0) := by obtain ⟨_, _, e, _, h⟩ := int_at (k := 1) (z := 0) hT rfl; cases e; exact h
  rw [Nat.add_zero] at ht0
  have hBL : ∀ O O2 O3, Below w.heap.size w (((w.alloc O).alloc O2).alloc O3) := fun O O2 O3 => ((below1 w O).alloc (below1 w O).size O2).alloc (by simp <;> omega) O3
  have H0 := fun (t : Int) n => Lib.hid (show Calls Tryz.prog 73 #[.int .i64 t, .slice (some ⟨w.heap.size, 0, none⟩) 2 2] ((((w.alloc (.cells #[.int .i64 1, .int .i64 2] 3)).alloc (.cells #[.int .i64 1, .int .i64 2, .int .i64 3] 3)).alloc (.cells #[.int .i64 4] 3)).drewN n) (fun e w' => e = .returned (.bool (likeT t [1, 2])) ∧ ((((w.alloc (.cells #[.int .i64 1, .int .i64 2] 3)).alloc (.cells #[.int .i64 1, .int .i64 2, .int .i64 3] 3)).alloc (.cells #[.int .i64 4] 3)).drewN n) = w') from in_any t _ 2 [1, 2] _ (ints_bx ((BX.three w _ _ _).keep (below_drewN (Below.refl _ _) n)) [1, 2] 0 rfl (by decide)))
  have H2 := fun (t : Int) n => Lib.hid (show Calls Tryz.prog 73 #[.int .i64 t, .slice (some ⟨w.heap.size + 2, 0, none⟩) 1 1] ((((w.alloc (.cells #[.int .i64 1, .int .i64 2] 3)).alloc (.cells #[.int .i64 1, .int .i64 2, .int .i64 3] 3)).alloc (.cells #[.int .i64 4] 3)).drewN n) (fun e w' => e = .returned (.bool (likeT t [4])) ∧ ((((w.alloc (.cells #[.int .i64 1, .int .i64 2] 3)).alloc (.cells #[.int .i64 1, .int .i64 2, .int .i64 3] 3)).alloc (.cells #[.int .i64 4] 3)).drewN n) = w') from in_any t _ 1 [4] _ (ints_bx ((BX.three w _ _ _).keep (below_drewN (Below.refl _ _) n)) [4] 2 rfl (by decide)))
  have Z0 := fun (t : Int) => Lib.hid (show Calls Tryz.prog 73 #[.int .i64 t, .slice (some ⟨w.heap.size, 0, none⟩) 2 2] (((w.alloc (.cells #[.int .i64 1, .int .i64 2] 3)).alloc (.cells #[.int .i64 1, .int .i64 2, .int .i64 3] 3)).alloc (.cells #[.int .i64 4] 3)) (fun e w' => e = .returned (.bool (likeT t [1, 2])) ∧ (((w.alloc (.cells #[.int .i64 1, .int .i64 2] 3)).alloc (.cells #[.int .i64 1, .int .i64 2, .int .i64 3] 3)).alloc (.cells #[.int .i64 4] 3)) = w') from (H0 t 0).out)
  have Z2 := fun (t : Int) => Lib.hid (show Calls Tryz.prog 73 #[.int .i64 t, .slice (some ⟨w.heap.size + 1 + 1, 0, none⟩) 1 1] (((w.alloc (.cells #[.int .i64 1, .int .i64 2] 3)).alloc (.cells #[.int .i64 1, .int .i64 2, .int .i64 3] 3)).alloc (.cells #[.int .i64 4] 3)) (fun e w' => e = .returned (.bool (likeT t [4])) ∧ (((w.alloc (.cells #[.int .i64 1, .int .i64 2] 3)).alloc (.cells #[.int .i64 1, .int .i64 2, .int .i64 3] 3)).alloc (.cells #[.int .i64 4] 3)) = w') from (H2 t 0).out)
  have hHZ : likeT 0 [1, 2] = true := by decide
  have HZ : ∀ n, Hid (Calls Tryz.prog 73 #[.int .i64 0, .slice (some ⟨w.heap.size, 0, none⟩) 2 2] ((((w.alloc (.cells #[.int .i64 1, .int .i64 2] 3)).alloc (.cells #[.int .i64 1, .int .i64 2, .int .i64 3] 3)).alloc (.cells #[.int .i64 4] 3)).drewN n) (fun e w' => e = .returned (.bool true) ∧ (((w.alloc (.cells #[.int .i64 1, .int .i64 2] 3)).alloc (.cells #[.int .i64 1, .int .i64 2, .int .i64 3] 3)).alloc (.cells #[.int .i64 4] 3)).drewN n = w')) := fun n => Lib.hid (by have h := (H0 0 n).out; rwa [hHZ] at h)
  have HA : ∀ n, Hid (Calls Tryz.prog 73 #[.int .i64 a, .slice (some ⟨w.heap.size, 0, none⟩) 2 2] ((((w.alloc (.cells #[.int .i64 1, .int .i64 2] 3)).alloc (.cells #[.int .i64 1, .int .i64 2, .int .i64 3] 3)).alloc (.cells #[.int .i64 4] 3)).drewN n) (fun e w' => e = .returned (.bool true) ∧ (((w.alloc (.cells #[.int .i64 1, .int .i64 2] 3)).alloc (.cells #[.int .i64 1, .int .i64 2, .int .i64 3] 3)).alloc (.cells #[.int .i64 4] 3)).drewN n = w')) := fun n => Lib.hid (by have h := (H0 a n).out; rwa [hHA] at h)
  have ga0 : (a == 0) = false := beq_eq_false_iff_ne.2 ha0
  have ka0 : (a = 0) = False := eq_false ha0
  have c0 := cell_kept ht0 (hBL (.cells #[.int .i64 1, .int .i64 2] 3) (.cells #[.int .i64 1, .int .i64 2, .int .i64 3] 3) (.cells #[.int .i64 4] 3))
  have c1 := cell_kept ht1 (hBL (.cells #[.int .i64 1, .int .i64 2] 3) (.cells #[.int .i64 1, .int .i64 2, .int .i64 3] 3) (.cells #[.int .i64 4] 3))
  clear hT
  go_enter Tryz.func49, Tryz.ntmps49
  go_wp2_with fail
  go_quiet (first
    | ((with_reducible refine quiet_here (HA _).out))
    | ((with_reducible refine quiet_here (HZ _).out))
    | fail)
  go_wp2_with fail
  go_quiet ((fail))
  go_wp2_with fail
  exact bodyPost_ret (res_tt (fn := Tryz.f49) rfl rfl rfl) rfl ⟨rfl, below_drewN (below_drewN (hBL _ _ _) _) _⟩
set_option maxRecDepth 100000 in
set_option maxHeartbeats 16000000 in
theorem rty_8n (a b : Int) (hHA : likeT a [1, 2] = true) (hHB : likeT b [1, 2] = true) (hab : a ≠ b) (ha0 : a ≠ 0) (hb0 : b ≠ 0) (B : Option Addr) (cB : Nat) (w : World) (hT : IntsAt w B [a, b]) : Calls Tryz.prog 49 #[.int .i64 8, .slice B 2 cB] w (RetV (.tuple #[.int .i64 0, .int .i64 70]) w) := by
  obtain ⟨tb, tof, rfl, htb, ht0⟩ := int_at (k := 0) (z := a) hT rfl
  have ht1 : w.cell? ⟨tb, tof + 1, none⟩ = some (.int .i64 b) := by obtain ⟨_, _, e, _, h⟩ := int_at (k := 1) (z := b) hT rfl; cases e; exact h
  rw [Nat.add_zero] at ht0
  have hBL : ∀ O O2 O3, Below w.heap.size w (((w.alloc O).alloc O2).alloc O3) := fun O O2 O3 => ((below1 w O).alloc (below1 w O).size O2).alloc (by simp <;> omega) O3
  have H0 := fun (t : Int) n => Lib.hid (show Calls Tryz.prog 73 #[.int .i64 t, .slice (some ⟨w.heap.size, 0, none⟩) 2 2] ((((w.alloc (.cells #[.int .i64 1, .int .i64 2] 3)).alloc (.cells #[.int .i64 1, .int .i64 2, .int .i64 3] 3)).alloc (.cells #[.int .i64 4] 3)).drewN n) (fun e w' => e = .returned (.bool (likeT t [1, 2])) ∧ ((((w.alloc (.cells #[.int .i64 1, .int .i64 2] 3)).alloc (.cells #[.int .i64 1, .int .i64 2, .int .i64 3] 3)).alloc (.cells #[.int .i64 4] 3)).drewN n) = w') from in_any t _ 2 [1, 2] _ (ints_bx ((BX.three w _ _ _).keep (below_drewN (Below.refl _ _) n)) [1, 2] 0 rfl (by decide)))
  have H2 := fun (t : Int) n => Lib.hid (show Calls Tryz.prog 73 #[.int .i64 t, .slice (some ⟨w.heap.size + 2, 0, none⟩) 1 1] ((((w.alloc (.cells #[.int .i64 1, .int .i64 2] 3)).alloc (.cells #[.int .i64 1, .int .i64 2, .int .i64 3] 3)).alloc (.cells #[.int .i64 4] 3)).drewN n) (fun e w' => e = .returned (.bool (likeT t [4])) ∧ ((((w.alloc (.cells #[.int .i64 1, .int .i64 2] 3)).alloc (.cells #[.int .i64 1, .int .i64 2, .int .i64 3] 3)).alloc (.cells #[.int .i64 4] 3)).drewN n) = w') from in_any t _ 1 [4] _ (ints_bx ((BX.three w _ _ _).keep (below_drewN (Below.refl _ _) n)) [4] 2 rfl (by decide)))
  have Z0 := fun (t : Int) => Lib.hid (show Calls Tryz.prog 73 #[.int .i64 t, .slice (some ⟨w.heap.size, 0, none⟩) 2 2] (((w.alloc (.cells #[.int .i64 1, .int .i64 2] 3)).alloc (.cells #[.int .i64 1, .int .i64 2, .int .i64 3] 3)).alloc (.cells #[.int .i64 4] 3)) (fun e w' => e = .returned (.bool (likeT t [1, 2])) ∧ (((w.alloc (.cells #[.int .i64 1, .int .i64 2] 3)).alloc (.cells #[.int .i64 1, .int .i64 2, .int .i64 3] 3)).alloc (.cells #[.int .i64 4] 3)) = w') from (H0 t 0).out)
  have Z2 := fun (t : Int) => Lib.hid (show Calls Tryz.prog 73 #[.int .i64 t, .slice (some ⟨w.heap.size + 1 + 1, 0, none⟩) 1 1] (((w.alloc (.cells #[.int .i64 1, .int .i64 2] 3)).alloc (.cells #[.int .i64 1, .int .i64 2, .int .i64 3] 3)).alloc (.cells #[.int .i64 4] 3)) (fun e w' => e = .returned (.bool (likeT t [4])) ∧ (((w.alloc (.cells #[.int .i64 1, .int .i64 2] 3)).alloc (.cells #[.int .i64 1, .int .i64 2, .int .i64 3] 3)).alloc (.cells #[.int .i64 4] 3)) = w') from (H2 t 0).out)
  have HA : ∀ n, Hid (Calls Tryz.prog 73 #[.int .i64 a, .slice (some ⟨w.heap.size, 0, none⟩) 2 2] ((((w.alloc (.cells #[.int .i64 1, .int .i64 2] 3)).alloc (.cells #[.int .i64 1, .int .i64 2, .int .i64 3] 3)).alloc (.cells #[.int .i64 4] 3)).drewN n) (fun e w' => e = .returned (.bool true) ∧ (((w.alloc (.cells #[.int .i64 1, .int .i64 2] 3)).alloc (.cells #[.int .i64 1, .int .i64 2, .int .i64 3] 3)).alloc (.cells #[.int .i64 4] 3)).drewN n = w')) := fun n => Lib.hid (by have h := (H0 a n).out; rwa [hHA] at h)
  have HB : ∀ n, Hid (Calls Tryz.prog 73 #[.int .i64 b, .slice (some ⟨w.heap.size, 0, none⟩) 2 2] ((((w.alloc (.cells #[.int .i64 1, .int .i64 2] 3)).alloc (.cells #[.int .i64 1, .int .i64 2, .int .i64 3] 3)).alloc (.cells #[.int .i64 4] 3)).drewN n) (fun e w' => e = .returned (.bool true) ∧ (((w.alloc (.cells #[.int .i64 1, .int .i64 2] 3)).alloc (.cells #[.int .i64 1, .int .i64 2, .int .i64 3] 3)).alloc (.cells #[.int .i64 4] 3)).drewN n = w')) := fun n => Lib.hid (by have h := (H0 b n).out; rwa [hHB] at h)
  have gab : (a == b) = false := beq_eq_false_iff_ne.2 hab
  have kab : (a = b) = False := eq_false hab
  have ga0 : (a == 0) = false := beq_eq_false_iff_ne.2 ha0
  have ka0 : (a = 0) = False := eq_false ha0
  have gb0 : (b == 0) = false := beq_eq_false_iff_ne.2 hb0
  have kb0 : (b = 0) = False := eq_false hb0
  have c0 := cell_kept ht0 (hBL (.cells #[.int .i64 1, .int .i64 2] 3) (.cells #[.int .i64 1, .int .i64 2, .int .i64 3] 3) (.cells #[.int .i64 4] 3))
  have c1 := cell_kept ht1 (hBL (.cells #[.int .i64 1, .int .i64 2] 3) (.cells #[.int .i64 1, .int .i64 2, .int .i64 3] 3) (.cells #[.int .i64 4] 3))
  clear hT
  go_enter Tryz.func49, Tryz.ntmps49
  go_wp2_with fail
  go_quiet (first
    | ((with_reducible refine quiet_here (HA _).out))
    | ((with_reducible refine quiet_here (HB _).out))
    | fail)
  go_wp2_with fail
  exact bodyPost_ret (res_tt (fn := Tryz.f49) rfl rfl rfl) rfl ⟨rfl, below_drewN (hBL _ _ _) _⟩
def tyO (r : Except Int Int) : Value := match r with
  | .ok t => .tuple #[.int .i64 t, .int .i64 0]
  | .error e => .tuple #[.int .i64 0, .int .i64 e]
theorem like_reck {a b : Int} (ha : 0 ≤ a ∧ a ≤ 4) (hb : 0 ≤ b ∧ b ≤ 4) (h : a = 0 ∨ b = 0 ∨ a = b) : likeT (max a b) [1, 2] = (likeT a [1, 2] && likeT b [1, 2]) := by
  obtain ⟨a0, a4⟩ := ha
  obtain ⟨b0, b4⟩ := hb
  have h1 : a = 0 ∨ a = 1 ∨ a = 2 ∨ a = 3 ∨ a = 4 := by omega
  have h2 : b = 0 ∨ b = 1 ∨ b = 2 ∨ b = 3 ∨ b = 4 := by omega
  rcases h1 with rfl | rfl | rfl | rfl | rfl <;> rcases h2 with rfl | rfl | rfl | rfl | rfl <;> first | decide | (exfalso; omega)
theorem rty_two (k a b : Int) (hk : k = 5 ∨ k = 6 ∨ k = 7 ∨ k = 8) (ha : 0 ≤ a ∧ a ≤ 4) (hb : 0 ≤ b ∧ b ≤ 4) (B : Option Addr) (cB : Nat) (w : World) (hT : IntsAt w B [a, b]) : Calls Tryz.prog 49 #[.int .i64 k, .slice B 2 cB] w (RetV (tyO (typeR k [a, b])) w) := by
  rcases hk with rfl | rfl | rfl | rfl
  · show Calls _ _ _ _ (RetV (tyO (if likeT a [4] && likeT b [4] then Except.ok 4 else Except.error (70 : Int))) w)
    cases hl : likeT a [4] with
    | false => exact rty_5n a b hl B cB w hT
    | true =>
      cases hm : likeT b [4] with
      | false => exact rty_5m a b hl hm B cB w hT
      | true => exact rty_5y a b hl hm B cB w hT
  · show Calls _ _ _ _ (RetV (tyO (if likeT a [4] && likeT b [4] then Except.ok 4 else Except.error (70 : Int))) w)
    cases hl : likeT a [4] with
    | false => exact rty_6n a b hl B cB w hT
    | true =>
      cases hm : likeT b [4] with
      | false => exact rty_6m a b hl hm B cB w hT
      | true => exact rty_6y a b hl hm B cB w hT
  · show Calls _ _ _ _ (RetV (tyO (if a = 0 ∨ b = 0 ∨ a = b then Except.ok 4 else Except.error (70 : Int))) w)
    by_cases hab : a = b
    · subst hab
      rw [if_pos (Or.inr (Or.inr rfl))]
      exact rty_7a a B cB w hT
    · by_cases ha0 : a = 0
      · subst ha0
        rw [if_pos (Or.inl rfl)]
        exact rty_7b b hab B cB w hT
      · by_cases hb0 : b = 0
        · subst hb0
          rw [if_pos (Or.inr (Or.inl rfl))]
          exact rty_7c a ha0 B cB w hT
        · rw [if_neg (fun h => by rcases h with h | h | h <;> contradiction)]
          exact rty_7n a b hab ha0 hb0 B cB w hT
  · show Calls _ _ _ _ (RetV (tyO (if (a = 0 ∨ b = 0 ∨ a = b) ∧ likeT (max a b) [1, 2] = true then Except.ok (max a b) else Except.error (70 : Int))) w)
    cases hA : likeT a [1, 2] with
    | false =>
      rw [if_neg (fun h => by rw [like_reck ha hb h.1, hA] at h; cases h.2)]
      exact rty_8x a b hA B cB w hT
    | true =>
      cases hB : likeT b [1, 2] with
      | false =>
        rw [if_neg (fun h => by rw [like_reck ha hb h.1, hA, hB] at h; cases h.2)]
        exact rty_8y a b hA hB B cB w hT
      | true =>
        by_cases hab : a = b
        · subst hab
          rw [if_pos ⟨Or.inr (Or.inr rfl), by rw [like_reck ha ha (Or.inr (Or.inr rfl)), hA]; rfl⟩, show max a a = a by omega]
          exact rty_8a a hA B cB w hT
        · by_cases ha0 : a = 0
          · subst ha0
            rw [if_pos ⟨Or.inl rfl, by rw [like_reck ha hb (Or.inl rfl), hA, hB]; rfl⟩]
            exact rty_8b b hab hB B cB w hT
          · by_cases hb0 : b = 0
            · subst hb0
              rw [if_pos ⟨Or.inr (Or.inl rfl), by rw [like_reck ha hb (Or.inr (Or.inl rfl)), hA, hB]; rfl⟩]
              exact rty_8c a ha0 hA B cB w hT
            · rw [if_neg (fun h => by rcases h.1 with h | h | h <;> contradiction)]
              exact rty_8n a b hA hB hab ha0 hb0 B cB w hT
theorem rty_one (k a : Int) (hk : k = 3 ∨ k = 4 ∨ k = 9) (B : Option Addr) (cB : Nat) (w : World) (hT : IntsAt w B [a]) : Calls Tryz.prog 49 #[.int .i64 k, .slice B 1 cB] w (RetV (tyO (typeR k [a])) w) := by
  rcases hk with rfl | rfl | rfl
  · show Calls _ _ _ _ (RetV (tyO (if likeT a [1, 2] then Except.ok a else Except.error (70 : Int))) w)
    cases hl : likeT a [1, 2] with
    | false => exact rty_3n a hl B cB w hT
    | true => exact rty_3y a hl B cB w hT
  · show Calls _ _ _ _ (RetV (tyO (if likeT a [4] then Except.ok 4 else Except.error (70 : Int))) w)
    cases hl : likeT a [4] with
    | false => exact rty_4n a hl B cB w hT
    | true => exact rty_4y a hl B cB w hT
  · exact rty_9 a B cB w hT
end Go.Proofs.YthdmfaepjemopaaGreatDoor
