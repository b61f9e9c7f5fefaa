/- The walks of the document's column where there is no table, and of typed. -/
import Derived.Test.YthdmfaepjemopaaGreatDoorQBC
namespace Go.Proofs.YthdmfaepjemopaaGreatDoor
open Go.RowKit

@[reducible] def sc0V : Value := .agg #[.slice none 0 0, .slice none 0 0, .slice none 0 0, .bool false]
@[reducible] def nd0V : Value := .agg #[.int .i64 0, .string ⟨#[]⟩, .int .i64 0, .int .i64 0, .float .f64 0, .string ⟨#[]⟩, .int .i64 0, .bool false, .int .i64 0, .slice none 0 0]
theorem res_n {fn : Func} {i j : Nat} (h : fn.results = #[.cell i 54, .tmp j]) {tm : Array Value} {W : World} {pb : Nat} {s : Value} (hp : tm[i]?.getD undef = .pointer (some ⟨pb, 0, none⟩)) (he : tm[j]?.getD undef = s) {u0 u1 u2 u3 u4 u5 u6 u7 u8 u9 : Value} {ty : TypeId} (h1 : W.heap[pb]? = some (.cells #[u0, u1, u2, u3, u4, u5, u6, u7, u8, u9] ty)) :
    (results fn tm).run Tryz.prog W = .ok (.tuple #[.agg #[u0, u1, u2, u3, u4, u5, u6, u7, u8, u9], s]) W := by
  obtain ⟨a0, a1, a2, a3, a4, a5, a6, a7, a8, a9⟩ := row10 h1
  simp [results, h, go_sem, hp, he, a0, a1, a2, a3, a4, a5, a6, a7, a8, a9]
set_option maxRecDepth 100000 in
set_option maxHeartbeats 16000000 in
theorem rcol_none (k : Int) (op : ByteArray) (lk ln : Int) (lf : Nat) (ls tn nm : ByteArray) (ng : Bool) (xa : Option Addr) (q xc : Nat) (w : World) : Calls Tryz.prog 47 #[sc0V, .agg #[.int .i64 k, .string op, .int .i64 lk, .int .i64 ln, .float .f64 lf, .string ls, .string tn, .string nm, .bool ng, .slice xa q xc]] w (RetV (.tuple #[nd0V, .int .i64 131]) w) := by
  have sf := store_float
  unfold sc0V nd0V
  go_enter Tryz.func47, Tryz.ntmps47
  go_wp2_with fail
  go_loopw [7, 8] (fun cn i wr => cn = .int .i64 0 ∧ i = .int .i64 0 ∧ wr = ((((w.alloc (.cells #[.slice none 0 0, .slice none 0 0, .slice none 0 0, .bool false] 92)).alloc (.cells #[.int .i64 k, .string op, .int .i64 lk, .int .i64 ln, .float .f64 lf, .string ls, .string tn, .string nm, .bool ng, .slice xa q xc] 41)).alloc (.cells #[.int .i64 0, .string ⟨#[]⟩, .int .i64 0, .int .i64 0, .float .f64 0, .string ⟨#[]⟩, .int .i64 0, .bool false, .int .i64 0, .slice none 0 0] 54)).alloc (.cells #[.int .i64 0, .string ⟨#[]⟩, .int .i64 0, .int .i64 0, .float .f64 0, .string ⟨#[]⟩, .int .i64 0, .bool false, .int .i64 0, .slice none 0 0] 54))) (fun _ _ _ => 0)
  case atStart => exact ⟨rfl, rfl, rfl⟩
  case round =>
    obtain ⟨rfl, rfl, rfl⟩ := hrel
    go_wp2_with fail
    refine bodyPost_ret (res_n (fn := Tryz.f47) (pb := w.heap.size + 2) (ty := 54) rfl rfl rfl ?_) rfl ⟨rfl, by go_grown⟩
    rw [heap_alloc_old _ _ (by simp <;> omega)]
    exact alloc_at2 _ _ _ (by simp)
theorem res_tt {fn : Func} {i j : Nat} (h : fn.results = #[.tmp i, .tmp j]) {tm : Array Value} {W : World} {s t : Value} (hp : tm[i]?.getD undef = s) (he : tm[j]?.getD undef = t) : (results fn tm).run Tryz.prog W = .ok (.tuple #[s, t]) W := by
  simp [results, h, go_sem, hp, he]
theorem ints_bx {w W : World} {bs : List Obj} (h : BX w bs W) (l : List Int) (k : Nat) (hk : bs[k]? = some (.cells (l.map (Value.int .i64)).toArray 3)) (hl : l.length ≤ 1000) : IntsAt W (some ⟨w.heap.size + k, 0, none⟩) l := by
  have hr := h.2 k _ hk
  refine ⟨by unfold maxLen; omega, Or.inr ⟨_, 0, rfl, heap_lt hr, fun j z hz => ?_⟩⟩
  rw [cell_of_row _ _ (0 + j) _ _ _ hr, Nat.zero_add]
  simp [hz]
set_option maxRecDepth 100000 in
set_option maxHeartbeats 16000000 in
theorem rty_3y (a : Int) (hl : likeT a [1, 2] = true) (B : Option Addr) (cB : Nat) (w : World) (hT : IntsAt w B [a]) : Calls Tryz.prog 49 #[.int .i64 3, .slice B 1 cB] w (RetV (.tuple #[.int .i64 a, .int .i64 0]) w) := by
  obtain ⟨tb, tof, rfl, htb, ht0⟩ := int_at (k := 0) (z := a) hT rfl
  rw [Nat.add_zero] at ht0
  have hBL : ∀ O O2 O3, Below w.heap.size w (((w.alloc O).alloc O2).alloc O3) := fun O O2 O3 => ((below1 w O).alloc (below1 w O).size O2).alloc (by simp <;> omega) O3
  have H0 := fun (t : Int) n => Lib.hid (show Calls Tryz.prog 73 #[.int .i64 t, .slice (some ⟨w.heap.size, 0, none⟩) 2 2] ((((w.alloc (.cells #[.int .i64 1, .int .i64 2] 3)).alloc (.cells #[.int .i64 1, .int .i64 2, .int .i64 3] 3)).alloc (.cells #[.int .i64 4] 3)).drewN n) (fun e w' => e = .returned (.bool (likeT t [1, 2])) ∧ ((((w.alloc (.cells #[.int .i64 1, .int .i64 2] 3)).alloc (.cells #[.int .i64 1, .int .i64 2, .int .i64 3] 3)).alloc (.cells #[.int .i64 4] 3)).drewN n) = w') from in_any t _ 2 [1, 2] _ (ints_bx ((BX.three w _ _ _).keep (below_drewN (Below.refl _ _) n)) [1, 2] 0 rfl (by decide)))
  have H2 := fun (t : Int) n => Lib.hid (show Calls Tryz.prog 73 #[.int .i64 t, .slice (some ⟨w.heap.size + 2, 0, none⟩) 1 1] ((((w.alloc (.cells #[.int .i64 1, .int .i64 2] 3)).alloc (.cells #[.int .i64 1, .int .i64 2, .int .i64 3] 3)).alloc (.cells #[.int .i64 4] 3)).drewN n) (fun e w' => e = .returned (.bool (likeT t [4])) ∧ ((((w.alloc (.cells #[.int .i64 1, .int .i64 2] 3)).alloc (.cells #[.int .i64 1, .int .i64 2, .int .i64 3] 3)).alloc (.cells #[.int .i64 4] 3)).drewN n) = w') from in_any t _ 1 [4] _ (ints_bx ((BX.three w _ _ _).keep (below_drewN (Below.refl _ _) n)) [4] 2 rfl (by decide)))
  have Z0 := fun (t : Int) => Lib.hid (show Calls Tryz.prog 73 #[.int .i64 t, .slice (some ⟨w.heap.size, 0, none⟩) 2 2] (((w.alloc (.cells #[.int .i64 1, .int .i64 2] 3)).alloc (.cells #[.int .i64 1, .int .i64 2, .int .i64 3] 3)).alloc (.cells #[.int .i64 4] 3)) (fun e w' => e = .returned (.bool (likeT t [1, 2])) ∧ (((w.alloc (.cells #[.int .i64 1, .int .i64 2] 3)).alloc (.cells #[.int .i64 1, .int .i64 2, .int .i64 3] 3)).alloc (.cells #[.int .i64 4] 3)) = w') from (H0 t 0).out)
  have Z2 := fun (t : Int) => Lib.hid (show Calls Tryz.prog 73 #[.int .i64 t, .slice (some ⟨w.heap.size + 1 + 1, 0, none⟩) 1 1] (((w.alloc (.cells #[.int .i64 1, .int .i64 2] 3)).alloc (.cells #[.int .i64 1, .int .i64 2, .int .i64 3] 3)).alloc (.cells #[.int .i64 4] 3)) (fun e w' => e = .returned (.bool (likeT t [4])) ∧ (((w.alloc (.cells #[.int .i64 1, .int .i64 2] 3)).alloc (.cells #[.int .i64 1, .int .i64 2, .int .i64 3] 3)).alloc (.cells #[.int .i64 4] 3)) = w') from (H2 t 0).out)
  have c0 := cell_kept ht0 (hBL (.cells #[.int .i64 1, .int .i64 2] 3) (.cells #[.int .i64 1, .int .i64 2, .int .i64 3] 3) (.cells #[.int .i64 4] 3))
  clear hT
  go_enter Tryz.func49, Tryz.ntmps49
  go_wp2_with (first
    | (go_at_call 73; (with_reducible refine (Z0 a).out.mono ?_); rintro e w' ⟨rfl, rfl⟩; (try rw [hl]))
    | (go_at_call 73; (with_reducible refine (Z2 a).out.mono ?_); rintro e w' ⟨rfl, rfl⟩; (try rw [hl]))
    | fail)
  exact bodyPost_ret (res_tt (fn := Tryz.f49) rfl rfl rfl) rfl ⟨rfl, hBL _ _ _⟩
set_option maxRecDepth 100000 in
set_option maxHeartbeats 16000000 in
theorem rty_3n (a : Int) (hl : likeT a [1, 2] = false) (B : Option Addr) (cB : Nat) (w : World) (hT : IntsAt w B [a]) : Calls Tryz.prog 49 #[.int .i64 3, .slice B 1 cB] w (RetV (.tuple #[.int .i64 0, .int .i64 70]) w) := by
  obtain ⟨tb, tof, rfl, htb, ht0⟩ := int_at (k := 0) (z := a) hT rfl
  rw [Nat.add_zero] at ht0
  have hBL : ∀ O O2 O3, Below w.heap.size w (((w.alloc O).alloc O2).alloc O3) := fun O O2 O3 => ((below1 w O).alloc (below1 w O).size O2).alloc (by simp <;> omega) O3
  have H0 := fun (t : Int) n => Lib.hid (show Calls Tryz.prog 73 #[.int .i64 t, .slice (some ⟨w.heap.size, 0, none⟩) 2 2] ((((w.alloc (.cells #[.int .i64 1, .int .i64 2] 3)).alloc (.cells #[.int .i64 1, .int .i64 2, .int .i64 3] 3)).alloc (.cells #[.int .i64 4] 3)).drewN n) (fun e w' => e = .returned (.bool (likeT t [1, 2])) ∧ ((((w.alloc (.cells #[.int .i64 1, .int .i64 2] 3)).alloc (.cells #[.int .i64 1, .int .i64 2, .int .i64 3] 3)).alloc (.cells #[.int .i64 4] 3)).drewN n) = w') from in_any t _ 2 [1, 2] _ (ints_bx ((BX.three w _ _ _).keep (below_drewN (Below.refl _ _) n)) [1, 2] 0 rfl (by decide)))
  have H2 := fun (t : Int) n => Lib.hid (show Calls Tryz.prog 73 #[.int .i64 t, .slice (some ⟨w.heap.size + 2, 0, none⟩) 1 1] ((((w.alloc (.cells #[.int .i64 1, .int .i64 2] 3)).alloc (.cells #[.int .i64 1, .int .i64 2, .int .i64 3] 3)).alloc (.cells #[.int .i64 4] 3)).drewN n) (fun e w' => e = .returned (.bool (likeT t [4])) ∧ ((((w.alloc (.cells #[.int .i64 1, .int .i64 2] 3)).alloc (.cells #[.int .i64 1, .int .i64 2, .int .i64 3] 3)).alloc (.cells #[.int .i64 4] 3)).drewN n) = w') from in_any t _ 1 [4] _ (ints_bx ((BX.three w _ _ _).keep (below_drewN (Below.refl _ _) n)) [4] 2 rfl (by decide)))
  have Z0 := fun (t : Int) => Lib.hid (show Calls Tryz.prog 73 #[.int .i64 t, .slice (some ⟨w.heap.size, 0, none⟩) 2 2] (((w.alloc (.cells #[.int .i64 1, .int .i64 2] 3)).alloc (.cells #[.int .i64 1, .int .i64 2, .int .i64 3] 3)).alloc (.cells #[.int .i64 4] 3)) (fun e w' => e = .returned (.bool (likeT t [1, 2])) ∧ (((w.alloc (.cells #[.int .i64 1, .int .i64 2] 3)).alloc (.cells #[.int .i64 1, .int .i64 2, .int .i64 3] 3)).alloc (.cells #[.int .i64 4] 3)) = w') from (H0 t 0).out)
  have Z2 := fun (t : Int) => Lib.hid (show Calls Tryz.prog 73 #[.int .i64 t, .slice (some ⟨w.heap.size + 1 + 1, 0, none⟩) 1 1] (((w.alloc (.cells #[.int .i64 1, .int .i64 2] 3)).alloc (.cells #[.int .i64 1, .int .i64 2, .int .i64 3] 3)).alloc (.cells #[.int .i64 4] 3)) (fun e w' => e = .returned (.bool (likeT t [4])) ∧ (((w.alloc (.cells #[.int .i64 1, .int .i64 2] 3)).alloc (.cells #[.int .i64 1, .int .i64 2, .int .i64 3] 3)).alloc (.cells #[.int .i64 4] 3)) = w') from (H2 t 0).out)
  have c0 := cell_kept ht0 (hBL (.cells #[.int .i64 1, .int .i64 2] 3) (.cells #[.int .i64 1, .int .i64 2, .int .i64 3] 3) (.cells #[.int .i64 4] 3))
  clear hT
  go_enter Tryz.func49, Tryz.ntmps49
  go_wp2_with (first
    | (go_at_call 73; (with_reducible refine (Z0 a).out.mono ?_); rintro e w' ⟨rfl, rfl⟩; (try rw [hl]))
    | (go_at_call 73; (with_reducible refine (Z2 a).out.mono ?_); rintro e w' ⟨rfl, rfl⟩; (try rw [hl]))
    | fail)
  exact bodyPost_ret (res_tt (fn := Tryz.f49) rfl rfl rfl) rfl ⟨rfl, hBL _ _ _⟩
set_option maxRecDepth 100000 in
set_option maxHeartbeats 16000000 in
theorem rty_4y (a : Int) (hl : likeT a [4] = true) (B : Option Addr) (cB : Nat) (w : World) (hT : IntsAt w B [a]) : Calls Tryz.prog 49 #[.int .i64 4, .slice B 1 cB] w (RetV (.tuple #[.int .i64 4, .int .i64 0]) w) := by
  obtain ⟨tb, tof, rfl, htb, ht0⟩ := int_at (k := 0) (z := a) hT rfl
  rw [Nat.add_zero] at ht0
  have hBL : ∀ O O2 O3, Below w.heap.size w (((w.alloc O).alloc O2).alloc O3) := fun O O2 O3 => ((below1 w O).alloc (below1 w O).size O2).alloc (by simp <;> omega) O3
  have H0 := fun (t : Int) n => Lib.hid (show Calls Tryz.prog 73 #[.int .i64 t, .slice (some ⟨w.heap.size, 0, none⟩) 2 2] ((((w.alloc (.cells #[.int .i64 1, .int .i64 2] 3)).alloc (.cells #[.int .i64 1, .int .i64 2, .int .i64 3] 3)).alloc (.cells #[.int .i64 4] 3)).drewN n) (fun e w' => e = .returned (.bool (likeT t [1, 2])) ∧ ((((w.alloc (.cells #[.int .i64 1, .int .i64 2] 3)).alloc (.cells #[.int .i64 1, .int .i64 2, .int .i64 3] 3)).alloc (.cells #[.int .i64 4] 3)).drewN n) = w') from in_any t _ 2 [1, 2] _ (ints_bx ((BX.three w _ _ _).keep (below_drewN (Below.refl _ _) n)) [1, 2] 0 rfl (by decide)))
  have H2 := fun (t : Int) n => Lib.hid (show Calls Tryz.prog 73 #[.int .i64 t, .slice (some ⟨w.heap.size + 2, 0, none⟩) 1 1] ((((w.alloc (.cells #[.int .i64 1, .int .i64 2] 3)).alloc (.cells #[.int .i64 1, .int .i64 2, .int .i64 3] 3)).alloc (.cells #[.int .i64 4] 3)).drewN n) (fun e w' => e = .returned (.bool (likeT t [4])) ∧ ((((w.alloc (.cells #[.int .i64 1, .int .i64 2] 3)).alloc (.cells #[.int .i64 1, .int .i64 2, .int .i64 3] 3)).alloc (.cells #[.int .i64 4] 3)).drewN n) = w') from in_any t _ 1 [4] _ (ints_bx ((BX.three w _ _ _).keep (below_drewN (Below.refl _ _) n)) [4] 2 rfl (by decide)))
  have Z0 := fun (t : Int) => Lib.hid (show Calls Tryz.prog 73 #[.int .i64 t, .slice (some ⟨w.heap.size, 0, none⟩) 2 2] (((w.alloc (.cells #[.int .i64 1, .int .i64 2] 3)).alloc (.cells #[.int .i64 1, .int .i64 2, .int .i64 3] 3)).alloc (.cells #[.int .i64 4] 3)) (fun e w' => e = .returned (.bool (likeT t [1, 2])) ∧ (((w.alloc (.cells #[.int .i64 1, .int .i64 2] 3)).alloc (.cells #[.int .i64 1, .int .i64 2, .int .i64 3] 3)).alloc (.cells #[.int .i64 4] 3)) = w') from (H0 t 0).out)
  have Z2 := fun (t : Int) => Lib.hid (show Calls Tryz.prog 73 #[.int .i64 t, .slice (some ⟨w.heap.size + 1 + 1, 0, none⟩) 1 1] (((w.alloc (.cells #[.int .i64 1, .int .i64 2] 3)).alloc (.cells #[.int .i64 1, .int .i64 2, .int .i64 3] 3)).alloc (.cells #[.int .i64 4] 3)) (fun e w' => e = .returned (.bool (likeT t [4])) ∧ (((w.alloc (.cells #[.int .i64 1, .int .i64 2] 3)).alloc (.cells #[.int .i64 1, .int .i64 2, .int .i64 3] 3)).alloc (.cells #[.int .i64 4] 3)) = w') from (H2 t 0).out)
  have c0 := cell_kept ht0 (hBL (.cells #[.int .i64 1, .int .i64 2] 3) (.cells #[.int .i64 1, .int .i64 2, .int .i64 3] 3) (.cells #[.int .i64 4] 3))
  clear hT
  go_enter Tryz.func49, Tryz.ntmps49
  go_wp2_with (first
    | (go_at_call 73; (with_reducible refine (Z0 a).out.mono ?_); rintro e w' ⟨rfl, rfl⟩; (try rw [hl]))
    | (go_at_call 73; (with_reducible refine (Z2 a).out.mono ?_); rintro e w' ⟨rfl, rfl⟩; (try rw [hl]))
    | fail)
  exact bodyPost_ret (res_tt (fn := Tryz.f49) rfl rfl rfl) rfl ⟨rfl, hBL _ _ _⟩
set_option maxRecDepth 100000 in
set_option maxHeartbeats 16000000 in
theorem rty_4n (a : Int) (hl : likeT a [4] = false) (B : Option Addr) (cB : Nat) (w : World) (hT : IntsAt w B [a]) : Calls Tryz.prog 49 #[.int .i64 4, .slice B 1 cB] w (RetV (.tuple #[.int .i64 0, .int .i64 70]) w) := by
  obtain ⟨tb, tof, rfl, htb, ht0⟩ := int_at (k := 0) (z := a) hT rfl
  rw [Nat.add_zero] at ht0
  have hBL : ∀ O O2 O3, Below w.heap.size w (((w.alloc O).alloc O2).alloc O3) := fun O O2 O3 => ((below1 w O).alloc (below1 w O).size O2).alloc (by simp <;> omega) O3
  have H0 := fun (t : Int) n => Lib.hid (show Calls Tryz.prog 73 #[.int .i64 t, .slice (some ⟨w.heap.size, 0, none⟩) 2 2] ((((w.alloc (.cells #[.int .i64 1, .int .i64 2] 3)).alloc (.cells #[.int .i64 1, .int .i64 2, .int .i64 3] 3)).alloc (.cells #[.int .i64 4] 3)).drewN n) (fun e w' => e = .returned (.bool (likeT t [1, 2])) ∧ ((((w.alloc (.cells #[.int .i64 1, .int .i64 2] 3)).alloc (.cells #[.int .i64 1, .int .i64 2, .int .i64 3] 3)).alloc (.cells #[.int .i64 4] 3)).drewN n) = w') from in_any t _ 2 [1, 2] _ (ints_bx ((BX.three w _ _ _).keep (below_drewN (Below.refl _ _) n)) [1, 2] 0 rfl (by decide)))
  have H2 := fun (t : Int) n => Lib.hid (show Calls Tryz.prog 73 #[.int .i64 t, .slice (some ⟨w.heap.size + 2, 0, none⟩) 1 1] ((((w.alloc (.cells #[.int .i64 1, .int .i64 2] 3)).alloc (.cells #[.int .i64 1, .int .i64 2, .int .i64 3] 3)).alloc (.cells #[.int .i64 4] 3)).drewN n) (fun e w' => e = .returned (.bool (likeT t [4])) ∧ ((((w.alloc (.cells #[.int .i64 1, .int .i64 2] 3)).alloc (.cells #[.int .i64 1, .int .i64 2, .int .i64 3] 3)).alloc (.cells #[.int .i64 4] 3)).drewN n) = w') from in_any t _ 1 [4] _ (ints_bx ((BX.three w _ _ _).keep (below_drewN (Below.refl _ _) n)) [4] 2 rfl (by decide)))
  have Z0 := fun (t : Int) => Lib.hid (show Calls Tryz.prog 73 #[.int .i64 t, .slice (some ⟨w.heap.size, 0, none⟩) 2 2] (((w.alloc (.cells #[.int .i64 1, .int .i64 2] 3)).alloc (.cells #[.int .i64 1, .int .i64 2, .int .i64 3] 3)).alloc (.cells #[.int .i64 4] 3)) (fun e w' => e = .returned (.bool (likeT t [1, 2])) ∧ (((w.alloc (.cells #[.int .i64 1, .int .i64 2] 3)).alloc (.cells #[.int .i64 1, .int .i64 2, .int .i64 3] 3)).alloc (.cells #[.int .i64 4] 3)) = w') from (H0 t 0).out)
  have Z2 := fun (t : Int) => Lib.hid (show Calls Tryz.prog 73 #[.int .i64 t, .slice (some ⟨w.heap.size + 1 + 1, 0, none⟩) 1 1] (((w.alloc (.cells #[.int .i64 1, .int .i64 2] 3)).alloc (.cells #[.int .i64 1, .int .i64 2, .int .i64 3] 3)).alloc (.cells #[.int .i64 4] 3)) (fun e w' => e = .returned (.bool (likeT t [4])) ∧ (((w.alloc (.cells #[.int .i64 1, .int .i64 2] 3)).alloc (.cells #[.int .i64 1, .int .i64 2, .int .i64 3] 3)).alloc (.cells #[.int .i64 4] 3)) = w') from (H2 t 0).out)
  have c0 := cell_kept ht0 (hBL (.cells #[.int .i64 1, .int .i64 2] 3) (.cells #[.int .i64 1, .int .i64 2, .int .i64 3] 3) (.cells #[.int .i64 4] 3))
  clear hT
  go_enter Tryz.func49, Tryz.ntmps49
  go_wp2_with (first
    | (go_at_call 73; (with_reducible refine (Z0 a).out.mono ?_); rintro e w' ⟨rfl, rfl⟩; (try rw [hl]))
    | (go_at_call 73; (with_reducible refine (Z2 a).out.mono ?_); rintro e w' ⟨rfl, rfl⟩; (try rw [hl]))
    | fail)
  exact bodyPost_ret (res_tt (fn := Tryz.f49) rfl rfl rfl) rfl ⟨rfl, hBL _ _ _⟩
set_option maxRecDepth 100000 in
set_option maxHeartbeats 16000000 in
theorem rty_9 (a : Int)  (B : Option Addr) (cB : Nat) (w : World) (hT : IntsAt w B [a]) : Calls Tryz.prog 49 #[.int .i64 9, .slice B 1 cB] w (RetV (.tuple #[.int .i64 4, .int .i64 0]) w) := by
  obtain ⟨tb, tof, rfl, htb, ht0⟩ := int_at (k := 0) (z := a) hT rfl
  rw [Nat.add_zero] at ht0
  have hBL : ∀ O O2 O3, Below w.heap.size w (((w.alloc O).alloc O2).alloc O3) := fun O O2 O3 => ((below1 w O).alloc (below1 w O).size O2).alloc (by simp <;> omega) O3
  have H0 := fun (t : Int) n => Lib.hid (show Calls Tryz.prog 73 #[.int .i64 t, .slice (some ⟨w.heap.size, 0, none⟩) 2 2] ((((w.alloc (.cells #[.int .i64 1, .int .i64 2] 3)).alloc (.cells #[.int .i64 1, .int .i64 2, .int .i64 3] 3)).alloc (.cells #[.int .i64 4] 3)).drewN n) (fun e w' => e = .returned (.bool (likeT t [1, 2])) ∧ ((((w.alloc (.cells #[.int .i64 1, .int .i64 2] 3)).alloc (.cells #[.int .i64 1, .int .i64 2, .int .i64 3] 3)).alloc (.cells #[.int .i64 4] 3)).drewN n) = w') from in_any t _ 2 [1, 2] _ (ints_bx ((BX.three w _ _ _).keep (below_drewN (Below.refl _ _) n)) [1, 2] 0 rfl (by decide)))
  have H2 := fun (t : Int) n => Lib.hid (show Calls Tryz.prog 73 #[.int .i64 t, .slice (some ⟨w.heap.size + 2, 0, none⟩) 1 1] ((((w.alloc (.cells #[.int .i64 1, .int .i64 2] 3)).alloc (.cells #[.int .i64 1, .int .i64 2, .int .i64 3] 3)).alloc (.cells #[.int .i64 4] 3)).drewN n) (fun e w' => e = .returned (.bool (likeT t [4])) ∧ ((((w.alloc (.cells #[.int .i64 1, .int .i64 2] 3)).alloc (.cells #[.int .i64 1, .int .i64 2, .int .i64 3] 3)).alloc (.cells #[.int .i64 4] 3)).drewN n) = w') from in_any t _ 1 [4] _ (ints_bx ((BX.three w _ _ _).keep (below_drewN (Below.refl _ _) n)) [4] 2 rfl (by decide)))
  have Z0 := fun (t : Int) => Lib.hid (show Calls Tryz.prog 73 #[.int .i64 t, .slice (some ⟨w.heap.size, 0, none⟩) 2 2] (((w.alloc (.cells #[.int .i64 1, .int .i64 2] 3)).alloc (.cells #[.int .i64 1, .int .i64 2, .int .i64 3] 3)).alloc (.cells #[.int .i64 4] 3)) (fun e w' => e = .returned (.bool (likeT t [1, 2])) ∧ (((w.alloc (.cells #[.int .i64 1, .int .i64 2] 3)).alloc (.cells #[.int .i64 1, .int .i64 2, .int .i64 3] 3)).alloc (.cells #[.int .i64 4] 3)) = w') from (H0 t 0).out)
  have Z2 := fun (t : Int) => Lib.hid (show Calls Tryz.prog 73 #[.int .i64 t, .slice (some ⟨w.heap.size + 1 + 1, 0, none⟩) 1 1] (((w.alloc (.cells #[.int .i64 1, .int .i64 2] 3)).alloc (.cells #[.int .i64 1, .int .i64 2, .int .i64 3] 3)).alloc (.cells #[.int .i64 4] 3)) (fun e w' => e = .returned (.bool (likeT t [4])) ∧ (((w.alloc (.cells #[.int .i64 1, .int .i64 2] 3)).alloc (.cells #[.int .i64 1, .int .i64 2, .int .i64 3] 3)).alloc (.cells #[.int .i64 4] 3)) = w') from (H2 t 0).out)
  have c0 := cell_kept ht0 (hBL (.cells #[.int .i64 1, .int .i64 2] 3) (.cells #[.int .i64 1, .int .i64 2, .int .i64 3] 3) (.cells #[.int .i64 4] 3))
  clear hT
  go_enter Tryz.func49, Tryz.ntmps49
  go_wp2_with (first
    | (go_at_call 73; (with_reducible refine (Z0 a).out.mono ?_); rintro e w' ⟨rfl, rfl⟩)
    | (go_at_call 73; (with_reducible refine (Z2 a).out.mono ?_); rintro e w' ⟨rfl, rfl⟩)
    | fail)
  exact bodyPost_ret (res_tt (fn := Tryz.f49) rfl rfl rfl) rfl ⟨rfl, hBL _ _ _⟩
set_option maxRecDepth 100000 in
set_option maxHeartbeats 16000000 in
theorem rty_5y (a b : Int) (hl : likeT a [4] = true) (hm : likeT b [4] = true) (B : Option Addr) (cB : Nat) (w : World) (hT : IntsAt w B [a, b]) : Calls Tryz.prog 49 #[.int .i64 5, .slice B 2 cB] w (RetV (.tuple #[.int .i64 4, .int .i64 0]) w) := by
  obtain ⟨tb, tof, rfl, htb, ht0⟩ := int_at (k := 0) (z := a) hT rfl
  have ht1 : w.cell? ⟨tb, tof + 1, none⟩ = some (.int .i64 b) := by obtain ⟨_, _, e, _, h⟩ := int_at (k := 1) (z := b) hT rfl; cases e; exact h
  rw [Nat.add_zero] at ht0
  have hBL : ∀ O O2 O3, Below w.heap.size w (((w.alloc O).alloc O2).alloc O3) := fun O O2 O3 => ((below1 w O).alloc (below1 w O).size O2).alloc (by simp <;> omega) O3
  have H0 := fun (t : Int) n => Lib.hid (show Calls Tryz.prog 73 #[.int .i64 t, .slice (some ⟨w.heap.size, 0, none⟩) 2 2] ((((w.alloc (.cells #[.int .i64 1, .int .i64 2] 3)).alloc (.cells #[.int .i64 1, .int .i64 2, .int .i64 3] 3)).alloc (.cells #[.int .i64 4] 3)).drewN n) (fun e w' => e = .returned (.bool (likeT t [1, 2])) ∧ ((((w.alloc (.cells #[.int .i64 1, .int .i64 2] 3)).alloc (.cells #[.int .i64 1, .int .i64 2, .int .i64 3] 3)).alloc (.cells #[.int .i64 4] 3)).drewN n) = w') from in_any t _ 2 [1, 2] _ (ints_bx ((BX.three w _ _ _).keep (below_drewN (Below.refl _ _) n)) [1, 2] 0 rfl (by decide)))
  have H2 := fun (t : Int) n => Lib.hid (show Calls Tryz.prog 73 #[.int .i64 t, .slice (some ⟨w.heap.size + 2, 0, none⟩) 1 1] ((((w.alloc (.cells #[.int .i64 1, .int .i64 2] 3)).alloc (.cells #[.int .i64 1, .int .i64 2, .int .i64 3] 3)).alloc (.cells #[.int .i64 4] 3)).drewN n) (fun e w' => e = .returned (.bool (likeT t [4])) ∧ ((((w.alloc (.cells #[.int .i64 1, .int .i64 2] 3)).alloc (.cells #[.int .i64 1, .int .i64 2, .int .i64 3] 3)).alloc (.cells #[.int .i64 4] 3)).drewN n) = w') from in_any t _ 1 [4] _ (ints_bx ((BX.three w _ _ _).keep (below_drewN (Below.refl _ _) n)) [4] 2 rfl (by decide)))
  have Z0 := fun (t : Int) => Lib.hid (show Calls Tryz.prog 73 #[.int .i64 t, .slice (some ⟨w.heap.size, 0, none⟩) 2 2] (((w.alloc (.cells #[.int .i64 1, .int .i64 2] 3)).alloc (.cells #[.int .i64 1, .int .i64 2, .int .i64 3] 3)).alloc (.cells #[.int .i64 4] 3)) (fun e w' => e = .returned (.bool (likeT t [1, 2])) ∧ (((w.alloc (.cells #[.int .i64 1, .int .i64 2] 3)).alloc (.cells #[.int .i64 1, .int .i64 2, .int .i64 3] 3)).alloc (.cells #[.int .i64 4] 3)) = w') from (H0 t 0).out)
  have Z2 := fun (t : Int) => Lib.hid (show Calls Tryz.prog 73 #[.int .i64 t, .slice (some ⟨w.heap.size + 1 + 1, 0, none⟩) 1 1] (((w.alloc (.cells #[.int .i64 1, .int .i64 2] 3)).alloc (.cells #[.int .i64 1, .int .i64 2, .int .i64 3] 3)).alloc (.cells #[.int .i64 4] 3)) (fun e w' => e = .returned (.bool (likeT t [4])) ∧ (((w.alloc (.cells #[.int .i64 1, .int .i64 2] 3)).alloc (.cells #[.int .i64 1, .int .i64 2, .int .i64 3] 3)).alloc (.cells #[.int .i64 4] 3)) = w') from (H2 t 0).out)
  have c0 := cell_kept ht0 (hBL (.cells #[.int .i64 1, .int .i64 2] 3) (.cells #[.int .i64 1, .int .i64 2, .int .i64 3] 3) (.cells #[.int .i64 4] 3))
  have c1 := cell_kept ht1 (hBL (.cells #[.int .i64 1, .int .i64 2] 3) (.cells #[.int .i64 1, .int .i64 2, .int .i64 3] 3) (.cells #[.int .i64 4] 3))
  clear hT
  go_enter Tryz.func49, Tryz.ntmps49
  go_wp2_with (first
    | (go_at_call 73; (with_reducible refine (Z0 a).out.mono ?_); rintro e w' ⟨rfl, rfl⟩; (try rw [hl]); (try rw [hm]))
    | (go_at_call 73; (with_reducible refine (Z2 a).out.mono ?_); rintro e w' ⟨rfl, rfl⟩; (try rw [hl]); (try rw [hm]))
    | (go_at_call 73; (with_reducible refine (Z2 b).out.mono ?_); rintro e w' ⟨rfl, rfl⟩; (try rw [hl]); (try rw [hm]))
    | fail)
  exact bodyPost_ret (res_tt (fn := Tryz.f49) rfl rfl rfl) rfl ⟨rfl, hBL _ _ _⟩
set_option maxRecDepth 100000 in
set_option maxHeartbeats 16000000 in
theorem rty_5m (a b : Int) (hl : likeT a [4] = true) (hm : likeT b [4] = false) (B : Option Addr) (cB : Nat) (w : World) (hT : IntsAt w B [a, b]) : Calls Tryz.prog 49 #[.int .i64 5, .slice B 2 cB] w (RetV (.tuple #[.int .i64 0, .int .i64 70]) w) := by
  obtain ⟨tb, tof, rfl, htb, ht0⟩ := int_at (k := 0) (z := a) hT rfl
  have ht1 : w.cell? ⟨tb, tof + 1, none⟩ = some (.int .i64 b) := by obtain ⟨_, _, e, _, h⟩ := int_at (k := 1) (z := b) hT rfl; cases e; exact h
  rw [Nat.add_zero] at ht0
  have hBL : ∀ O O2 O3, Below w.heap.size w (((w.alloc O).alloc O2).alloc O3) := fun O O2 O3 => ((below1 w O).alloc (below1 w O).size O2).alloc (by simp <;> omega) O3
  have H0 := fun (t : Int) n => Lib.hid (show Calls Tryz.prog 73 #[.int .i64 t, .slice (some ⟨w.heap.size, 0, none⟩) 2 2] ((((w.alloc (.cells #[.int .i64 1, .int .i64 2] 3)).alloc (.cells #[.int .i64 1, .int .i64 2, .int .i64 3] 3)).alloc (.cells #[.int .i64 4] 3)).drewN n) (fun e w' => e = .returned (.bool (likeT t [1, 2])) ∧ ((((w.alloc (.cells #[.int .i64 1, .int .i64 2] 3)).alloc (.cells #[.int .i64 1, .int .i64 2, .int .i64 3] 3)).alloc (.cells #[.int .i64 4] 3)).drewN n) = w') from in_any t _ 2 [1, 2] _ (ints_bx ((BX.three w _ _ _).keep (below_drewN (Below.refl _ _) n)) [1, 2] 0 rfl (by decide)))
  have H2 := fun (t : Int) n => Lib.hid (show Calls Tryz.prog 73 #[.int .i64 t, .slice (some ⟨w.heap.size + 2, 0, none⟩) 1 1] ((((w.alloc (.cells #[.int .i64 1, .int .i64 2] 3)).alloc (.cells #[.int .i64 1, .int .i64 2, .int .i64 3] 3)).alloc (.cells #[.int .i64 4] 3)).drewN n) (fun e w' => e = .returned (.bool (likeT t [4])) ∧ ((((w.alloc (.cells #[.int .i64 1, .int .i64 2] 3)).alloc (.cells #[.int .i64 1, .int .i64 2, .int .i64 3] 3)).alloc (.cells #[.int .i64 4] 3)).drewN n) = w') from in_any t _ 1 [4] _ (ints_bx ((BX.three w _ _ _).keep (below_drewN (Below.refl _ _) n)) [4] 2 rfl (by decide)))
  have Z0 := fun (t : Int) => Lib.hid (show Calls Tryz.prog 73 #[.int .i64 t, .slice (some ⟨w.heap.size, 0, none⟩) 2 2] (((w.alloc (.cells #[.int .i64 1, .int .i64 2] 3)).alloc (.cells #[.int .i64 1, .int .i64 2, .int .i64 3] 3)).alloc (.cells #[.int .i64 4] 3)) (fun e w' => e = .returned (.bool (likeT t [1, 2])) ∧ (((w.alloc (.cells #[.int .i64 1, .int .i64 2] 3)).alloc (.cells #[.int .i64 1, .int .i64 2, .int .i64 3] 3)).alloc (.cells #[.int .i64 4] 3)) = w') from (H0 t 0).out)
  have Z2 := fun (t : Int) => Lib.hid (show Calls Tryz.prog 73 #[.int .i64 t, .slice (some ⟨w.heap.size + 1 + 1, 0, none⟩) 1 1] (((w.alloc (.cells #[.int .i64 1, .int .i64 2] 3)).alloc (.cells #[.int .i64 1, .int .i64 2, .int .i64 3] 3)).alloc (.cells #[.int .i64 4] 3)) (fun e w' => e = .returned (.bool (likeT t [4])) ∧ (((w.alloc (.cells #[.int .i64 1, .int .i64 2] 3)).alloc (.cells #[.int .i64 1, .int .i64 2, .int .i64 3] 3)).alloc (.cells #[.int .i64 4] 3)) = w') from (H2 t 0).out)
  have c0 := cell_kept ht0 (hBL (.cells #[.int .i64 1, .int .i64 2] 3) (.cells #[.int .i64 1, .int .i64 2, .int .i64 3] 3) (.cells #[.int .i64 4] 3))
  have c1 := cell_kept ht1 (hBL (.cells #[.int .i64 1, .int .i64 2] 3) (.cells #[.int .i64 1, .int .i64 2, .int .i64 3] 3) (.cells #[.int .i64 4] 3))
  clear hT
  go_enter Tryz.func49, Tryz.ntmps49
  go_wp2_with (first
    | (go_at_call 73; (with_reducible refine (Z0 a).out.mono ?_); rintro e w' ⟨rfl, rfl⟩; (try rw [hl]); (try rw [hm]))
    | (go_at_call 73; (with_reducible refine (Z2 a).out.mono ?_); rintro e w' ⟨rfl, rfl⟩; (try rw [hl]); (try rw [hm]))
    | (go_at_call 73; (with_reducible refine (Z2 b).out.mono ?_); rintro e w' ⟨rfl, rfl⟩; (try rw [hl]); (try rw [hm]))
    | fail)
  exact bodyPost_ret (res_tt (fn := Tryz.f49) rfl rfl rfl) rfl ⟨rfl, hBL _ _ _⟩
set_option maxRecDepth 100000 in
set_option maxHeartbeats 16000000 in
theorem rty_5n (a b : Int) (hl : likeT a [4] = false) (B : Option Addr) (cB : Nat) (w : World) (hT : IntsAt w B [a, b]) : Calls Tryz.prog 49 #[.int .i64 5, .slice B 2 cB] w (RetV (.tuple #[.int .i64 0, .int .i64 70]) w) := by
  obtain ⟨tb, tof, rfl, htb, ht0⟩ := int_at (k := 0) (z := a) hT rfl
  have ht1 : w.cell? ⟨tb, tof + 1, none⟩ = some (.int .i64 b) := by obtain ⟨_, _, e, _, h⟩ := int_at (k := 1) (z := b) hT rfl; cases e; exact h
  rw [Nat.add_zero] at ht0
  have hBL : ∀ O O2 O3, Below w.heap.size w (((w.alloc O).alloc O2).alloc O3) := fun O O2 O3 => ((below1 w O).alloc (below1 w O).size O2).alloc (by simp <;> omega) O3
  have H0 := fun (t : Int) n => Lib.hid (show Calls Tryz.prog 73 #[.int .i64 t, .slice (some ⟨w.heap.size, 0, none⟩) 2 2] ((((w.alloc (.cells #[.int .i64 1, .int .i64 2] 3)).alloc (.cells #[.int .i64 1, .int .i64 2, .int .i64 3] 3)).alloc (.cells #[.int .i64 4] 3)).drewN n) (fun e w' => e = .returned (.bool (likeT t [1, 2])) ∧ ((((w.alloc (.cells #[.int .i64 1, .int .i64 2] 3)).alloc (.cells #[.int .i64 1, .int .i64 2, .int .i64 3] 3)).alloc (.cells #[.int .i64 4] 3)).drewN n) = w') from in_any t _ 2 [1, 2] _ (ints_bx ((BX.three w _ _ _).keep (below_drewN (Below.refl _ _) n)) [1, 2] 0 rfl (by decide)))
  have H2 := fun (t : Int) n => Lib.hid (show Calls Tryz.prog 73 #[.int .i64 t, .slice (some ⟨w.heap.size + 2, 0, none⟩) 1 1] ((((w.alloc (.cells #[.int .i64 1, .int .i64 2] 3)).alloc (.cells #[.int .i64 1, .int .i64 2, .int .i64 3] 3)).alloc (.cells #[.int .i64 4] 3)).drewN n) (fun e w' => e = .returned (.bool (likeT t [4])) ∧ ((((w.alloc (.cells #[.int .i64 1, .int .i64 2] 3)).alloc (.cells #[.int .i64 1, .int .i64 2, .int .i64 3] 3)).alloc (.cells #[.int .i64 4] 3)).drewN n) = w') from in_any t _ 1 [4] _ (ints_bx ((BX.three w _ _ _).keep (below_drewN (Below.refl _ _) n)) [4] 2 rfl (by decide)))
  have Z0 := fun (t : Int) => Lib.hid (show Calls Tryz.prog 73 #[.int .i64 t, .slice (some ⟨w.heap.size, 0, none⟩) 2 2] (((w.alloc (.cells #[.int .i64 1, .int .i64 2] 3)).alloc (.cells #[.int .i64 1, .int .i64 2, .int .i64 3] 3)).alloc (.cells #[.int .i64 4] 3)) (fun e w' => e = .returned (.bool (likeT t [1, 2])) ∧ (((w.alloc (.cells #[.int .i64 1, .int .i64 2] 3)).alloc (.cells #[.int .i64 1, .int .i64 2, .int .i64 3] 3)).alloc (.cells #[.int .i64 4] 3)) = w') from (H0 t 0).out)
  have Z2 := fun (t : Int) => Lib.hid (show Calls Tryz.prog 73 #[.int .i64 t, .slice (some ⟨w.heap.size + 1 + 1, 0, none⟩) 1 1] (((w.alloc (.cells #[.int .i64 1, .int .i64 2] 3)).alloc (.cells #[.int .i64 1, .int .i64 2, .int .i64 3] 3)).alloc (.cells #[.int .i64 4] 3)) (fun e w' => e = .returned (.bool (likeT t [4])) ∧ (((w.alloc (.cells #[.int .i64 1, .int .i64 2] 3)).alloc (.cells #[.int .i64 1, .int .i64 2, .int .i64 3] 3)).alloc (.cells #[.int .i64 4] 3)) = w') from (H2 t 0).out)
  have c0 := cell_kept ht0 (hBL (.cells #[.int .i64 1, .int .i64 2] 3) (.cells #[.int .i64 1, .int .i64 2, .int .i64 3] 3) (.cells #[.int .i64 4] 3))
  have c1 := cell_kept ht1 (hBL (.cells #[.int .i64 1, .int .i64 2] 3) (.cells #[.int .i64 1, .int .i64 2, .int .i64 3] 3) (.cells #[.int .i64 4] 3))
  clear hT
  go_enter Tryz.func49, Tryz.ntmps49
  go_wp2_with (first
    | (go_at_call 73; (with_reducible refine (Z0 a).out.mono ?_); rintro e w' ⟨rfl, rfl⟩; (try rw [hl]))
    | (go_at_call 73; (with_reducible refine (Z2 a).out.mono ?_); rintro e w' ⟨rfl, rfl⟩; (try rw [hl]))
    | (go_at_call 73; (with_reducible refine (Z2 b).out.mono ?_); rintro e w' ⟨rfl, rfl⟩; (try rw [hl]))
    | fail)
  exact bodyPost_ret (res_tt (fn := Tryz.f49) rfl rfl rfl) rfl ⟨rfl, hBL _ _ _⟩
set_option maxRecDepth 100000 in
set_option maxHeartbeats 16000000 in
theorem rty_6y (a b : Int) (hl : likeT a [4] = true) (hm : likeT b [4] = true) (B : Option Addr) (cB : Nat) (w : World) (hT : IntsAt w B [a, b]) : Calls Tryz.prog 49 #[.int .i64 6, .slice B 2 cB] w (RetV (.tuple #[.int .i64 4, .int .i64 0]) w) := by
  obtain ⟨tb, tof, rfl, htb, ht0⟩ := int_at (k := 0) (z := a) hT rfl
  have ht1 : w.cell? ⟨tb, tof + 1, none⟩ = some (.int .i64 b) := by obtain ⟨_, _, e, _, h⟩ := int_at (k := 1) (z := b) hT rfl; cases e; exact h
  rw [Nat.add_zero] at ht0
  have hBL : ∀ O O2 O3, Below w.heap.size w (((w.alloc O).alloc O2).alloc O3) := fun O O2 O3 => ((below1 w O).alloc (below1 w O).size O2).alloc (by simp <;> omega) O3
  have H0 := fun (t : Int) n => Lib.hid (show Calls Tryz.prog 73 #[.int .i64 t, .slice (some ⟨w.heap.size, 0, none⟩) 2 2] ((((w.alloc (.cells #[.int .i64 1, .int .i64 2] 3)).alloc (.cells #[.int .i64 1, .int .i64 2, .int .i64 3] 3)).alloc (.cells #[.int .i64 4] 3)).drewN n) (fun e w' => e = .returned (.bool (likeT t [1, 2])) ∧ ((((w.alloc (.cells #[.int .i64 1, .int .i64 2] 3)).alloc (.cells #[.int .i64 1, .int .i64 2, .int .i64 3] 3)).alloc (.cells #[.int .i64 4] 3)).drewN n) = w') from in_any t _ 2 [1, 2] _ (ints_bx ((BX.three w _ _ _).keep (below_drewN (Below.refl _ _) n)) [1, 2] 0 rfl (by decide)))
  have H2 := fun (t : Int) n => Lib.hid (show Calls Tryz.prog 73 #[.int .i64 t, .slice (some ⟨w.heap.size + 2, 0, none⟩) 1 1] ((((w.alloc (.cells #[.int .i64 1, .int .i64 2] 3)).alloc (.cells #[.int .i64 1, .int .i64 2, .int .i64 3] 3)).alloc (.cells #[.int .i64 4] 3)).drewN n) (fun e w' => e = .returned (.bool (likeT t [4])) ∧ ((((w.alloc (.cells #[.int .i64 1, .int .i64 2] 3)).alloc (.cells #[.int .i64 1, .int .i64 2, .int .i64 3] 3)).alloc (.cells #[.int .i64 4] 3)).drewN n) = w') from in_any t _ 1 [4] _ (ints_bx ((BX.three w _ _ _).keep (below_drewN (Below.refl _ _) n)) [4] 2 rfl (by decide)))
  have Z0 := fun (t : Int) => Lib.hid (show Calls Tryz.prog 73 #[.int .i64 t, .slice (some ⟨w.heap.size, 0, none⟩) 2 2] (((w.alloc (.cells #[.int .i64 1, .int .i64 2] 3)).alloc (.cells #[.int .i64 1, .int .i64 2, .int .i64 3] 3)).alloc (.cells #[.int .i64 4] 3)) (fun e w' => e = .returned (.bool (likeT t [1, 2])) ∧ (((w.alloc (.cells #[.int .i64 1, .int .i64 2] 3)).alloc (.cells #[.int .i64 1, .int .i64 2, .int .i64 3] 3)).alloc (.cells #[.int .i64 4] 3)) = w') from (H0 t 0).out)
  have Z2 := fun (t : Int) => Lib.hid (show Calls Tryz.prog 73 #[.int .i64 t, .slice (some ⟨w.heap.size + 1 + 1, 0, none⟩) 1 1] (((w.alloc (.cells #[.int .i64 1, .int .i64 2] 3)).alloc (.cells #[.int .i64 1, .int .i64 2, .int .i64 3] 3)).alloc (.cells #[.int .i64 4] 3)) (fun e w' => e = .returned (.bool (likeT t [4])) ∧ (((w.alloc (.cells #[.int .i64 1, .int .i64 2] 3)).alloc (.cells #[.int .i64 1, .int .i64 2, .int .i64 3] 3)).alloc (.cells #[.int .i64 4] 3)) = w') from (H2 t 0).out)
  have c0 := cell_kept ht0 (hBL (.cells #[.int .i64 1, .int .i64 2] 3) (.cells #[.int .i64 1, .int .i64 2, .int .i64 3] 3) (.cells #[.int .i64 4] 3))
  have c1 := cell_kept ht1 (hBL (.cells #[.int .i64 1, .int .i64 2] 3) (.cells #[.int .i64 1, .int .i64 2, .int .i64 3] 3) (.cells #[.int .i64 4] 3))
  clear hT
  go_enter Tryz.func49, Tryz.ntmps49
  go_wp2_with (first
    | (go_at_call 73; (with_reducible refine (Z0 a).out.mono ?_); rintro e w' ⟨rfl, rfl⟩; (try rw [hl]); (try rw [hm]))
    | (go_at_call 73; (with_reducible refine (Z2 a).out.mono ?_); rintro e w' ⟨rfl, rfl⟩; (try rw [hl]); (try rw [hm]))
    | (go_at_call 73; (with_reducible refine (Z2 b).out.mono ?_); rintro e w' ⟨rfl, rfl⟩; (try rw [hl]); (try rw [hm]))
    | fail)
  exact bodyPost_ret (res_tt (fn := Tryz.f49) rfl rfl rfl) rfl ⟨rfl, hBL _ _ _⟩
set_option maxRecDepth 100000 in
set_option maxHeartbeats 16000000 in
theorem rty_6m (a b : Int) (hl : likeT a [4] = true) (hm : likeT b [4] = false) (B : Option Addr) (cB : Nat) (w : World) (hT : IntsAt w B [a, b]) : Calls Tryz.prog 49 #[.int .i64 6, .slice B 2 cB] w (RetV (.tuple #[.int .i64 0, .int .i64 70]) w) := by
  obtain ⟨tb, tof, rfl, htb, ht0⟩ := int_at (k := 0) (z := a) hT rfl
  have ht1 : w.cell? ⟨tb, tof + 1, none⟩ = some (.int .i64 b) := by obtain ⟨_, _, e, _, h⟩ := int_at (k := 1) (z := b) hT rfl; cases e; exact h
  rw [Nat.add_zero] at ht0
  have hBL : ∀ O O2 O3, Below w.heap.size w (((w.alloc O).alloc O2).alloc O3) := fun O O2 O3 => ((below1 w O).alloc (below1 w O).size O2).alloc (by simp <;> omega) O3
  have H0 := fun (t : Int) n => Lib.hid (show Calls Tryz.prog 73 #[.int .i64 t, .slice (some ⟨w.heap.size, 0, none⟩) 2 2] ((((w.alloc (.cells #[.int .i64 1, .int .i64 2] 3)).alloc (.cells #[.int .i64 1, .int .i64 2, .int .i64 3] 3)).alloc (.cells #[.int .i64 4] 3)).drewN n) (fun e w' => e = .returned (.bool (likeT t [1, 2])) ∧ ((((w.alloc (.cells #[.int .i64 1, .int .i64 2] 3)).alloc (.cells #[.int .i64 1, .int .i64 2, .int .i64 3] 3)).alloc (.cells #[.int .i64 4] 3)).drewN n) = w') from in_any t _ 2 [1, 2] _ (ints_bx ((BX.three w _ _ _).keep (below_drewN (Below.refl _ _) n)) [1, 2] 0 rfl (by decide)))
  have H2 := fun (t : Int) n => Lib.hid (show Calls Tryz.prog 73 #[.int .i64 t, .slice (some ⟨w.heap.size + 2, 0, none⟩) 1 1] ((((w.alloc (.cells #[.int .i64 1, .int .i64 2] 3)).alloc (.cells #[.int .i64 1, .int .i64 2, .int .i64 3] 3)).alloc (.cells #[.int .i64 4] 3)).drewN n) (fun e w' => e = .returned (.bool (likeT t [4])) ∧ ((((w.alloc (.cells #[.int .i64 1, .int .i64 2] 3)).alloc (.cells #[.int .i64 1, .int .i64 2, .int .i64 3] 3)).alloc (.cells #[.int .i64 4] 3)).drewN n) = w') from in_any t _ 1 [4] _ (ints_bx ((BX.three w _ _ _).keep (below_drewN (Below.refl _ _) n)) [4] 2 rfl (by decide)))
  have Z0 := fun (t : Int) => Lib.hid (show Calls Tryz.prog 73 #[.int .i64 t, .slice (some ⟨w.heap.size, 0, none⟩) 2 2] (((w.alloc (.cells #[.int .i64 1, .int .i64 2] 3)).alloc (.cells #[.int .i64 1, .int .i64 2, .int .i64 3] 3)).alloc (.cells #[.int .i64 4] 3)) (fun e w' => e = .returned (.bool (likeT t [1, 2])) ∧ (((w.alloc (.cells #[.int .i64 1, .int .i64 2] 3)).alloc (.cells #[.int .i64 1, .int .i64 2, .int .i64 3] 3)).alloc (.cells #[.int .i64 4] 3)) = w') from (H0 t 0).out)
  have Z2 := fun (t : Int) => Lib.hid (show Calls Tryz.prog 73 #[.int .i64 t, .slice (some ⟨w.heap.size + 1 + 1, 0, none⟩) 1 1] (((w.alloc (.cells #[.int .i64 1, .int .i64 2] 3)).alloc (.cells #[.int .i64 1, .int .i64 2, .int .i64 3] 3)).alloc (.cells #[.int .i64 4] 3)) (fun e w' => e = .returned (.bool (likeT t [4])) ∧ (((w.alloc (.cells #[.int .i64 1, .int .i64 2] 3)).alloc (.cells #[.int .i64 1, .int .i64 2, .int .i64 3] 3)).alloc (.cells #[.int .i64 4] 3)) = w') from (H2 t 0).out)
  have c0 := cell_kept ht0 (hBL (.cells #[.int .i64 1, .int .i64 2] 3) (.cells #[.int .i64 1, .int .i64 2, .int .i64 3] 3) (.cells #[.int .i64 4] 3))
  have c1 := cell_kept ht1 (hBL (.cells #[.int .i64 1, .int .i64 2] 3) (.cells #[.int .i64 1, .int .i64 2, .int .i64 3] 3) (.cells #[.int .i64 4] 3))
  clear hT
  go_enter Tryz.func49, Tryz.ntmps49
  go_wp2_with (first
    | (go_at_call 73; (with_reducible refine (Z0 a).out.mono ?_); rintro e w' ⟨rfl, rfl⟩; (try rw [hl]); (try rw [hm]))
    | (go_at_call 73; (with_reducible refine (Z2 a).out.mono ?_); rintro e w' ⟨rfl, rfl⟩; (try rw [hl]); (try rw [hm]))
    | (go_at_call 73; (with_reducible refine (Z2 b).out.mono ?_); rintro e w' ⟨rfl, rfl⟩; (try rw [hl]); (try rw [hm]))
    | fail)
  exact bodyPost_ret (res_tt (fn := Tryz.f49) rfl rfl rfl) rfl ⟨rfl, hBL _ _ _⟩
set_option maxRecDepth 100000 in
set_option maxHeartbeats 16000000 in
theorem rty_6n (a b : Int) (hl : likeT a [4] = false) (B : Option Addr) (cB : Nat) (w : World) (hT : IntsAt w B [a, b]) : Calls Tryz.prog 49 #[.int .i64 6, .slice B 2 cB] w (RetV (.tuple #[.int .i64 0, .int .i64 70]) w) := by
  obtain ⟨tb, tof, rfl, htb, ht0⟩ := int_at (k := 0) (z := a) hT rfl
  have ht1 : w.cell? ⟨tb, tof + 1, none⟩ = some (.int .i64 b) := by obtain ⟨_, _, e, _, h⟩ := int_at (k := 1) (z := b) hT rfl; cases e; exact h
  rw [Nat.add_zero] at ht0
  have hBL : ∀ O O2 O3, Below w.heap.size w (((w.alloc O).alloc O2).alloc O3) := fun O O2 O3 => ((below1 w O).alloc (below1 w O).size O2).alloc (by simp <;> omega) O3
  have H0 := fun (t : Int) n => Lib.hid (show Calls Tryz.prog 73 #[.int .i64 t, .slice (some ⟨w.heap.size, 0, none⟩) 2 2] ((((w.alloc (.cells #[.int .i64 1, .int .i64 2] 3)).alloc (.cells #[.int .i64 1, .int .i64 2, .int .i64 3] 3)).alloc (.cells #[.int .i64 4] 3)).drewN n) (fun e w' => e = .returned (.bool (likeT t [1, 2])) ∧ ((((w.alloc (.cells #[.int .i64 1, .int .i64 2] 3)).alloc (.cells #[.int .i64 1, .int .i64 2, .int .i64 3] 3)).alloc (.cells #[.int .i64 4] 3)).drewN n) = w') from in_any t _ 2 [1, 2] _ (ints_bx ((BX.three w _ _ _).keep (below_drewN (Below.refl _ _) n)) [1, 2] 0 rfl (by decide)))
  have H2 := fun (t : Int) n => Lib.hid (show Calls Tryz.prog 73 #[.int .i64 t, .slice (some ⟨w.heap.size + 2, 0, none⟩) 1 1] ((((w.alloc (.cells #[.int .i64 1, .int .i64 2] 3)).alloc (.cells #[.int .i64 1, .int .i64 2, .int .i64 3] 3)).alloc (.cells #[.int .i64 4] 3)).drewN n) (fun e w' => e = .returned (.bool (likeT t [4])) ∧ ((((w.alloc (.cells #[.int .i64 1, .int .i64 2] 3)).alloc (.cells #[.int .i64 1, .int .i64 2, .int .i64 3] 3)).alloc (.cells #[.int .i64 4] 3)).drewN n) = w') from in_any t _ 1 [4] _ (ints_bx ((BX.three w _ _ _).keep (below_drewN (Below.refl _ _) n)) [4] 2 rfl (by decide)))
  have Z0 := fun (t : Int) => Lib.hid (show Calls Tryz.prog 73 #[.int .i64 t, .slice (some ⟨w.heap.size, 0, none⟩) 2 2] (((w.alloc (.cells #[.int .i64 1, .int .i64 2] 3)).alloc (.cells #[.int .i64 1, .int .i64 2, .int .i64 3] 3)).alloc (.cells #[.int .i64 4] 3)) (fun e w' => e = .returned (.bool (likeT t [1, 2])) ∧ (((w.alloc (.cells #[.int .i64 1, .int .i64 2] 3)).alloc (.cells #[.int .i64 1, .int .i64 2, .int .i64 3] 3)).alloc (.cells #[.int .i64 4] 3)) = w') from (H0 t 0).out)
  have Z2 := fun (t : Int) => Lib.hid (show Calls Tryz.prog 73 #[.int .i64 t, .slice (some ⟨w.heap.size + 1 + 1, 0, none⟩) 1 1] (((w.alloc (.cells #[.int .i64 1, .int .i64 2] 3)).alloc (.cells #[.int .i64 1, .int .i64 2, .int .i64 3] 3)).alloc (.cells #[.int .i64 4] 3)) (fun e w' => e = .returned (.bool (likeT t [4])) ∧ (((w.alloc (.cells #[.int .i64 1, .int .i64 2] 3)).alloc (.cells #[.int .i64 1, .int .i64 2, .int .i64 3] 3)).alloc (.cells #[.int .i64 4] 3)) = w') from (H2 t 0).out)
  have c0 := cell_kept ht0 (hBL (.cells #[.int .i64 1, .int .i64 2] 3) (.cells #[.int .i64 1, .int .i64 2, .int .i64 3] 3) (.cells #[.int .i64 4] 3))
  have c1 := cell_kept ht1 (hBL (.cells #[.int .i64 1, .int .i64 2] 3) (.cells #[.int .i64 1, .int .i64 2, .int .i64 3] 3) (.cells #[.int .i64 4] 3))
  clear hT
  go_enter Tryz.func49, Tryz.ntmps49
  go_wp2_with (first
    | (go_at_call 73; (with_reducible refine (Z0 a).out.mono ?_); rintro e w' ⟨rfl, rfl⟩; (try rw [hl]))
    | (go_at_call 73; (with_reducible refine (Z2 a).out.mono ?_); rintro e w' ⟨rfl, rfl⟩; (try rw [hl]))
    | (go_at_call 73; (with_reducible refine (Z2 b).out.mono ?_); rintro e w' ⟨rfl, rfl⟩; (try rw [hl]))
    | fail)
  exact bodyPost_ret (res_tt (fn := Tryz.f49) rfl rfl rfl) rfl ⟨rfl, hBL _ _ _⟩
end Go.Proofs.YthdmfaepjemopaaGreatDoor
