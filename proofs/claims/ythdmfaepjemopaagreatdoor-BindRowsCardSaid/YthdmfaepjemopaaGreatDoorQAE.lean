/- The walks of package value: values made, values cleaned. The walk of package value's Clean. Contracts. The walk of the document's Exact. The walk of the document's Clean. -/
import Derived.Test.YthdmfaepjemopaaGreatDoorQAC
import Derived.Test.YthdmfaepjemopaaGreatDoorQAA
import Derived.Outline
import Derived.WalkSmall
namespace Go.Proofs.YthdmfaepjemopaaGreatDoor
open Go.RowKit

@[reducible] def vV (k n : Int) (f : Nat) (s : ByteArray) : Value := .agg #[.int .i64 k, .int .i64 n, .float .f64 f, .string s]
def nanZ : Nat := 9221120237041090561
def feq (x y : Nat) : Bool := FloatKind.f64.format.order x y == some .eq
def realZ (f : Nat) : Nat := if feq f f = false then nanZ else if feq f 0 = true then 0 else f

theorem frombits_nan (w : World) : (callFunc 99 #[.int .u64 9221120237041090561]).run Tryz.prog w = .ok (.value (.float .f64 nanZ)) w := by kernel_rfl

set_option maxRecDepth 100000 in
set_option maxHeartbeats 1000000 in
theorem nan_any (w : World) : Calls Tryz.prog 89 #[] w fun e w' => e = .returned (.float .f64 nanZ) ∧ w = w' := by
  have h := frombits_nan
  go_enter Tryz.func89, Tryz.ntmps89
  go_wp2_with fail
  go_ret
  exact ⟨rfl, rfl⟩

theorem isnan_any (f : Nat) (w : World) : Calls Tryz.prog 88 #[.float .f64 f] w fun e w' => e = .returned (.bool (!feq f f)) ∧ w = w' := by
  go_enter Tryz.func88, Tryz.ntmps88
  go_wp2
  go_ret
  exact ⟨rfl, rfl⟩

set_option maxRecDepth 100000 in
set_option maxHeartbeats 1000000 in
theorem ofreal_any (f : Nat) (w : World) : Calls Tryz.prog 69 #[.float .f64 f] w (RetV (vV 2 0 (realZ f) ⟨#[]⟩) w) := by
  have sf := store_float
  by_cases h1 : feq f f = false
  · have H := Lib.hid (show realZ f = nanZ by unfold realZ; rw [if_pos h1])
    have HI := Lib.hid (show ∀ w, Calls Tryz.prog 88 #[.float .f64 f] w fun e w' => e = .returned (.bool true) ∧ w = w' from fun w => by have := isnan_any f w; rw [h1] at this; exact this)
    have HN := Lib.hid nan_any
    clear h1
    generalize nanZ = nz at H HN
    go_enter Tryz.func69, Tryz.ntmps69
    go_wp2_with (first
      | (go_at_call 88; (with_reducible refine (HI.out _).mono ?_); rintro e w' ⟨rfl, rfl⟩)
      | (go_at_call 89; (with_reducible refine (HN.out _).mono ?_); rintro e w' ⟨rfl, rfl⟩)
      | fail)
    exact bodyPost_ret (v := vV 2 0 nz ⟨#[]⟩) (by simp [results, Tryz.results69, go_sem]) rfl ⟨by rw [H.out], by go_grown⟩
  · have h1' : feq f f = true := by simpa using h1
    have HI := Lib.hid (show ∀ w, Calls Tryz.prog 88 #[.float .f64 f] w fun e w' => e = .returned (.bool false) ∧ w = w' from fun w => by have := isnan_any f w; rw [h1'] at this; exact this)
    by_cases h2 : feq f 0 = true
    · have H := Lib.hid (show realZ f = 0 by unfold realZ; rw [if_neg h1, if_pos h2])
      have hb : (FloatKind.f64.format.order f 0 == some .eq) = true := h2
      clear h1 h1' h2
      go_enter Tryz.func69, Tryz.ntmps69
      go_wp2_with (first
        | (go_at_call 88; (with_reducible refine (HI.out _).mono ?_); rintro e w' ⟨rfl, rfl⟩)
        | fail)
      exact bodyPost_ret (v := vV 2 0 0 ⟨#[]⟩) (by simp [results, Tryz.results69, go_sem]) rfl ⟨by rw [H.out], by go_grown⟩
    · have H := Lib.hid (show realZ f = f by unfold realZ; rw [if_neg h1, if_neg h2])
      have hb : (FloatKind.f64.format.order f 0 == some .eq) = false := by simpa [feq] using h2
      clear h1 h1' h2
      go_enter Tryz.func69, Tryz.ntmps69
      go_wp2_with (first
        | (go_at_call 88; (with_reducible refine (HI.out _).mono ?_); rintro e w' ⟨rfl, rfl⟩)
        | fail)
      exact bodyPost_ret (v := vV 2 0 f ⟨#[]⟩) (by simp [results, Tryz.results69, go_sem]) rfl ⟨by rw [H.out], by go_grown⟩

end Go.Proofs.YthdmfaepjemopaaGreatDoor
namespace Go.Proofs.YthdmfaepjemopaaGreatDoor
open Go.RowKit

def clK (k : Int) : Int := if k = 1 ∨ k = 2 ∨ k = 3 ∨ k = 4 then k else 0
def clN (k n : Int) : Int := if k = 1 then n else if k = 4 then (if n = 0 then 0 else 1) else 0
def clF (k : Int) (f : Nat) : Nat := if k = 2 then realZ f else 0
def clS (k : Int) (s : ByteArray) : ByteArray := if k = 3 then s else ⟨#[]⟩
@[reducible] def clV (k n : Int) (f : Nat) (s : ByteArray) : Value := vV (clK k) (clN k n) (clF k f) (clS k s)

theorem result_kept {W w2 : World} {g : Nat} {T : TypeId} {u0 u1 u2 u3 : Value} (q : W.heap[g]? = some (.cells #[u0, u1, u2, u3] T (0, 0))) (hB : Below W.heap.size W w2) :
    (w2.cell? ⟨g, 0, none⟩ = some u0 ∧ w2.cell? ⟨g, 1, none⟩ = some u1 ∧ w2.cell? ⟨g, 2, none⟩ = some u2 ∧ w2.cell? ⟨g, 3, none⟩ = some u3) ∧
    (w2.frozen? ⟨g, 0, none⟩ = false ∧ w2.frozen? ⟨g, 1, none⟩ = false ∧ w2.frozen? ⟨g, 2, none⟩ = false ∧ w2.frozen? ⟨g, 3, none⟩ = false) ∧ g < w2.heap.size := by
  have hlt : g < W.heap.size := by
    rcases Nat.lt_or_ge g W.heap.size with h | h
    · exact h
    · rw [Array.getElem?_eq_none h] at q; cases q
  have q2 := (hB.block g hlt).trans q
  have := hB.size
  exact ⟨⟨cell_of_row w2 g 0 _ _ _ q2, cell_of_row w2 g 1 _ _ _ q2, cell_of_row w2 g 2 _ _ _ q2, cell_of_row w2 g 3 _ _ _ q2⟩, ⟨frozen_of_row w2 g 0 _ _ q2, frozen_of_row w2 g 1 _ _ q2, frozen_of_row w2 g 2 _ _ q2, frozen_of_row w2 g 3 _ _ q2⟩, by omega⟩

set_option maxRecDepth 100000 in
set_option maxHeartbeats 2000000 in
theorem clean_any (k n : Int) (f : Nat) (s : ByteArray) (w : World) : Calls Tryz.prog 40 #[vV k n f s] w (RetV (clV k n f s) w) := by
  have sf := store_float
  by_cases h1 : k = 1
  · subst h1
    go_enter Tryz.func40, Tryz.ntmps40
    go_wp2
    exact bodyPost_ret (v := vV 1 n 0 ⟨#[]⟩) (by simp [results, Tryz.results40, go_sem]) rfl ⟨rfl, by go_grown⟩
  · by_cases h2 : k = 2
    · subst h2
      have q := heap_alloc2_new w (.cells #[.int .i64 2, .int .i64 n, .float .f64 f, .string s] 39) (.cells #[.int .i64 0, .int .i64 0, .float .f64 0, .string ⟨#[]⟩] 39)
      have HR := Lib.hid (show clV 2 n f s = vV 2 0 (realZ f) ⟨#[]⟩ from rfl)
      have hA : Below w.heap.size w ((w.alloc (.cells #[.int .i64 2, .int .i64 n, .float .f64 f, .string s] 39)).alloc (.cells #[.int .i64 0, .int .i64 0, .float .f64 0, .string ⟨#[]⟩] 39)) := by go_grown
      have HC := Lib.hid (fun w => ofreal_any f w)
      have HQ := Lib.hid q
      clear q
      rw [HR.out]
      generalize realZ f = z at HR HC ⊢
      go_enter Tryz.func40, Tryz.ntmps40
      go_wp2_with (first
        | (go_at_call 69; (with_reducible refine (HC.out _).mono ?_); rintro e w2 ⟨rfl, hB⟩; obtain ⟨⟨d0, d1, d2, d3⟩, ⟨f0, f1, f2, f3⟩, l0⟩ := result_kept HQ.out hB; have hB2 := hA.trans (hB.mono hA.size))
        | fail)
      exact bodyPost_ret (v := vV 2 0 z ⟨#[]⟩) (by simp [results, Tryz.results40, go_sem, d0, d1, d2, d3]) rfl ⟨rfl, by exact (((hB2.setCell (Nat.le_succ _) _).setCell (Nat.le_succ _) _).setCell (Nat.le_succ _) _).setCell (Nat.le_succ _) _⟩
    · by_cases h3 : k = 3
      · subst h3
        go_enter Tryz.func40, Tryz.ntmps40
        go_wp2
        exact bodyPost_ret (v := vV 3 0 0 s) (by simp [results, Tryz.results40, go_sem]) rfl ⟨rfl, by go_grown⟩
      · by_cases h4 : k = 4
        · subst h4
          by_cases hn : n = 0
          · subst hn
            go_enter Tryz.func40, Tryz.ntmps40
            go_wp2
            exact bodyPost_ret (v := vV 4 0 0 ⟨#[]⟩) (by simp [results, Tryz.results40, go_sem]) rfl ⟨rfl, by go_grown⟩
          · have H := Lib.hid (show clN 4 n = 1 by unfold clN; simp [hn])
            have hb : (n != 0) = true := by simpa using hn
            go_enter Tryz.func40, Tryz.ntmps40
            go_wp2
            exact bodyPost_ret (v := vV 4 1 0 ⟨#[]⟩) (by simp [results, Tryz.results40, go_sem]) rfl ⟨by unfold clV; rw [H.out]; rfl, by go_grown⟩
        · have H := Lib.hid (show clV k n f s = nullV by unfold clV clK clN clF clS; rw [if_neg (by omega), if_neg h1, if_neg h4, if_neg h2, if_neg h3])
          rw [H.out]
          have b1 : (k == 1) = false := by simpa using h1
          have b2 : (k == 2) = false := by simpa using h2
          have b3 : (k == 3) = false := by simpa using h3
          have b4 : (k == 4) = false := by simpa using h4
          go_enter Tryz.func40, Tryz.ntmps40
          go_wp2
          exact bodyPost_ret (v := nullV) (by simp [results, Tryz.results40, go_sem]) rfl ⟨rfl, by go_grown⟩
end Go.Proofs.YthdmfaepjemopaaGreatDoor
/- The walks of the document's small functions on values, and of package value's True. -/
namespace Go.Proofs.YthdmfaepjemopaaGreatDoor
open Go.RowKit

theorem number_any (f : Nat) (w : World) : Calls Tryz.prog 74 #[.float .f64 f] w fun e w' => e = .returned (.bool (feq f f)) ∧ w = w' := by
  go_enter Tryz.func74, Tryz.ntmps74
  go_wp2
  go_ret
  exact ⟨rfl, rfl⟩

end Go.Proofs.YthdmfaepjemopaaGreatDoor
namespace Go.Proofs.YthdmfaepjemopaaGreatDoor
open Go.RowKit

theorem quiet_here {P : Program} {f : FuncId} {args : Array Value} {w : World} {n : Nat} {v : Value} (h : Calls P f args (w.drewN n) fun e w' => e = .returned v ∧ w.drewN n = w') : Calls P f args (w.drewN n) fun e w'' => e = .returned v ∧ ∃ m, w'' = w.drewN m :=
  h.mono fun _ _ ⟨he, hm⟩ => ⟨he, n, hm.symm⟩

theorem float_bits (f : Nat) (w : World) : (callFunc 90 #[.float .f64 f]).run Tryz.prog w = .ok (.value (.int .u64 f)) w := by kernel_rfl
set_option maxRecDepth 100000 in
theorem signbit_any (f : Nat) (w : World) : Calls Tryz.prog 75 #[.float .f64 f] w fun e w' => e = .returned (.bool (decide (wrap64 (f : Int) < 0))) ∧ w = w' := by
  have hb := float_bits f
  go_enter Tryz.func75, Tryz.ntmps75
  go_wp2_with fail
  go_ret
  exact ⟨rfl, rfl⟩

set_option maxRecDepth 100000 in
set_option maxHeartbeats 2000000 in
theorem exact_same (k n : Int) (f : Nat) (s : ByteArray) (w : World) (hf : feq f f = true) : Calls Tryz.prog 50 #[vV k n f s, vV k n f s] w (RetV (.bool true) w) := by
  have hb : (FloatKind.f64.format.order f f == some .eq) = true := hf
  have hn : ∀ w, Calls Tryz.prog 74 #[.float .f64 f] w fun e w' => e = .returned (.bool true) ∧ w = w' := fun w => by have := number_any f w; rw [hf] at this; exact this
  have HN := Lib.hid hn
  clear hn hf
  go_enter Tryz.func50, Tryz.ntmps50
  go_wp2_with fail
  go_quiet (first
    | ((with_reducible refine quiet_here (HN.out _)))
    | ((with_reducible refine quiet_here (signbit_any f _)))
    | fail)
  go_wp2_with fail
  go_ret
  exact ⟨rfl, below_drewN (by go_grown) nq⟩

set_option maxRecDepth 100000 in
set_option maxHeartbeats 2000000 in
theorem exact_nan (k n : Int) (f g : Nat) (s : ByteArray) (w : World) (hf : feq f f = false) (hg : feq g g = false) : Calls Tryz.prog 50 #[vV k n f s, vV k n g s] w (RetV (.bool true) w) := by
  have HN := Lib.hid (show ∀ w, Calls Tryz.prog 74 #[.float .f64 f] w fun e w' => e = .returned (.bool false) ∧ w = w' from fun w => by have := number_any f w; rw [hf] at this; exact this)
  have HG := Lib.hid (show ∀ w, Calls Tryz.prog 74 #[.float .f64 g] w fun e w' => e = .returned (.bool false) ∧ w = w' from fun w => by have := number_any g w; rw [hg] at this; exact this)
  clear hf hg
  go_enter Tryz.func50, Tryz.ntmps50
  go_wp2_with fail
  go_quiet (first
    | ((with_reducible refine quiet_here (HN.out _)))
    | ((with_reducible refine quiet_here (HG.out _)))
    | fail)
  go_wp2_with fail
  go_ret
  exact ⟨rfl, below_drewN (by go_grown) nq⟩
end Go.Proofs.YthdmfaepjemopaaGreatDoor
namespace Go.Proofs.YthdmfaepjemopaaGreatDoor
open Go.RowKit

def rclF (k : Int) (f : Nat) : Nat := if k = 2 then (if feq f 0 = true then 0 else f) else 0
@[reducible] def rclV (k n : Int) (f : Nat) (s : ByteArray) : Value := vV (clK k) (clN k n) (rclF k f) (clS k s)

set_option maxRecDepth 100000 in
set_option maxHeartbeats 4000000 in
theorem rclean_any (k n : Int) (f : Nat) (s : ByteArray) (w : World) : Calls Tryz.prog 48 #[vV k n f s] w (RetV (rclV k n f s) w) := by
  have sf := store_float
  by_cases h1 : k = 1
  · subst h1
    go_enter Tryz.func48, Tryz.ntmps48
    go_wp2
    exact bodyPost_ret (v := vV 1 n 0 ⟨#[]⟩) (by simp [results, Tryz.results48, go_sem]) rfl ⟨rfl, by go_grown⟩
  · by_cases h2 : k = 2
    · subst h2
      by_cases hz : feq f 0 = true
      · have H := Lib.hid (show rclV 2 n f s = vV 2 0 0 ⟨#[]⟩ by unfold rclV rclF; rw [if_pos rfl, if_pos hz]; rfl)
        have hb : (FloatKind.f64.format.order f 0 != some .eq) = false := by unfold feq at hz; unfold bne; rw [hz]; rfl
        rw [H.out]
        clear hz
        go_enter Tryz.func48, Tryz.ntmps48
        go_wp2
        exact bodyPost_ret (v := vV 2 0 0 ⟨#[]⟩) (by simp [results, Tryz.results48, go_sem]) rfl ⟨rfl, by go_grown⟩
      · have H := Lib.hid (show rclV 2 n f s = vV 2 0 f ⟨#[]⟩ by unfold rclV rclF; rw [if_pos rfl, if_neg hz]; rfl)
        have hb : (FloatKind.f64.format.order f 0 != some .eq) = true := by have h : feq f 0 = false := by simpa using hz
                                                                            unfold feq at h; unfold bne; rw [h]; rfl
        rw [H.out]
        clear hz
        go_enter Tryz.func48, Tryz.ntmps48
        go_wp2
        exact bodyPost_ret (v := vV 2 0 f ⟨#[]⟩) (by simp [results, Tryz.results48, go_sem]) rfl ⟨rfl, by go_grown⟩
    · by_cases h3 : k = 3
      · subst h3
        go_enter Tryz.func48, Tryz.ntmps48
        go_wp2
        exact bodyPost_ret (v := vV 3 0 0 s) (by simp [results, Tryz.results48, go_sem]) rfl ⟨rfl, by go_grown⟩
      · by_cases h4 : k = 4
        · subst h4
          by_cases hn : n = 0
          · subst hn
            go_enter Tryz.func48, Tryz.ntmps48
            go_wp2
            exact bodyPost_ret (v := vV 4 0 0 ⟨#[]⟩) (by simp [results, Tryz.results48, go_sem]) rfl ⟨rfl, by go_grown⟩
          · have H := Lib.hid (show rclV 4 n f s = vV 4 1 0 ⟨#[]⟩ by unfold rclV clN; rw [if_neg (by omega), if_pos rfl, if_neg hn]; rfl)
            have hb : (n != 0) = true := by simpa using hn
            rw [H.out]
            go_enter Tryz.func48, Tryz.ntmps48
            go_wp2
            exact bodyPost_ret (v := vV 4 1 0 ⟨#[]⟩) (by simp [results, Tryz.results48, go_sem]) rfl ⟨rfl, by go_grown⟩
        · have H := Lib.hid (show rclV k n f s = nullV by unfold rclV clK clN rclF clS; rw [if_neg (by omega), if_neg h1, if_neg h4, if_neg h2, if_neg h3])
          rw [H.out]
          have b1 : (k == 1) = false := by simpa using h1
          have b2 : (k == 2) = false := by simpa using h2
          have b3 : (k == 3) = false := by simpa using h3
          have b4 : (k == 4) = false := by simpa using h4
          by_cases h0 : k = 0
          · subst h0
            go_enter Tryz.func48, Tryz.ntmps48
            go_wp2
            exact bodyPost_ret (v := nullV) (by simp [results, Tryz.results48, go_sem]) rfl ⟨rfl, by go_grown⟩
          · by_cases hneg : k < 0
            · go_enter Tryz.func48, Tryz.ntmps48
              go_wp2
              exact bodyPost_ret (v := nullV) (by simp [results, Tryz.results48, go_sem]) rfl ⟨rfl, by go_grown⟩
            · have h5 : 4 < k := by omega
              go_enter Tryz.func48, Tryz.ntmps48
              go_wp2
              exact bodyPost_ret (v := nullV) (by simp [results, Tryz.results48, go_sem]) rfl ⟨rfl, by go_grown⟩
end Go.Proofs.YthdmfaepjemopaaGreatDoor
