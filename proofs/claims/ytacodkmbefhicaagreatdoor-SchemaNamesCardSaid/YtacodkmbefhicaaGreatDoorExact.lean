/- What the walks ask of the program's variables; the walk of atof64exact. -/
import Derived.Test.YtacodkmbefhicaaGreatDoorSign
import Derived.Laws.FloatArith
import Derived.Test.YtacodkmbefhicaaGreatDoorShelf2
namespace Go.Proofs.YtacodkmbefhicaaGreatDoor
open Go.RowKit

/-- the program's variables: MaxLen, optimize, float64info, float64pow10 -/
structure Glob (m : Int) (t : Nat → Nat) (W : World) : Prop where
  mx : W.cell? ⟨0, 0, none⟩ = some (.int .i64 m)
  opt : W.cell? ⟨4, 0, none⟩ = some (.bool true)
  bits : W.cell? ⟨5, 0, none⟩ = some (.int .u64 52)
  tab : ∃ a c, W.cell? ⟨8, 0, none⟩ = some (.slice (some a) 23 c) ∧ ∀ j, j < 23 → W.cell? (a.add j) = some (.float .f64 (t j))
theorem Glob.keep {m : Int} {t : Nat → Nat} {W w2 : World} (h : Glob m t W) (hB : Below W.heap.size W w2) : Glob m t w2 := by
  obtain ⟨h1, h2, h3, a, c, h4, h5⟩ := h
  refine ⟨cell_kept h1 hB, cell_kept h2 hB, cell_kept h3 hB, a, c, cell_kept h4 hB, fun j hj => ?_⟩
  exact (hB.cell (World.block_lt_of_cell? W _ (h5 j hj))).trans (h5 j hj)
/-- a finite number that is not zero -/
def finD : Ieee.Datum → Bool
  | .number _ n _ => n != 0
  | _ => false
theorem read_le {x : Nat} (h : x ≤ Ieee.double.infRung) : (Ieee.double.read x).isNaN = false := by
  have h1 : Ieee.double.infRung = 9218868437227405312 := by decide
  have h2 : Ieee.double.signWeight = 9223372036854775808 := by decide
  have h3 : x % Ieee.double.signWeight = x := Nat.mod_eq_of_lt (by omega)
  unfold Ieee.Format.read
  simp only [h3]
  split
  · rfl
  · split
    · rfl
    · split
      · rfl
      · omega
theorem nearest_le (f : Ieee.Format) (m : Nat) (p : Int) : f.nearest false m p ≤ f.infRung := by
  unfold Ieee.Format.nearest
  split
  · exact Nat.zero_le _
  · exact Nat.min_le_right _ _
theorem nearest_of (f : Ieee.Format) (M : Nat) : f.write (.number (decide ((M : Int) < 0)) (M : Int).natAbs 0) ≤ f.infRung := by
  rw [show decide ((M : Int) < 0) = false from decide_eq_false (by omega)]
  exact nearest_le f _ _
theorem quot_some {x y : Nat} (hx : (Ieee.double.read x).isNaN = false) (hy : finD (Ieee.double.read y) = true) : ∃ r, floatBits .quo .f64 x y = some r := by
  show ∃ r, Ieee.double.div x y = some r
  unfold Ieee.Format.div
  cases hb : Ieee.double.read y with
  | nan s f => rw [hb] at hy; cases hy
  | infinity s => rw [hb] at hy; cases hy
  | number s n p =>
    rw [hb] at hy
    have hn : n ≠ 0 := by simpa [finD] using hy
    cases ha : Ieee.double.read x with
    | nan s f => rw [ha] at hx; cases hx
    | infinity s2 => exact ⟨_, rfl⟩
    | number s2 m q =>
      unfold Ieee.Datum.quotient
      simp only [if_neg hn]
      exact ⟨_, rfl⟩
theorem ofInt_some (M : Nat) : (Ieee.double.read (floatOfInt .f64 (M : Int))).isNaN = false := by
  exact read_le (nearest_of Ieee.double M)
set_option maxRecDepth 100000 in
set_option maxHeartbeats 4000000 in
theorem exact_any (m : Int) (t : Nat → Nat) (ht : ∀ j, j < 23 → finD (Ieee.double.read (t j)) = true) (M e : Nat) (hM : M < 4503599627370496) (he : e ≤ 22) : ∃ f, ∀ W, Glob m t W → Calls Tryz.prog 89 #[.int .u64 (M : Int), .int .i64 (-(e : Int)), .bool false] W (RetV (.tuple #[.float .f64 f, .bool true]) W) := by
  obtain ⟨g, hg, hgn⟩ : ∃ g, (∀ W, (convert 116 79 (.int .u64 (M : Int))).run Tryz.prog W = .ok (.float .f64 g) W) ∧ (Ieee.double.read g).isNaN = false := ⟨_, fun W => run_convert_int_float W 116 79 .u64 .f64 _ (by rw [Tryz.underlying116]; rfl) Tryz.underlying79, ofInt_some M⟩
  obtain ⟨q, hq0⟩ := quot_some hgn (ht e (by omega))
  have hq : ∀ W, (binOp .quo 79 (.float .f64 g) (.float .f64 (t e))).run Tryz.prog W = .ok (.float .f64 q) W := fun W => run_float_arith W .quo 79 .f64 g (t e) _ hq0
  have hsh : ∀ W, (binOp .shr 116 (.int .u64 (M : Int)) (.int .u64 52)).run Tryz.prog W = .ok (.int .u64 0) W := by
    intro W
    have h : ((M : Int).fdiv (2 ^ min 52 IntKind.u64.bits)) = 0 := by
      rw [show min 52 IntKind.u64.bits = 52 from rfl, Int.fdiv_eq_ediv_of_nonneg _ (by decide)]
      exact Int.ediv_eq_zero_of_lt (by omega) (by omega)
    simp [binOp, Op.shift, h]
  by_cases h0 : e = 0
  · subst h0
    refine ⟨g, fun W hG => ?_⟩
    have hbits := hG.bits
    go_enter Tryz.func89, Tryz.ntmps89
    go_wp2_with fail
    exact bodyPost_ret (v := .tuple #[.float .f64 g, .bool true]) (by simp [results, Tryz.results89, go_sem]) rfl ⟨rfl, Below.refl _ _⟩
  · refine ⟨q, fun W hG => ?_⟩
    have hbits := hG.bits
    obtain ⟨a, c, htab, hcell⟩ := hG.tab
    have hce := hcell e (by omega)
    have h1 : ((0 : Int) < -(e : Int)) = False := eq_false (by omega)
    have h2 : (-(e : Int) == 0) = false := by rw [beq_eq_false_iff_ne]; omega
    have h3 : (-(e : Int) < 0) = True := eq_true (by omega)
    have h4 : ((-22 : Int) ≤ -(e : Int)) = True := eq_true (by omega)
    go_enter Tryz.func89, Tryz.ntmps89
    go_wp2_with fail
    exact bodyPost_ret (v := .tuple #[.float .f64 q, .bool true]) (by simp [results, Tryz.results89, go_sem]) rfl ⟨rfl, Below.refl _ _⟩
end Go.Proofs.YtacodkmbefhicaaGreatDoor
