/- The walk of the statement CostRises: the loop that raises the numbers, the two calls of the closure in whatever order Go takes them, the comparison. -/
import Derived.Test.YtmbhkfjcjklemaaRises
import Derived.Deep.DeepCutAuto
import Derived.Deep.QuietTactic
import Derived.BigQuiet
namespace Go.Proofs.Ytmbhkfjcjklemaa
open Go.RowKit

theorem heap_three (w : World) (A B C : Obj) : (((w.alloc A).alloc B).alloc C).heap[w.heap.size]? = some A ∧ (((w.alloc A).alloc B).alloc C).heap[w.heap.size + 1]? = some B ∧ (((w.alloc A).alloc B).alloc C).heap[w.heap.size + 1 + 1]? = some C := by
  refine ⟨?_, ?_, ?_⟩
  · exact (Below.heap_alloc ((w.alloc A).alloc B) C _ (by simp; omega)).trans (heap_alloc2_old w A B)
  · exact (Below.heap_alloc ((w.alloc A).alloc B) C _ (by simp)).trans (heap_alloc2_new w A B)
  · have h := heap_alloc_new ((w.alloc A).alloc B) C
    have hs : ((w.alloc A).alloc B).heap.size = w.heap.size + 1 + 1 := by simp
    rw [hs] at h; exact h

/-- what stands in the three blocks of the parameters -/
theorem three_cells {w w' : World} {x y z a b c k : Int} (hB : Below (((w.alloc (.cells #[.int .i64 x, .int .i64 y, .int .i64 z] 31)).alloc (.cells #[.int .u32 a, .int .u32 b, .int .u32 c] 33)).alloc (.cells #[.int .i64 k] 3)).heap.size (((w.alloc (.cells #[.int .i64 x, .int .i64 y, .int .i64 z] 31)).alloc (.cells #[.int .u32 a, .int .u32 b, .int .u32 c] 33)).alloc (.cells #[.int .i64 k] 3)) w') :
    w'.cell? ⟨w.heap.size, 0, none⟩ = some (.int .i64 x) ∧ w'.cell? ⟨w.heap.size, 1, none⟩ = some (.int .i64 y) ∧ w'.cell? ⟨w.heap.size, 2, none⟩ = some (.int .i64 z) ∧
    w'.cell? ⟨w.heap.size + 1, 0, none⟩ = some (.int .u32 a) ∧ w'.cell? ⟨w.heap.size + 1, 1, none⟩ = some (.int .u32 b) ∧ w'.cell? ⟨w.heap.size + 1, 2, none⟩ = some (.int .u32 c) ∧
    w'.cell? ⟨w.heap.size + 1 + 1, 0, none⟩ = some (.int .i64 k) ∧ w.heap.size < w'.heap.size ∧ w.heap.size + 1 < w'.heap.size ∧ w.heap.size + 1 + 1 < w'.heap.size ∧ Below w.heap.size w w' := by
  obtain ⟨r0, r1, r2⟩ := heap_three w (.cells #[.int .i64 x, .int .i64 y, .int .i64 z] 31) (.cells #[.int .u32 a, .int .u32 b, .int .u32 c] 33) (.cells #[.int .i64 k] 3)
  have hz := hB.size
  have hs : (((w.alloc (.cells #[.int .i64 x, .int .i64 y, .int .i64 z] 31)).alloc (.cells #[.int .u32 a, .int .u32 b, .int .u32 c] 33)).alloc (.cells #[.int .i64 k] 3)).heap.size = w.heap.size + 3 := by simp
  have q0 := (hB.block w.heap.size (by omega)).trans r0
  have q1 := (hB.block (w.heap.size + 1) (by omega)).trans r1
  have q2 := (hB.block (w.heap.size + 1 + 1) (by omega)).trans r2
  have hb0 : Below w.heap.size w (((w.alloc (.cells #[.int .i64 x, .int .i64 y, .int .i64 z] 31)).alloc (.cells #[.int .u32 a, .int .u32 b, .int .u32 c] 33)).alloc (.cells #[.int .i64 k] 3)) := by go_grown
  refine ⟨?_, ?_, ?_, ?_, ?_, ?_, ?_, by omega, by omega, by omega, hb0.trans (hB.mono (by omega))⟩
  · rw [cell_of_row _ _ _ _ _ _ q0]; rfl
  · rw [cell_of_row _ _ _ _ _ _ q0]; rfl
  · rw [cell_of_row _ _ _ _ _ _ q0]; rfl
  · rw [cell_of_row _ _ _ _ _ _ q1]; rfl
  · rw [cell_of_row _ _ _ _ _ _ q1]; rfl
  · rw [cell_of_row _ _ _ _ _ _ q1]; rfl
  · rw [cell_of_row _ _ _ _ _ _ q2]; rfl


def moreZ (n e : Int) : Int := if n < 1152921504606846976 then n + e else n

/-- what is known of the world in and behind the first loop -/
def Kept (w w' : World) (M : Nat) (x y z a b c k v0 v1 v2 : Int) : Prop :=
  w'.cell? ⟨w.heap.size, 0, none⟩ = some (.int .i64 x) ∧ w'.cell? ⟨w.heap.size, 1, none⟩ = some (.int .i64 y) ∧ w'.cell? ⟨w.heap.size, 2, none⟩ = some (.int .i64 z) ∧
  w'.cell? ⟨w.heap.size + 1, 0, none⟩ = some (.int .u32 a) ∧ w'.cell? ⟨w.heap.size + 1, 1, none⟩ = some (.int .u32 b) ∧ w'.cell? ⟨w.heap.size + 1, 2, none⟩ = some (.int .u32 c) ∧
  w'.cell? ⟨w.heap.size + 1 + 1, 0, none⟩ = some (.int .i64 k) ∧
  w'.cell? ⟨M, 0, none⟩ = some (.int .i64 v0) ∧ w'.cell? ⟨M, 1, none⟩ = some (.int .i64 v1) ∧ w'.cell? ⟨M, 2, none⟩ = some (.int .i64 v2) ∧
  (∀ o, w'.frozen? ⟨M, o, none⟩ = false) ∧ w.heap.size + 1 + 1 < M ∧ M < w'.heap.size ∧ Below w.heap.size w w'

theorem Kept.start {w w1 : World} {x y z a b c k : Int} (e0 : w1.cell? ⟨w.heap.size, 0, none⟩ = some (.int .i64 x)) (e1 : w1.cell? ⟨w.heap.size, 1, none⟩ = some (.int .i64 y)) (e2 : w1.cell? ⟨w.heap.size, 2, none⟩ = some (.int .i64 z)) (e3 : w1.cell? ⟨w.heap.size + 1, 0, none⟩ = some (.int .u32 a)) (e4 : w1.cell? ⟨w.heap.size + 1, 1, none⟩ = some (.int .u32 b)) (e5 : w1.cell? ⟨w.heap.size + 1, 2, none⟩ = some (.int .u32 c)) (e6 : w1.cell? ⟨w.heap.size + 1 + 1, 0, none⟩ = some (.int .i64 k)) (l2 : w.heap.size + 1 + 1 < w1.heap.size) (hb : Below w.heap.size w w1) :
    Kept w (w1.alloc (.cells #[.int .i64 0, .int .i64 0, .int .i64 0] 31)) w1.heap.size x y z a b c k 0 0 0 := by
  have hB : Below w1.heap.size w1 (w1.alloc (.cells #[.int .i64 0, .int .i64 0, .int .i64 0] 31)) := (Below.refl _ _).alloc (Nat.le_refl _) _
  have hl : ∀ b o, b < w1.heap.size → (w1.alloc (.cells #[.int .i64 0, .int .i64 0, .int .i64 0] 31)).cell? ⟨b, o, none⟩ = w1.cell? ⟨b, o, none⟩ := fun b o h => hB.cell (p := ⟨b, o, none⟩) h
  have hr := heap_alloc_new w1 (.cells #[.int .i64 0, .int .i64 0, .int .i64 0] 31)
  refine ⟨(hl _ _ (by omega)).trans e0, (hl _ _ (by omega)).trans e1, (hl _ _ (by omega)).trans e2, (hl _ _ (by omega)).trans e3, (hl _ _ (by omega)).trans e4, (hl _ _ (by omega)).trans e5, (hl _ _ (by omega)).trans e6, ?_, ?_, ?_, fun o => frozen_of_row _ _ _ _ _ hr, l2, by simp, hb.trans (hB.mono (by omega))⟩
  · rw [cell_of_row _ _ _ _ _ _ hr]; rfl
  · rw [cell_of_row _ _ _ _ _ _ hr]; rfl
  · rw [cell_of_row _ _ _ _ _ _ hr]; rfl

/-- a store into m -/
theorem Kept.set {w w' : World} {M : Nat} {x y z a b c k v0 v1 v2 : Int} (h : Kept w w' M x y z a b c k v0 v1 v2) (n : Int) :
    Kept w (w'.setCell ⟨M, 0, none⟩ (.int .i64 n)) M x y z a b c k n v1 v2 ∧ Kept w (w'.setCell ⟨M, 1, none⟩ (.int .i64 n)) M x y z a b c k v0 n v2 ∧ Kept w (w'.setCell ⟨M, 2, none⟩ (.int .i64 n)) M x y z a b c k v0 v1 n := by
  obtain ⟨e0, e1, e2, e3, e4, e5, e6, m0, m1, m2, hf, l2, lM, hb⟩ := h
  have go : ∀ i v, Below M w' (w'.setCell ⟨M, i, none⟩ v) := fun i v => (Below.refl M w').setCell (p := ⟨M, i, none⟩) (Nat.le_refl _) v
  have hl : ∀ i v b o, b < M → (w'.setCell ⟨M, i, none⟩ v).cell? ⟨b, o, none⟩ = w'.cell? ⟨b, o, none⟩ := fun i v b o h => (go i v).cell (p := ⟨b, o, none⟩) h
  have ho : ∀ i j v, i ≠ j → (w'.setCell ⟨M, i, none⟩ v).cell? ⟨M, j, none⟩ = w'.cell? ⟨M, j, none⟩ := fun i j v h => World.cell?_setCell_other _ _ _ _ (fun e => h (by injection e))
  refine ⟨⟨(hl _ _ _ _ (by omega)).trans e0, (hl _ _ _ _ (by omega)).trans e1, (hl _ _ _ _ (by omega)).trans e2, (hl _ _ _ _ (by omega)).trans e3, (hl _ _ _ _ (by omega)).trans e4, (hl _ _ _ _ (by omega)).trans e5, (hl _ _ _ _ (by omega)).trans e6, World.cell?_setCell_same _ _ _ m0, (ho 0 1 _ (by decide)).trans m1, (ho 0 2 _ (by decide)).trans m2, fun o => (World.frozen?_setCell ..).trans (hf o), l2, by simpa using lM, hb.trans ((go _ _).mono (by omega))⟩,
    ⟨(hl _ _ _ _ (by omega)).trans e0, (hl _ _ _ _ (by omega)).trans e1, (hl _ _ _ _ (by omega)).trans e2, (hl _ _ _ _ (by omega)).trans e3, (hl _ _ _ _ (by omega)).trans e4, (hl _ _ _ _ (by omega)).trans e5, (hl _ _ _ _ (by omega)).trans e6, (ho 1 0 _ (by decide)).trans m0, World.cell?_setCell_same _ _ _ m1, (ho 1 2 _ (by decide)).trans m2, fun o => (World.frozen?_setCell ..).trans (hf o), l2, by simpa using lM, hb.trans ((go _ _).mono (by omega))⟩,
    ⟨(hl _ _ _ _ (by omega)).trans e0, (hl _ _ _ _ (by omega)).trans e1, (hl _ _ _ _ (by omega)).trans e2, (hl _ _ _ _ (by omega)).trans e3, (hl _ _ _ _ (by omega)).trans e4, (hl _ _ _ _ (by omega)).trans e5, (hl _ _ _ _ (by omega)).trans e6, (ho 2 0 _ (by decide)).trans m0, (ho 2 1 _ (by decide)).trans m1, World.cell?_setCell_same _ _ _ m2, fun o => (World.frozen?_setCell ..).trans (hf o), l2, by simpa using lM, hb.trans ((go _ _).mono (by omega))⟩⟩

theorem moreZ_le (n e : Int) (h : 0 ≤ e) : n ≤ moreZ n e := by unfold moreZ; split <;> omega

/-- the two rows of costs, place by place -/
theorem eight_pair (x y z x' y' z' k : Int) (hx : x ≤ x') (hy : y ≤ y') (hz : z ≤ z') : ∀ n, n < 8 → ∃ p q : Int, (eightA x y z k)[n]? = some (.int .i64 p) ∧ (eightA x' y' z' k)[n]? = some (.int .i64 q) ∧ 0 ≤ p ∧ q ≤ 4503599627370496 ∧ p ≤ q := by
  intro n hn
  match n, hn with
  | 0, _ => exact ⟨_, _, rfl, rfl, (addZ_bd _ _).1, (addZ_bd _ _).2, addZ_mono hx hy⟩
  | 1, _ => exact ⟨_, _, rfl, rfl, (mulZ_bd _ _).1, (mulZ_bd _ _).2, mulZ_mono hx hy⟩
  | 2, _ => exact ⟨_, _, rfl, rfl, (partZ_bd _ _).1, (partZ_bd _ _).2, partZ_mono hx hy⟩
  | 3, _ => exact ⟨_, _, rfl, rfl, (seqZ_bd _ _).1, (seqZ_bd _ _).2, seqZ_mono hx k⟩
  | 4, _ => exact ⟨_, _, rfl, rfl, (rangeZ_bd _).1, (rangeZ_bd _).2, rangeZ_mono hx⟩
  | 5, _ => exact ⟨_, _, rfl, rfl, (loopZ_bd _ _ _).1, (loopZ_bd _ _ _).2, loopZ_mono hx hy hz⟩
  | 6, _ => exact ⟨_, _, rfl, rfl, (lookZ_bd _ _ _).1, (lookZ_bd _ _ _).2, lookZ_mono hx hy hz⟩
  | 7, _ => exact ⟨_, _, rfl, rfl, (sortZ_bd _ _).1, (sortZ_bd _ _).2, sortZ_mono hx hy⟩

/-- block b holds a result of eight cells -/
def Res (W : World) (b : Nat) : Prop := ∃ c, W.heap[b]? = some (.cells c 34 (0, 0)) ∧ c.size = 8
def cf (W : World) (b o : Nat) : Value := (W.cell? ⟨b, o, none⟩).getD undef
theorem Res.new (W : World) (n : Nat) (h : n = W.heap.size) : Res (W.alloc (.cells #[.int .i64 0, .int .i64 0, .int .i64 0, .int .i64 0, .int .i64 0, .int .i64 0, .int .i64 0, .int .i64 0] 34)) n := by
  subst h; exact ⟨_, heap_alloc_new _ _, rfl⟩
theorem Res.alloc (W : World) (o : Obj) (b : Nat) (h : Res W b) : Res (W.alloc o) b := by
  obtain ⟨c, hc, hs⟩ := h
  have hlt : b < W.heap.size := by
    rcases Nat.lt_or_ge b W.heap.size with h | h
    · exact h
    · rw [Array.getElem?_eq_none h] at hc; cases hc
  exact ⟨c, (Below.heap_alloc W o b hlt).trans hc, hs⟩
theorem Res.drew (W : World) (b : Nat) (h : Res W b) : Res W.drew b := h
theorem Res.lt {W : World} {b : Nat} (h : Res W b) : b < W.heap.size := by
  obtain ⟨c, hc, hs⟩ := h
  rcases Nat.lt_or_ge b W.heap.size with h | h
  · exact h
  · rw [Array.getElem?_eq_none h] at hc; cases hc
theorem Res.below {W W' : World} (hb : Below W.heap.size W W') (b : Nat) (h : Res W b) : Res W' b := by
  have hlt := h.lt
  obtain ⟨c, hc, hs⟩ := h
  exact ⟨c, (hb.block b hlt).trans hc, hs⟩
theorem heap_setRow_at (W : World) (g : Nat) (cs c : Array Value) (t : TypeId) (fr : Nat × Nat) (h : W.heap[g]? = some (.cells c t fr)) : (W.setRow g cs).heap[g]? = some (.cells cs t fr) := by
  simp [World.setRow, Array.getElem?_modify, h]
theorem heap_setRow_far (W : World) (g k : Nat) (cs : Array Value) (h : k ≠ g) : (W.setRow g cs).heap[k]? = W.heap[k]? := by
  simp [World.setRow, Array.getElem?_modify, Ne.symm h]
theorem Res.setRow (W : World) (g : Nat) (x y z k : Int) (b : Nat) (h : Res W b) : Res (W.setRow g (eightA x y z k)) b := by
  obtain ⟨c, hc, hs⟩ := h
  by_cases e : b = g
  · subst e; exact ⟨_, heap_setRow_at W b _ c 34 (0, 0) hc, rfl⟩
  · exact ⟨c, (heap_setRow_far W g b _ e).trans hc, hs⟩
theorem Res.store (W : World) (b : Nat) (x y z k : Int) (h : Res W b) : (storeCells ⟨b, 0, none⟩ (eightA x y z k).toList).run Try.prog W = .ok () (W.setRow b (eightA x y z k)) := by
  obtain ⟨c, hc, hs⟩ := h
  have := run_storeCells_from (P := Try.prog) b 34 (eightA x y z k).toList 0 c W hc (by rw [hs]; rfl) (fun v hv => by
    simp [eightA] at hv
    rcases hv with rfl | rfl | rfl | rfl | rfl | rfl | rfl | rfl <;> rfl)
  rw [this]
  simp
theorem Res.two (W : World) (n : Nat) (h : n = W.heap.size ∨ n = W.heap.size + 1) : Res ((W.alloc (.cells #[.int .i64 0, .int .i64 0, .int .i64 0, .int .i64 0, .int .i64 0, .int .i64 0, .int .i64 0, .int .i64 0] 34)).alloc (.cells #[.int .i64 0, .int .i64 0, .int .i64 0, .int .i64 0, .int .i64 0, .int .i64 0, .int .i64 0, .int .i64 0] 34)) n := by
  rcases h with h | h
  · exact Res.alloc _ _ _ (Res.new _ _ h)
  · exact Res.new _ _ (by simpa using h)
theorem Res.twoRow (W : World) (g : Nat) (x y z k : Int) (n : Nat) (h : n = W.heap.size ∨ n = W.heap.size + 1) : Res (((W.alloc (.cells #[.int .i64 0, .int .i64 0, .int .i64 0, .int .i64 0, .int .i64 0, .int .i64 0, .int .i64 0, .int .i64 0] 34)).alloc (.cells #[.int .i64 0, .int .i64 0, .int .i64 0, .int .i64 0, .int .i64 0, .int .i64 0, .int .i64 0, .int .i64 0] 34)).setRow g (eightA x y z k)) n := Res.setRow _ _ _ _ _ _ _ (Res.two W n h)
theorem Res.newRow (W : World) (g : Nat) (x y z k : Int) (n : Nat) (h : n = W.heap.size) : Res ((W.alloc (.cells #[.int .i64 0, .int .i64 0, .int .i64 0, .int .i64 0, .int .i64 0, .int .i64 0, .int .i64 0, .int .i64 0] 34)).setRow g (eightA x y z k)) n := Res.setRow _ _ _ _ _ _ _ (Res.new W n h)
theorem Res.allocRow (W : World) (o : Obj) (g : Nat) (x y z k : Int) (n : Nat) (h : Res W n) : Res ((W.alloc o).setRow g (eightA x y z k)) n := Res.setRow _ _ _ _ _ _ _ (Res.alloc _ _ _ h)
theorem Res.row {W : World} {g : Nat} (h : Res W g) (x y z k : Int) : (W.setRow g (eightA x y z k)).heap[g]? = some (.cells (eightA x y z k) 34 (0, 0)) := by
  obtain ⟨c, hc, hs⟩ := h
  exact heap_setRow_at W g _ c 34 (0, 0) hc
theorem below_setRow {W : World} {M g : Nat} (hg : M < g) (cs : Array Value) : Below (M + 1) W (W.setRow g cs) :=
  ⟨rfl, rfl, rfl, by simp, fun k hk => heap_setRow_far W g k cs (by omega)⟩

theorem keepR {B M : Nat} {x y z k v0 v1 v2 : Int} {wr W : World} {W' : World} (hM : B + 1 + 1 < M) (hb : Below (M + 1) W W')
    (h : W.cell? ⟨B, 0, none⟩ = some (.int .i64 x) ∧ W.cell? ⟨B, 1, none⟩ = some (.int .i64 y) ∧ W.cell? ⟨B, 2, none⟩ = some (.int .i64 z) ∧ W.cell? ⟨B + 1 + 1, 0, none⟩ = some (.int .i64 k) ∧ W.cell? ⟨M, 0, none⟩ = some (.int .i64 v0) ∧ W.cell? ⟨M, 1, none⟩ = some (.int .i64 v1) ∧ W.cell? ⟨M, 2, none⟩ = some (.int .i64 v2) ∧ Below (M + 1) wr W ∧ M + 1 ≤ W.heap.size) :
    W'.cell? ⟨B, 0, none⟩ = some (.int .i64 x) ∧ W'.cell? ⟨B, 1, none⟩ = some (.int .i64 y) ∧ W'.cell? ⟨B, 2, none⟩ = some (.int .i64 z) ∧ W'.cell? ⟨B + 1 + 1, 0, none⟩ = some (.int .i64 k) ∧ W'.cell? ⟨M, 0, none⟩ = some (.int .i64 v0) ∧ W'.cell? ⟨M, 1, none⟩ = some (.int .i64 v1) ∧ W'.cell? ⟨M, 2, none⟩ = some (.int .i64 v2) ∧ Below (M + 1) wr W' ∧ M + 1 ≤ W'.heap.size := by
  obtain ⟨h0, h1, h2, h3, h4, h5, h6, h7, h8⟩ := h
  have hl : ∀ b o, b < M + 1 → W'.cell? ⟨b, o, none⟩ = W.cell? ⟨b, o, none⟩ := fun b o h => hb.cell (p := ⟨b, o, none⟩) h
  have hz := hb.size
  exact ⟨(hl _ _ (by omega)).trans h0, (hl _ _ (by omega)).trans h1, (hl _ _ (by omega)).trans h2, (hl _ _ (by omega)).trans h3, (hl _ _ (by omega)).trans h4, (hl _ _ (by omega)).trans h5, (hl _ _ (by omega)).trans h6, h7.trans hb, by omega⟩
theorem keepR_call {B M : Nat} {x y z k v0 v1 v2 : Int} {wr W : World} {W' : World} (hM : B + 1 + 1 < M) (hb : Below W.heap.size W W')
    (h : W.cell? ⟨B, 0, none⟩ = some (.int .i64 x) ∧ W.cell? ⟨B, 1, none⟩ = some (.int .i64 y) ∧ W.cell? ⟨B, 2, none⟩ = some (.int .i64 z) ∧ W.cell? ⟨B + 1 + 1, 0, none⟩ = some (.int .i64 k) ∧ W.cell? ⟨M, 0, none⟩ = some (.int .i64 v0) ∧ W.cell? ⟨M, 1, none⟩ = some (.int .i64 v1) ∧ W.cell? ⟨M, 2, none⟩ = some (.int .i64 v2) ∧ Below (M + 1) wr W ∧ M + 1 ≤ W.heap.size) :
    W'.cell? ⟨B, 0, none⟩ = some (.int .i64 x) ∧ W'.cell? ⟨B, 1, none⟩ = some (.int .i64 y) ∧ W'.cell? ⟨B, 2, none⟩ = some (.int .i64 z) ∧ W'.cell? ⟨B + 1 + 1, 0, none⟩ = some (.int .i64 k) ∧ W'.cell? ⟨M, 0, none⟩ = some (.int .i64 v0) ∧ W'.cell? ⟨M, 1, none⟩ = some (.int .i64 v1) ∧ W'.cell? ⟨M, 2, none⟩ = some (.int .i64 v2) ∧ Below (M + 1) wr W' ∧ M + 1 ≤ W'.heap.size := keepR hM (hb.mono h.2.2.2.2.2.2.2.2) h
theorem keepR_allocd {B M : Nat} {x y z k v0 v1 v2 : Int} {wr W : World} {ob : Obj} (hM : B + 1 + 1 < M)
    (h : W.drew.cell? ⟨B, 0, none⟩ = some (.int .i64 x) ∧ W.drew.cell? ⟨B, 1, none⟩ = some (.int .i64 y) ∧ W.drew.cell? ⟨B, 2, none⟩ = some (.int .i64 z) ∧ W.drew.cell? ⟨B + 1 + 1, 0, none⟩ = some (.int .i64 k) ∧ W.drew.cell? ⟨M, 0, none⟩ = some (.int .i64 v0) ∧ W.drew.cell? ⟨M, 1, none⟩ = some (.int .i64 v1) ∧ W.drew.cell? ⟨M, 2, none⟩ = some (.int .i64 v2) ∧ Below (M + 1) wr W.drew ∧ M + 1 ≤ W.drew.heap.size) :
    (W.alloc ob).drew.cell? ⟨B, 0, none⟩ = some (.int .i64 x) ∧ (W.alloc ob).drew.cell? ⟨B, 1, none⟩ = some (.int .i64 y) ∧ (W.alloc ob).drew.cell? ⟨B, 2, none⟩ = some (.int .i64 z) ∧ (W.alloc ob).drew.cell? ⟨B + 1 + 1, 0, none⟩ = some (.int .i64 k) ∧ (W.alloc ob).drew.cell? ⟨M, 0, none⟩ = some (.int .i64 v0) ∧ (W.alloc ob).drew.cell? ⟨M, 1, none⟩ = some (.int .i64 v1) ∧ (W.alloc ob).drew.cell? ⟨M, 2, none⟩ = some (.int .i64 v2) ∧ Below (M + 1) wr (W.alloc ob).drew ∧ M + 1 ≤ (W.alloc ob).drew.heap.size := keepR (W := W.drew) (W' := (W.alloc ob).drew) hM ((Below.refl _ W.drew).alloc h.2.2.2.2.2.2.2.2 ob) h
theorem keepR_alloc {B M : Nat} {x y z k v0 v1 v2 : Int} {wr W : World} {ob : Obj} (hM : B + 1 + 1 < M)
    (h : W.cell? ⟨B, 0, none⟩ = some (.int .i64 x) ∧ W.cell? ⟨B, 1, none⟩ = some (.int .i64 y) ∧ W.cell? ⟨B, 2, none⟩ = some (.int .i64 z) ∧ W.cell? ⟨B + 1 + 1, 0, none⟩ = some (.int .i64 k) ∧ W.cell? ⟨M, 0, none⟩ = some (.int .i64 v0) ∧ W.cell? ⟨M, 1, none⟩ = some (.int .i64 v1) ∧ W.cell? ⟨M, 2, none⟩ = some (.int .i64 v2) ∧ Below (M + 1) wr W ∧ M + 1 ≤ W.heap.size) :
    (W.alloc ob).cell? ⟨B, 0, none⟩ = some (.int .i64 x) ∧ (W.alloc ob).cell? ⟨B, 1, none⟩ = some (.int .i64 y) ∧ (W.alloc ob).cell? ⟨B, 2, none⟩ = some (.int .i64 z) ∧ (W.alloc ob).cell? ⟨B + 1 + 1, 0, none⟩ = some (.int .i64 k) ∧ (W.alloc ob).cell? ⟨M, 0, none⟩ = some (.int .i64 v0) ∧ (W.alloc ob).cell? ⟨M, 1, none⟩ = some (.int .i64 v1) ∧ (W.alloc ob).cell? ⟨M, 2, none⟩ = some (.int .i64 v2) ∧ Below (M + 1) wr (W.alloc ob) ∧ M + 1 ≤ (W.alloc ob).heap.size := keepR hM ((Below.refl _ W).alloc h.2.2.2.2.2.2.2.2 ob) h
theorem keepR_drew {B M : Nat} {x y z k v0 v1 v2 : Int} {wr W : World} (hM : B + 1 + 1 < M)
    (h : W.cell? ⟨B, 0, none⟩ = some (.int .i64 x) ∧ W.cell? ⟨B, 1, none⟩ = some (.int .i64 y) ∧ W.cell? ⟨B, 2, none⟩ = some (.int .i64 z) ∧ W.cell? ⟨B + 1 + 1, 0, none⟩ = some (.int .i64 k) ∧ W.cell? ⟨M, 0, none⟩ = some (.int .i64 v0) ∧ W.cell? ⟨M, 1, none⟩ = some (.int .i64 v1) ∧ W.cell? ⟨M, 2, none⟩ = some (.int .i64 v2) ∧ Below (M + 1) wr W ∧ M + 1 ≤ W.heap.size) :
    W.drew.cell? ⟨B, 0, none⟩ = some (.int .i64 x) ∧ W.drew.cell? ⟨B, 1, none⟩ = some (.int .i64 y) ∧ W.drew.cell? ⟨B, 2, none⟩ = some (.int .i64 z) ∧ W.drew.cell? ⟨B + 1 + 1, 0, none⟩ = some (.int .i64 k) ∧ W.drew.cell? ⟨M, 0, none⟩ = some (.int .i64 v0) ∧ W.drew.cell? ⟨M, 1, none⟩ = some (.int .i64 v1) ∧ W.drew.cell? ⟨M, 2, none⟩ = some (.int .i64 v2) ∧ Below (M + 1) wr W.drew ∧ M + 1 ≤ W.drew.heap.size := keepR (W := W) (W' := W.drew) hM (Below.refl _ W).drew h
theorem keepR_setRow {B M : Nat} {x y z k v0 v1 v2 : Int} {wr W : World} {g : Nat} {cs : Array Value} (hM : B + 1 + 1 < M) (hg : M < g)
    (h : W.cell? ⟨B, 0, none⟩ = some (.int .i64 x) ∧ W.cell? ⟨B, 1, none⟩ = some (.int .i64 y) ∧ W.cell? ⟨B, 2, none⟩ = some (.int .i64 z) ∧ W.cell? ⟨B + 1 + 1, 0, none⟩ = some (.int .i64 k) ∧ W.cell? ⟨M, 0, none⟩ = some (.int .i64 v0) ∧ W.cell? ⟨M, 1, none⟩ = some (.int .i64 v1) ∧ W.cell? ⟨M, 2, none⟩ = some (.int .i64 v2) ∧ Below (M + 1) wr W ∧ M + 1 ≤ W.heap.size) :
    (W.setRow g cs).cell? ⟨B, 0, none⟩ = some (.int .i64 x) ∧ (W.setRow g cs).cell? ⟨B, 1, none⟩ = some (.int .i64 y) ∧ (W.setRow g cs).cell? ⟨B, 2, none⟩ = some (.int .i64 z) ∧ (W.setRow g cs).cell? ⟨B + 1 + 1, 0, none⟩ = some (.int .i64 k) ∧ (W.setRow g cs).cell? ⟨M, 0, none⟩ = some (.int .i64 v0) ∧ (W.setRow g cs).cell? ⟨M, 1, none⟩ = some (.int .i64 v1) ∧ (W.setRow g cs).cell? ⟨M, 2, none⟩ = some (.int .i64 v2) ∧ Below (M + 1) wr (W.setRow g cs) ∧ M + 1 ≤ (W.setRow g cs).heap.size := keepR hM (below_setRow hg cs) h

set_option maxRecDepth 100000 in
set_option maxHeartbeats 20000000 in
theorem rises_any (x y z : Int) (a b c : Int) (k : Int) (w : World)
   (hx : -9223372036854775808 ≤ x) (ha : 0 ≤ a) (ha2 : a ≤ 4294967295) (hy : -9223372036854775808 ≤ y) (hb : 0 ≤ b) (hb2 : b ≤ 4294967295)(hz : -9223372036854775808 ≤ z) (hc : 0 ≤ c) (hc2 : c ≤ 4294967295) :
  Calls Try.prog 7 #[.agg #[.int .i64 x, .int .i64 y, .int .i64 z], .agg #[.int .u32 a, .int .u32 b, .int .u32 c], .int .i64 k] w (RetT w) := by
  have i0 : ∀ w, (Instr.index 31 (.agg #[.int .i64 x, .int .i64 y, .int .i64 z]) (.int .i64 0)).run Try.prog w = .ok (.int .i64 x) w := fun _ => by kernel_rfl
  have i1 : ∀ w, (Instr.index 31 (.agg #[.int .i64 x, .int .i64 y, .int .i64 z]) (.int .i64 1)).run Try.prog w = .ok (.int .i64 y) w := fun _ => by kernel_rfl
  have i2 : ∀ w, (Instr.index 31 (.agg #[.int .i64 x, .int .i64 y, .int .i64 z]) (.int .i64 2)).run Try.prog w = .ok (.int .i64 z) w := fun _ => by kernel_rfl
  go_enter Try.func7, Try.ntmps7
  go_wp2_with (go_at_call 8; (with_reducible refine (lives_any _).mono ?_); rintro e w1 ⟨rfl, hB⟩; obtain ⟨e0, e1, e2, e3, e4, e5, e6, l0, l1, l2, HB⟩ := three_cells hB; clear hB)
  have HK := Kept.start e0 e1 e2 e3 e4 e5 e6 l2 HB
  go_loopw [17] (fun i wr => ∃ (n : Nat) (v0 v1 v2 : Int), n ≤ 3 ∧ i = .int .i64 n ∧ Kept w wr w1.heap.size x y z a b c k v0 v1 v2 ∧ Hid ((1 ≤ n → v0 = moreZ x a) ∧ (2 ≤ n → v1 = moreZ y b) ∧ (3 ≤ n → v2 = moreZ z c))) (fun i _ => 3 - (intOf i).toNat)
  case atStart => exact ⟨0, 0, 0, 0, by omega, rfl, HK, Lib.hid ⟨by omega, by omega, by omega⟩⟩
  case round =>
    obtain ⟨n, v0, v1, v2, hn, rfl, HK, HV⟩ := hrel
    clear e0 e1 e2 e3 e4 e5 e6 l0 l1 l2 HB
    have HS := HK.set
    obtain ⟨e0, e1, e2, e3, e4, e5, e6, m0, m1, m2, hf, l2, lM, hB⟩ := HK
    have HB := Lib.hid hB
    clear hB
    have HS' := Lib.hid HS
    clear HS
    by_cases hn0 : n = 0
    · subst hn0
      by_cases ht : x < 1152921504606846976
      · go_wp2
        go_roundw
        case rel => exact ⟨1, _, _, _, by omega, rfl, ((HS'.out _).1.set _).1, Lib.hid ⟨fun _ => by unfold moreZ; rw [if_pos ht], by omega, by omega⟩⟩
        case measure => simp [intOf]
      · go_wp2
        go_roundw
        case rel => exact ⟨1, _, _, _, by omega, rfl, (HS'.out _).1, Lib.hid ⟨fun _ => by unfold moreZ; rw [if_neg ht], by omega, by omega⟩⟩
        case measure => simp [intOf]
    · by_cases hn1 : n = 1
      · subst hn1
        by_cases ht : y < 1152921504606846976
        · go_wp2
          go_roundw
          case rel => exact ⟨2, _, _, _, by omega, rfl, ((HS'.out _).2.1.set _).2.1, Lib.hid ⟨fun _ => HV.out.1 (by omega), fun _ => by unfold moreZ; rw [if_pos ht], by omega⟩⟩
          case measure => simp [intOf]
        · go_wp2
          go_roundw
          case rel => exact ⟨2, _, _, _, by omega, rfl, (HS'.out _).2.1, Lib.hid ⟨fun _ => HV.out.1 (by omega), fun _ => by unfold moreZ; rw [if_neg ht], by omega⟩⟩
          case measure => simp [intOf]
      · by_cases hn2 : n = 2
        · subst hn2
          by_cases ht : z < 1152921504606846976
          · go_wp2
            go_roundw
            case rel => exact ⟨3, _, _, _, by omega, rfl, ((HS'.out _).2.2.set _).2.2, Lib.hid ⟨fun _ => HV.out.1 (by omega), fun _ => HV.out.2.1 (by omega), fun _ => by unfold moreZ; rw [if_pos ht]⟩⟩
            case measure => simp [intOf]
          · go_wp2
            go_roundw
            case rel => exact ⟨3, _, _, _, by omega, rfl, (HS'.out _).2.2, Lib.hid ⟨fun _ => HV.out.1 (by omega), fun _ => HV.out.2.1 (by omega), fun _ => by unfold moreZ; rw [if_neg ht]⟩⟩
            case measure => simp [intOf]
        · obtain rfl : n = 3 := by omega
          obtain rfl : v0 = moreZ x a := HV.out.1 (by omega)
          obtain rfl : v1 = moreZ y b := HV.out.2.1 (by omega)
          obtain rfl : v2 = moreZ z c := HV.out.2.2 (by omega)
          clear HV HS' HK i0 i1 i2 hn hn0 hn1 hn2
          go_upto_region 12 with (fail)
          go_cut [11, 12] (fun s11 s12 wx => ∃ g h : Nat, s11 = .pointer (some ⟨g, 0, none⟩) ∧ s12 = .pointer (some ⟨h, 0, none⟩) ∧ wx.heap[g]? = some (.cells (eightA x y z k) 34 (0, 0)) ∧ wx.heap[h]? = some (.cells (eightA (moreZ x a) (moreZ y b) (moreZ z c) k) 34 (0, 0)) ∧ Below w.heap.size w wx)
          case first =>
            have hS0 := Lib.hid (And.intro e0 (And.intro e1 (And.intro e2 (And.intro e6 (And.intro m0 (And.intro m1 (And.intro m2 (And.intro (Below.refl (w1.heap.size + 1) wr) (show w1.heap.size + 1 ≤ wr.heap.size from lM)))))))))
            have r1 := Res.new
            have r2 := Res.alloc
            have r3 := Res.two
            have r6 := Res.twoRow
            have r7 := Res.newRow
            have r8 := Res.allocRow
            have r4 := Res.setRow
            have r5 := Res.store
            clear e0 e1 e2 e3 e4 e5 e6 m0 m1 m2 hf
            go_region_held3 (fun wx => wx.cell? ⟨w.heap.size, 0, none⟩ = some (.int .i64 x) ∧ wx.cell? ⟨w.heap.size, 1, none⟩ = some (.int .i64 y) ∧ wx.cell? ⟨w.heap.size, 2, none⟩ = some (.int .i64 z) ∧ wx.cell? ⟨w.heap.size + 1 + 1, 0, none⟩ = some (.int .i64 k) ∧ wx.cell? ⟨w1.heap.size, 0, none⟩ = some (.int .i64 (moreZ x a)) ∧ wx.cell? ⟨w1.heap.size, 1, none⟩ = some (.int .i64 (moreZ y b)) ∧ wx.cell? ⟨w1.heap.size, 2, none⟩ = some (.int .i64 (moreZ z c)) ∧ Below (w1.heap.size + 1) wr wx ∧ w1.heap.size + 1 ≤ wx.heap.size)
              (first
                | (with_reducible exact keepR_drew l2 hS0.out)
                | (with_reducible exact keepR_allocd l2 (by assumption))
                | (with_reducible exact keepR_alloc l2 (by assumption))
                | (with_reducible exact keepR_call l2 hC (by assumption))
                | (with_reducible refine keepR_setRow l2 ?_ (by assumption); omega))
              (first
                | (go_at_call 31; (with_reducible refine (all_any _ _ _ k _ _ ?_ ?_).mono ?_); (go_split_ands; assumption); (go_split_ands; omega); rintro e wc ⟨rfl, hC⟩; have hRs := Res.below hC; (try with_reducible have hr1 := hRs _ hq1); (try with_reducible have hs1 := hRs _ (Res.alloc _ _ _ hq1)); (try with_reducible have hr2 := hRs _ hq2); (try with_reducible have hs2 := hRs _ (Res.alloc _ _ _ hq2)); (try with_reducible have hr3 := hRs _ hq3); (try with_reducible have hs3 := hRs _ (Res.alloc _ _ _ hq3)); (try with_reducible have hr4 := hRs _ hq4); (try with_reducible have hs4 := hRs _ (Res.alloc _ _ _ hq4)); (try with_reducible have hq1 := hRs _ (Res.drew _ _ (Res.alloc _ _ _ (Res.new _ _ (by with_reducible rfl))))); (try simp only [World.size_alloc, World.size_drew] at hq1); (try with_reducible have hq2 := hRs _ (Res.drew _ _ (Res.new _ _ (by with_reducible rfl)))); (try simp only [World.size_alloc, World.size_drew] at hq2); (try with_reducible have hq3 := hRs _ (Res.alloc _ _ _ (Res.new _ _ (by with_reducible rfl)))); (try simp only [World.size_alloc, World.size_drew] at hq3); (try with_reducible have hq4 := hRs _ (Res.new _ _ (by with_reducible rfl))); (try simp only [World.size_alloc, World.size_drew] at hq4); clear hRs; have hSz := hC.size; (try simp only [World.size_alloc, World.size_drew] at hSz)))
            all_goals
              go_wp2_with fail
              go_meet
              refine ⟨_, _, rfl, rfl, (heap_setRow_far _ _ _ _ ?_).trans (Res.row ?_ _ _ _ _), Res.row (Res.setRow _ _ _ _ _ _ _ ?_) _ _ _ _, HB.out.trans (Below.mono (B := w1.heap.size + 1) ?_ (by omega))⟩
              · first | omega | (simp; done) | (simp; omega)
              · first | (with_reducible assumption) | exact Res.new _ _ rfl | exact Res.alloc _ _ _ (Res.new _ _ rfl) | exact Res.new _ _ (by simp) | exact Res.alloc _ _ _ (by assumption) | (simp [Res.two, Res.new, Res.alloc, *]; done)
              · first | (with_reducible assumption) | exact Res.new _ _ rfl | exact Res.alloc _ _ _ (Res.new _ _ rfl) | exact Res.new _ _ (by simp) | exact Res.alloc _ _ _ (by assumption) | (simp [Res.two, Res.new, Res.alloc, *]; done)
              · first | (go_split_ands; assumption)
          case rest =>
            obtain ⟨g, h, rfl, rfl, hg, hh, HF⟩ := hcut
            have HE := Lib.hid (eight_pair x y z (moreZ x a) (moreZ y b) (moreZ z c) k (moreZ_le x a ha) (moreZ_le y b hb) (moreZ_le z c hc))
            have HG := Lib.hid hg
            have HH := Lib.hid hh
            have HB' := Lib.hid HF
            clear hg hh HF e0 e1 e2 e3 e4 e5 e6 m0 m1 m2 hf
            go_wp2
            go_loopw [42] (fun i wx => ∃ (n q : Nat), n ≤ 8 ∧ i = .int .i64 n ∧ wx = wc.drewN q) (fun i _ => 8 - (intOf i).toNat)
            case atStart => exact ⟨0, 0, by omega, rfl, rfl⟩
            case round =>
              obtain ⟨n, q, hn, rfl, rfl⟩ := hrel
              by_cases hlt : n < 8
              · obtain ⟨u, v, hu, hv, h0, h1, h2⟩ := HE.out n hlt
                have hcu : wc.cell? ⟨g, n, none⟩ = some (.int .i64 u) := by rw [cell_of_row _ _ _ _ _ _ HG.out]; exact hu
                have hcv : wc.cell? ⟨h, n, none⟩ = some (.int .i64 v) := by rw [cell_of_row _ _ _ _ _ _ HH.out]; exact hv
                clear hu hv
                have hd0 : decide (u < 0) = false := by simpa using h0
                have hd1 : decide (4503599627370496 < v) = false := by simpa using h1
                have hd2 : decide (v < u) = false := by simpa using h2
                have hn8 : (n : Int) < 8 := by omega
                go_wp2_with fail
                go_quiet (fail)
                go_wp2
                go_roundw
                case rel => exact ⟨n + 1, _, by omega, by go_num, rfl⟩
                case measure => simp [intOf]; omega
              · go_wp2
                go_ret
                exact ⟨rfl, ⟨HB'.out.os, HB'.out.tape, HB'.out.output, HB'.out.size, HB'.out.block⟩⟩
end Go.Proofs.Ytmbhkfjcjklemaa
