/- The walks of what the statement's own 'lives' calls: a sum of whole numbers, an order of texts, a truth. -/
import Derived.Test.YtoafiombpokpaaaGreatDoorWri
import Derived.Deep.RegionLaw
import Derived.Deep.Cut
import Derived.Deep.CutBlock
namespace Go.Proofs.YtoafiombpokpaaaGreatDoor
open Go.RowKit

theorem heap_setAt {W : World} {b j : Nat} {cs : Array Value} {T : TypeId} (h : W.heap[b]? = some (.cells cs T (0, 0))) (v : Value) : (W.setCell ⟨b, j, none⟩ v).heap[b]? = some (.cells (cs.setIfInBounds j v) T (0, 0)) := by
  rw [setCell_eq_setRow W b j cs T (0, 0) _ h, setRow_heap W b _ _ T _ h]
/-- four cells, stored one behind the other -/
@[reducible] def set4 (W : World) (b : Nat) (u0 u1 u2 u3 : Value) : World := (((W.setCell ⟨b, 0, none⟩ u0).setCell ⟨b, 1, none⟩ u1).setCell ⟨b, 2, none⟩ u2).setCell ⟨b, 3, none⟩ u3
def Row4 (W : World) (b : Nat) (u0 u1 u2 u3 : Value) : Prop := W.heap[b]? = some (.cells #[u0, u1, u2, u3] 24 (0, 0))

section
variable {W w2 : World} {b : Nat} {u0 u1 u2 u3 v0 v1 v2 v3 : Value}
theorem Row4.set (h : Row4 W b u0 u1 u2 u3) (v0 v1 v2 v3 : Value) : Row4 (set4 W b v0 v1 v2 v3) b v0 v1 v2 v3 := by
  have h0 := heap_setAt (j := 0) h v0
  have h1 := heap_setAt (j := 1) h0 v1
  have h2 := heap_setAt (j := 2) h1 v2
  have h3 := heap_setAt (j := 3) h2 v3
  simpa [Row4] using h3
theorem Row4.far {k : Nat} (h : Row4 W k u0 u1 u2 u3) (hk : k ≠ b) (v0 v1 v2 v3 : Value) : Row4 (set4 W b v0 v1 v2 v3) k u0 u1 u2 u3 := by
  unfold Row4 set4
  rw [heap_setFar _ hk, heap_setFar _ hk, heap_setFar _ hk, heap_setFar _ hk]
  exact h
theorem Row4.lt (h : Row4 W b u0 u1 u2 u3) : b < W.heap.size := by
  rcases Nat.lt_or_ge b W.heap.size with g | g
  · exact g
  · unfold Row4 at h; rw [Array.getElem?_eq_none g] at h; cases h
theorem Row4.keep {B : Nat} (h : Row4 W b u0 u1 u2 u3) (hB : Below B W w2) (hb : b < B) : Row4 w2 b u0 u1 u2 u3 := (hB.block b hb).trans h
theorem Row4.call (h : Row4 W b u0 u1 u2 u3) (hB : Below W.heap.size W w2) : Row4 w2 b u0 u1 u2 u3 := h.keep hB h.lt
/-- what the walk asks of a row -/
theorem Row4.cells (h : Row4 W b u0 u1 u2 u3) : (W.cell? ⟨b, 0, none⟩ = some u0 ∧ W.cell? ⟨b, 1, none⟩ = some u1 ∧ W.cell? ⟨b, 2, none⟩ = some u2 ∧ W.cell? ⟨b, 3, none⟩ = some u3) ∧ (W.frozen? ⟨b, 0, none⟩ = false ∧ W.frozen? ⟨b, 1, none⟩ = false ∧ W.frozen? ⟨b, 2, none⟩ = false ∧ W.frozen? ⟨b, 3, none⟩ = false) :=
  ⟨⟨cell_of_row W b 0 _ _ _ h, cell_of_row W b 1 _ _ _ h, cell_of_row W b 2 _ _ _ h, cell_of_row W b 3 _ _ _ h⟩, ⟨frozen_of_row W b 0 _ _ h, frozen_of_row W b 1 _ _ h, frozen_of_row W b 2 _ _ h, frozen_of_row W b 3 _ _ h⟩⟩
theorem size_set4 (W : World) (b : Nat) (u0 u1 u2 u3 : Value) : (set4 W b u0 u1 u2 u3).heap.size = W.heap.size := by simp [set4]
theorem Row4.new (W : World) (u0 u1 u2 u3 : Value) : Row4 (W.alloc (.cells #[u0, u1, u2, u3] 24)) W.heap.size u0 u1 u2 u3 := heap_alloc_new W _
theorem Row4.alloc (h : Row4 W b u0 u1 u2 u3) (o : Obj) : Row4 (W.alloc o) b u0 u1 u2 u3 := (Below.heap_alloc _ _ _ h.lt).trans h
end

/-- two rows behind a world, and nothing else turned -/
def Two (w W : World) (a0 a1 a2 a3 b0 b1 b2 b3 : Value) : Prop := Row4 W w.heap.size a0 a1 a2 a3 ∧ Row4 W (w.heap.size + 1) b0 b1 b2 b3 ∧ Below w.heap.size w W
section
variable {w W w2 : World} {a0 a1 a2 a3 b0 b1 b2 b3 : Value}
theorem Two.start (w : World) (a0 a1 a2 a3 b0 b1 b2 b3 : Value) : Two w ((w.alloc (.cells #[a0, a1, a2, a3] 24)).alloc (.cells #[b0, b1, b2, b3] 24)) a0 a1 a2 a3 b0 b1 b2 b3 := by
  refine ⟨(Row4.new w a0 a1 a2 a3).alloc _, ?_, by go_grown⟩
  have := Row4.new (w.alloc (.cells #[a0, a1, a2, a3] 24)) b0 b1 b2 b3
  rwa [World.size_alloc] at this
theorem Two.call (h : Two w W a0 a1 a2 a3 b0 b1 b2 b3) (hB : Below W.heap.size W w2) : Two w w2 a0 a1 a2 a3 b0 b1 b2 b3 := ⟨h.1.call hB, h.2.1.call hB, h.2.2.trans (hB.mono h.2.2.size)⟩
theorem Two.setA (h : Two w W a0 a1 a2 a3 b0 b1 b2 b3) (u0 u1 u2 u3 : Value) : Two w (set4 W w.heap.size u0 u1 u2 u3) u0 u1 u2 u3 b0 b1 b2 b3 :=
  ⟨h.1.set _ _ _ _, h.2.1.far (by omega) _ _ _ _, (((h.2.2.setCell (p := ⟨w.heap.size, 0, none⟩) (Nat.le_refl _) _).setCell (p := ⟨w.heap.size, 1, none⟩) (Nat.le_refl _) _).setCell (p := ⟨w.heap.size, 2, none⟩) (Nat.le_refl _) _).setCell (p := ⟨w.heap.size, 3, none⟩) (Nat.le_refl _) _⟩
theorem Two.setB (h : Two w W a0 a1 a2 a3 b0 b1 b2 b3) (u0 u1 u2 u3 : Value) : Two w (set4 W (w.heap.size + 1) u0 u1 u2 u3) a0 a1 a2 a3 u0 u1 u2 u3 :=
  ⟨h.1.far (by omega) _ _ _ _, h.2.1.set _ _ _ _, (((h.2.2.setCell (p := ⟨w.heap.size + 1, 0, none⟩) (Nat.le_succ _) _).setCell (p := ⟨w.heap.size + 1, 1, none⟩) (Nat.le_succ _) _).setCell (p := ⟨w.heap.size + 1, 2, none⟩) (Nat.le_succ _) _).setCell (p := ⟨w.heap.size + 1, 3, none⟩) (Nat.le_succ _) _⟩
theorem Two.drew (h : Two w W a0 a1 a2 a3 b0 b1 b2 b3) : Two w W.drew a0 a1 a2 a3 b0 b1 b2 b3 := h.call (Below.refl _ _).drew
end
@[reducible] def zero4 (W : World) (b : Nat) : Prop := Row4 W b (.int .i64 0) (.int .i64 0) (.float .f64 0) (.string ⟨#[]⟩)
/-- two rows and a result's row behind a world, and nothing else turned -/
def Three (w W : World) (a0 a1 a2 a3 b0 b1 b2 b3 : Value) : Prop := Two w W a0 a1 a2 a3 b0 b1 b2 b3 ∧ zero4 W (w.heap.size + 1 + 1)
section
variable {w W w2 : World} {a0 a1 a2 a3 b0 b1 b2 b3 : Value}
theorem Three.start (w : World) (a0 a1 a2 a3 b0 b1 b2 b3 : Value) : Three w (((w.alloc (.cells #[a0, a1, a2, a3] 24)).alloc (.cells #[b0, b1, b2, b3] 24)).alloc (.cells #[.int .i64 0, .int .i64 0, .float .f64 0, .string ⟨#[]⟩] 24)) a0 a1 a2 a3 b0 b1 b2 b3 := by
  refine ⟨(Two.start w a0 a1 a2 a3 b0 b1 b2 b3).call ((Below.refl _ _).alloc (Nat.le_refl _) _), ?_⟩
  have := Row4.new ((w.alloc (.cells #[a0, a1, a2, a3] 24)).alloc (.cells #[b0, b1, b2, b3] 24)) (.int .i64 0) (.int .i64 0) (.float .f64 0) (.string ⟨#[]⟩)
  rwa [World.size_alloc, World.size_alloc] at this
theorem Three.call (h : Three w W a0 a1 a2 a3 b0 b1 b2 b3) (hB : Below W.heap.size W w2) : Three w w2 a0 a1 a2 a3 b0 b1 b2 b3 := ⟨h.1.call hB, h.2.call hB⟩
theorem Three.setA (h : Three w W a0 a1 a2 a3 b0 b1 b2 b3) (u0 u1 u2 u3 : Value) : Three w (set4 W w.heap.size u0 u1 u2 u3) u0 u1 u2 u3 b0 b1 b2 b3 := ⟨h.1.setA _ _ _ _, h.2.far (by omega) _ _ _ _⟩
theorem Three.setB (h : Three w W a0 a1 a2 a3 b0 b1 b2 b3) (u0 u1 u2 u3 : Value) : Three w (set4 W (w.heap.size + 1) u0 u1 u2 u3) a0 a1 a2 a3 u0 u1 u2 u3 := ⟨h.1.setB _ _ _ _, h.2.far (by omega) _ _ _ _⟩
theorem Three.drew (h : Three w W a0 a1 a2 a3 b0 b1 b2 b3) : Three w W.drew a0 a1 a2 a3 b0 b1 b2 b3 := h.call (Below.refl _ _).drew
/-- the cells of the two, in turn -/
theorem Three.cells1 (h : Three w W a0 a1 a2 a3 b0 b1 b2 b3) : (W.cell? ⟨w.heap.size, 0, none⟩ = some a0 ∧ W.cell? ⟨w.heap.size, 1, none⟩ = some a1 ∧ W.cell? ⟨w.heap.size, 2, none⟩ = some a2 ∧ W.cell? ⟨w.heap.size, 3, none⟩ = some a3) ∧ (W.frozen? ⟨w.heap.size, 0, none⟩ = false ∧ W.frozen? ⟨w.heap.size, 1, none⟩ = false ∧ W.frozen? ⟨w.heap.size, 2, none⟩ = false ∧ W.frozen? ⟨w.heap.size, 3, none⟩ = false) := h.1.1.cells
theorem Three.cells2 (h : Three w W a0 a1 a2 a3 b0 b1 b2 b3) : (W.cell? ⟨w.heap.size + 1, 0, none⟩ = some b0 ∧ W.cell? ⟨w.heap.size + 1, 1, none⟩ = some b1 ∧ W.cell? ⟨w.heap.size + 1, 2, none⟩ = some b2 ∧ W.cell? ⟨w.heap.size + 1, 3, none⟩ = some b3) ∧ (W.frozen? ⟨w.heap.size + 1, 0, none⟩ = false ∧ W.frozen? ⟨w.heap.size + 1, 1, none⟩ = false ∧ W.frozen? ⟨w.heap.size + 1, 2, none⟩ = false ∧ W.frozen? ⟨w.heap.size + 1, 3, none⟩ = false) := h.1.2.1.cells
theorem Three.below (h : Three w W a0 a1 a2 a3 b0 b1 b2 b3) : Below w.heap.size w W := h.1.2.2
end
/-- a result's four cells are stored: what was there stays -/
theorem below_res {w W : World} (h : Below w.heap.size w W) (u0 u1 u2 u3 : Value) : Below w.heap.size w (set4 W (w.heap.size + 1 + 1) u0 u1 u2 u3) :=
  (((h.setCell (p := ⟨w.heap.size + 1 + 1, 0, none⟩) (Nat.le_add_right _ 2) _).setCell (p := ⟨w.heap.size + 1 + 1, 1, none⟩) (Nat.le_add_right _ 2) _).setCell (p := ⟨w.heap.size + 1 + 1, 2, none⟩) (Nat.le_add_right _ 2) _).setCell (p := ⟨w.heap.size + 1 + 1, 3, none⟩) (Nat.le_add_right _ 2) _


set_option maxRecDepth 100000 in
set_option maxHeartbeats 8000000 in
theorem order_t (s s2 : ByteArray) (c : Int) (hc : Lib.compareBytes s.data.toList s2.data.toList = c) (w : World) : Calls Tryz.prog 23 #[vV 3 0 0 s, vV 3 0 0 s2] w (RetV (.int .i64 c) w) := by
  have stf := store_float
  have TT := Two.start w (.int .i64 3) (.int .i64 0) (.float .f64 0) (.string s) (.int .i64 3) (.int .i64 0) (.float .f64 0) (.string s2)
  have HC1 := Lib.hid (show ∀ W, Calls Tryz.prog 13 #[vV 3 0 0 s] W (RetV (vV 3 0 0 s) W) from fun W => clean_any 3 0 0 s W)
  have HC2 := Lib.hid (show ∀ W, Calls Tryz.prog 13 #[vV 3 0 0 s2] W (RetV (vV 3 0 0 s2) W) from fun W => clean_any 3 0 0 s2 W)
  have HS := Lib.hid (show ∀ W, Calls Tryz.prog 34 #[.string s, .string s2] W fun e w' => e = .returned (.int .i64 c) ∧ w' = W from fun W => by rw [← hc]; exact Tryz.strings_Compare s s2 W)
  clear hc
  go_enter Tryz.func23, Tryz.ntmps23
  go_upto_region 1 with (fail)

  go_cut [] (fun wc => Two w wc (.int .i64 3) (.int .i64 0) (.float .f64 0) (.string s) (.int .i64 3) (.int .i64 0) (.float .f64 0) (.string s2))
  case first =>
    have T0 := TT.drew
    obtain ⟨⟨a0, a1, a2, a3⟩, ⟨e0, e1, e2, e3⟩⟩ := T0.1.cells
    obtain ⟨⟨b0, b1, b2, b3⟩, ⟨g0, g1, g2, g3⟩⟩ := T0.2.1.cells
    clear TT
    go_region_law (first
      | (go_simp; go_at_call 13; (with_reducible refine (HC1.out _).mono ?_); rintro e w2 ⟨rfl, hB⟩; (first | (with_reducible have T0 := Two.call T0 hB) | (with_reducible have T0 := Two.call (Two.setA T0 _ _ _ _) hB) | (with_reducible have T0 := Two.call (Two.setB T0 _ _ _ _) hB)); obtain ⟨⟨a0, a1, a2, a3⟩, ⟨e0, e1, e2, e3⟩⟩ := T0.1.cells; obtain ⟨⟨b0, b1, b2, b3⟩, ⟨g0, g1, g2, g3⟩⟩ := T0.2.1.cells; clear hB)
      | (go_simp; go_at_call 13; (with_reducible refine (HC2.out _).mono ?_); rintro e w2 ⟨rfl, hB⟩; (first | (with_reducible have T0 := Two.call T0 hB) | (with_reducible have T0 := Two.call (Two.setA T0 _ _ _ _) hB) | (with_reducible have T0 := Two.call (Two.setB T0 _ _ _ _) hB)); obtain ⟨⟨a0, a1, a2, a3⟩, ⟨e0, e1, e2, e3⟩⟩ := T0.1.cells; obtain ⟨⟨b0, b1, b2, b3⟩, ⟨g0, g1, g2, g3⟩⟩ := T0.2.1.cells; clear hB)
      | fail)
    all_goals
      go_wp2_with fail
      go_meet
      first
        | (with_reducible exact Two.setB (Two.setA T0 _ _ _ _) _ _ _ _)
        | (with_reducible exact Two.setA (Two.setB T0 _ _ _ _) _ _ _ _)
        | (with_reducible exact Two.setA T0 _ _ _ _)
        | (with_reducible exact Two.setB T0 _ _ _ _)
        | fail

  case rest =>
  clear TT
  obtain ⟨w3, rfl⟩ : ∃ w3 : World, w3 = wc := ⟨_, rfl⟩
  obtain ⟨⟨⟨a0, a1, a2, a3⟩, -⟩, ⟨⟨b0, b1, b2, b3⟩, -⟩⟩ := And.intro hcut.1.cells hcut.2.1.cells
  have HB := Lib.hid hcut.2.2
  clear hcut
  go_wp2_with (first
    | (go_at_call 34; (with_reducible refine (HS.out _).mono ?_); rintro e w2 ⟨rfl, rfl⟩)
    | fail)
  go_ret
  exact ⟨rfl, HB.out⟩
set_option maxRecDepth 100000 in
set_option maxHeartbeats 8000000 in
theorem less_t (s s2 : ByteArray) (hc : Lib.compareBytes s.data.toList s2.data.toList = -1) (w : World) : Calls Tryz.prog 11 #[.string ⟨#[60]⟩, vV 3 0 0 s, vV 3 0 0 s2] w (RetV (boolV true) w) := by
  have stf := store_float
  have TT := Three.start w (.int .i64 3) (.int .i64 0) (.float .f64 0) (.string s) (.int .i64 3) (.int .i64 0) (.float .f64 0) (.string s2)
  have HC1 := Lib.hid (show ∀ W, Calls Tryz.prog 13 #[vV 3 0 0 s] W (RetV (vV 3 0 0 s) W) from fun W => clean_any 3 0 0 s W)
  have HC2 := Lib.hid (show ∀ W, Calls Tryz.prog 13 #[vV 3 0 0 s2] W (RetV (vV 3 0 0 s2) W) from fun W => clean_any 3 0 0 s2 W)
  have HO := Lib.hid (fun W => order_t s s2 (-1) hc W)
  have HOB := Lib.hid (fun W => ofbool_any true W)
  clear hc
  go_enter Tryz.func11, Tryz.ntmps11
  go_upto_region 1 with (fail)

  go_cut [] (fun wc => Three w wc (.int .i64 3) (.int .i64 0) (.float .f64 0) (.string s) (.int .i64 3) (.int .i64 0) (.float .f64 0) (.string s2))
  case first =>
    have T0 := TT.drew
    obtain ⟨⟨a0, a1, a2, a3⟩, ⟨e0, e1, e2, e3⟩⟩ := T0.cells1
    obtain ⟨⟨b0, b1, b2, b3⟩, ⟨g0, g1, g2, g3⟩⟩ := T0.cells2
    clear TT
    go_region_law (first
      | (go_simp; go_at_call 13; (with_reducible refine (HC1.out _).mono ?_); rintro e w2 ⟨rfl, hB⟩; (first | (with_reducible have T0 := Three.call T0 hB) | (with_reducible have T0 := Three.call (Three.setA T0 _ _ _ _) hB) | (with_reducible have T0 := Three.call (Three.setB T0 _ _ _ _) hB)); obtain ⟨⟨a0, a1, a2, a3⟩, ⟨e0, e1, e2, e3⟩⟩ := T0.cells1; obtain ⟨⟨b0, b1, b2, b3⟩, ⟨g0, g1, g2, g3⟩⟩ := T0.cells2; clear hB)
      | (go_simp; go_at_call 13; (with_reducible refine (HC2.out _).mono ?_); rintro e w2 ⟨rfl, hB⟩; (first | (with_reducible have T0 := Three.call T0 hB) | (with_reducible have T0 := Three.call (Three.setA T0 _ _ _ _) hB) | (with_reducible have T0 := Three.call (Three.setB T0 _ _ _ _) hB)); obtain ⟨⟨a0, a1, a2, a3⟩, ⟨e0, e1, e2, e3⟩⟩ := T0.cells1; obtain ⟨⟨b0, b1, b2, b3⟩, ⟨g0, g1, g2, g3⟩⟩ := T0.cells2; clear hB)
      | fail)
    all_goals
      go_wp2_with fail
      go_meet
      first
        | (with_reducible exact Three.setB (Three.setA T0 _ _ _ _) _ _ _ _)
        | (with_reducible exact Three.setA (Three.setB T0 _ _ _ _) _ _ _ _)
        | (with_reducible exact Three.setA T0 _ _ _ _)
        | (with_reducible exact Three.setB T0 _ _ _ _)
        | fail

  case rest =>
  clear TT
  obtain ⟨w3, rfl⟩ : ∃ w3 : World, w3 = wc := ⟨_, rfl⟩
  obtain ⟨⟨a0, a1, a2, a3⟩, -⟩ := hcut.cells1
  obtain ⟨⟨b0, b1, b2, b3⟩, -⟩ := hcut.cells2
  obtain ⟨⟨d0, d1, d2, d3⟩, ⟨f0, f1, f2', f3⟩⟩ := hcut.2.cells
  have HT := Lib.hid hcut
  clear hcut
  go_wp2_with (first
    | (go_at_call 23; (with_reducible refine (HO.out _).mono ?_); rintro e w4 ⟨rfl, hB⟩; have T0 := Three.call HT.out hB; obtain ⟨⟨d0, d1, d2, d3⟩, ⟨f0, f1, f2', f3⟩⟩ := T0.2.cells; clear hB)
    | (go_at_call 24; (with_reducible refine (HOB.out _).mono ?_); rintro e w5 ⟨rfl, hB⟩; have T0 := Three.call T0 hB; obtain ⟨⟨d0, d1, d2, d3⟩, ⟨f0, f1, f2', f3⟩⟩ := T0.2.cells; clear hB)
    | fail)
  exact bodyPost_ret (v := boolV true) (by simp [results, Tryz.results11, go_sem, d0, d1, d2, d3]) rfl ⟨rfl, below_res T0.below _ _ _ _⟩
set_option maxRecDepth 100000 in
set_option maxHeartbeats 1000000 in
theorem whole_t (w : World) : Calls Tryz.prog 20 #[.string ⟨#[43]⟩, .int .i64 1, .int .i64 1] w fun e w' => e = .returned (.tuple #[.int .i64 2, .bool true]) ∧ w = w' := by
  go_enter Tryz.func20, Tryz.ntmps20
  go_wp2_with fail
  go_ret2
  exact ⟨rfl, rfl⟩
set_option maxRecDepth 100000 in
set_option maxHeartbeats 8000000 in
theorem plus_t (w : World) : Calls Tryz.prog 8 #[.string ⟨#[43]⟩, vV 1 1 0 ⟨#[]⟩, vV 1 1 0 ⟨#[]⟩] w (RetV (vV 1 2 0 ⟨#[]⟩) w) := by
  have stf := store_float
  have TT := Three.start w (.int .i64 1) (.int .i64 1) (.float .f64 0) (.string ⟨#[]⟩) (.int .i64 1) (.int .i64 1) (.float .f64 0) (.string ⟨#[]⟩)
  have HC1 := Lib.hid (show ∀ W, Calls Tryz.prog 13 #[vV 1 1 0 ⟨#[]⟩] W (RetV (vV 1 1 0 ⟨#[]⟩) W) from fun W => clean_any 1 1 0 ⟨#[]⟩ W)
  have HC2 := HC1
  have HW := Lib.hid (fun W => whole_t W)
  have HOI := Lib.hid (show ∀ W, Calls Tryz.prog 9 #[.int .i64 2] W (RetV (vV 1 2 0 ⟨#[]⟩) W) from fun W => ofint_any 2 W)
  go_enter Tryz.func8, Tryz.ntmps8
  go_upto_region 1 with (fail)

  go_cut [] (fun wc => Three w wc (.int .i64 1) (.int .i64 1) (.float .f64 0) (.string ⟨#[]⟩) (.int .i64 1) (.int .i64 1) (.float .f64 0) (.string ⟨#[]⟩))
  case first =>
    have T0 := TT.drew
    obtain ⟨⟨a0, a1, a2, a3⟩, ⟨e0, e1, e2, e3⟩⟩ := T0.cells1
    obtain ⟨⟨b0, b1, b2, b3⟩, ⟨g0, g1, g2, g3⟩⟩ := T0.cells2
    clear TT
    go_region_law (first
      | (go_simp; go_at_call 13; (with_reducible refine (HC1.out _).mono ?_); rintro e w2 ⟨rfl, hB⟩; (first | (with_reducible have T0 := Three.call T0 hB) | (with_reducible have T0 := Three.call (Three.setA T0 _ _ _ _) hB) | (with_reducible have T0 := Three.call (Three.setB T0 _ _ _ _) hB)); obtain ⟨⟨a0, a1, a2, a3⟩, ⟨e0, e1, e2, e3⟩⟩ := T0.cells1; obtain ⟨⟨b0, b1, b2, b3⟩, ⟨g0, g1, g2, g3⟩⟩ := T0.cells2; clear hB)
      | (go_simp; go_at_call 13; (with_reducible refine (HC2.out _).mono ?_); rintro e w2 ⟨rfl, hB⟩; (first | (with_reducible have T0 := Three.call T0 hB) | (with_reducible have T0 := Three.call (Three.setA T0 _ _ _ _) hB) | (with_reducible have T0 := Three.call (Three.setB T0 _ _ _ _) hB)); obtain ⟨⟨a0, a1, a2, a3⟩, ⟨e0, e1, e2, e3⟩⟩ := T0.cells1; obtain ⟨⟨b0, b1, b2, b3⟩, ⟨g0, g1, g2, g3⟩⟩ := T0.cells2; clear hB)
      | fail)
    all_goals
      go_wp2_with fail
      go_meet
      first
        | (with_reducible exact Three.setB (Three.setA T0 _ _ _ _) _ _ _ _)
        | (with_reducible exact Three.setA (Three.setB T0 _ _ _ _) _ _ _ _)
        | (with_reducible exact Three.setA T0 _ _ _ _)
        | (with_reducible exact Three.setB T0 _ _ _ _)
        | fail

  case rest =>
  clear TT
  obtain ⟨w3, rfl⟩ : ∃ w3 : World, w3 = wc := ⟨_, rfl⟩
  obtain ⟨⟨a0, a1, a2, a3⟩, -⟩ := hcut.cells1
  obtain ⟨⟨b0, b1, b2, b3⟩, -⟩ := hcut.cells2
  obtain ⟨⟨d0, d1, d2, d3⟩, ⟨f0, f1, f2', f3⟩⟩ := hcut.2.cells
  have HT := Lib.hid hcut
  clear hcut
  go_wp2_with (first
    | (go_at_call 20; (with_reducible refine (HW.out _).mono ?_); rintro e w4 ⟨rfl, rfl⟩)
    | (go_at_call 9; (with_reducible refine (HOI.out _).mono ?_); rintro e w4 ⟨rfl, hB⟩; have T0 := Three.call HT.out hB; obtain ⟨⟨d0, d1, d2, d3⟩, ⟨f0, f1, f2', f3⟩⟩ := T0.2.cells; clear hB)
    | fail)
  exact bodyPost_ret (v := vV 1 2 0 ⟨#[]⟩) (by simp [results, Tryz.results8, go_sem, d0, d1, d2, d3]) rfl ⟨rfl, below_res T0.below _ _ _ _⟩
theorem truth_t (w : World) : Calls Tryz.prog 22 #[boolV true] w (RetV (.int .i64 1) w) := by
  go_enter Tryz.func22, Tryz.ntmps22
  go_wp2
  go_ret
  exact ⟨rfl, by go_grown⟩
theorem true_t (w : World) : Calls Tryz.prog 10 #[boolV true] w (RetV (.bool true) w) := by
  have HT := Lib.hid truth_t
  go_enter Tryz.func10, Tryz.ntmps10
  go_wp2_with (first
    | (go_at_call 22; (with_reducible refine (HT.out _).mono ?_); rintro e w4 ⟨rfl, hB⟩)
    | fail)
  go_ret
  exact ⟨rfl, (below1 _ _).trans (hB.mono (below1 _ _).size)⟩
end Go.Proofs.YtoafiombpokpaaaGreatDoor
