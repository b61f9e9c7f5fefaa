/- The walk of the statement ValueLine. -/
import Derived.Test.YtjlpjooaclfnlaaGreatDoorRows4
namespace Go.Proofs.YtjlpjooaclfnlaaGreatDoor
open Go.RowKit

/-- three values, side by side -/
@[reducible] def row12 (k n : Int) (f : Nat) (s : ByteArray) (k2 n2 : Int) (f2 : Nat) (s2 : ByteArray) (k3 n3 : Int) (f3 : Nat) (s3 : ByteArray) : Array Value := #[.int .i64 k, .int .i64 n, .float .f64 f, .string s, .int .i64 k2, .int .i64 n2, .float .f64 f2, .string s2, .int .i64 k3, .int .i64 n3, .float .f64 f3, .string s3]
theorem vals3 {W : World} {g : Nat} {T : TypeId} {k n : Int} {f : Nat} {s : ByteArray} {k2 n2 : Int} {f2 : Nat} {s2 : ByteArray} {k3 n3 : Int} {f3 : Nat} {s3 : ByteArray} (q : W.heap[g]? = some (.cells (row12 k n f s k2 n2 f2 s2 k3 n3 f3 s3) T (0, 0))) : Vals W g 3 := by
  refine ⟨?_, fun j hj => ?_⟩
  · rcases Nat.lt_or_ge g W.heap.size with h | h
    · exact h
    · rw [Array.getElem?_eq_none h] at q; cases q
  have : j = 0 ∨ j = 1 ∨ j = 2 := by omega
  rcases this with rfl | rfl | rfl
  · exact ⟨k, n, f, s, cell_of_row _ _ 0 _ _ _ q, cell_of_row _ _ 1 _ _ _ q, cell_of_row _ _ 2 _ _ _ q, cell_of_row _ _ 3 _ _ _ q⟩
  · exact ⟨k2, n2, f2, s2, cell_of_row _ _ 4 _ _ _ q, cell_of_row _ _ 5 _ _ _ q, cell_of_row _ _ 6 _ _ _ q, cell_of_row _ _ 7 _ _ _ q⟩
  · exact ⟨k3, n3, f3, s3, cell_of_row _ _ 8 _ _ _ q, cell_of_row _ _ 9 _ _ _ q, cell_of_row _ _ 10 _ _ _ q, cell_of_row _ _ 11 _ _ _ q⟩
theorem row_lt {W : World} {g : Nat} {o : Obj} (q : W.heap[g]? = some o) : g < W.heap.size := by
  rcases Nat.lt_or_ge g W.heap.size with h | h
  · exact h
  · rw [Array.getElem?_eq_none h] at q; cases q
theorem row_call {W w2 : World} {g : Nat} {o : Obj} (q : W.heap[g]? = some o) (hB : Below W.heap.size W w2) : w2.heap[g]? = some o := (hB.block g (row_lt q)).trans q

/-- three values, side by side, as they stand; what lies from N on is new -/
@[reducible] def Held12 (w : World) (N : Nat) (wx : World) (k n : Int) (f : Nat) (s : ByteArray) (k2 n2 : Int) (f2 : Nat) (s2 : ByteArray) (k3 n3 : Int) (f3 : Nat) (s3 : ByteArray) : Prop :=
  wx.cell? ⟨w.heap.size, 0, none⟩ = some (.int .i64 k) ∧ wx.cell? ⟨w.heap.size, 1, none⟩ = some (.int .i64 n) ∧ wx.cell? ⟨w.heap.size, 2, none⟩ = some (.float .f64 f) ∧ wx.cell? ⟨w.heap.size, 3, none⟩ = some (.string s) ∧
  wx.cell? ⟨w.heap.size, 4, none⟩ = some (.int .i64 k2) ∧ wx.cell? ⟨w.heap.size, 5, none⟩ = some (.int .i64 n2) ∧ wx.cell? ⟨w.heap.size, 6, none⟩ = some (.float .f64 f2) ∧ wx.cell? ⟨w.heap.size, 7, none⟩ = some (.string s2) ∧
  wx.cell? ⟨w.heap.size, 8, none⟩ = some (.int .i64 k3) ∧ wx.cell? ⟨w.heap.size, 9, none⟩ = some (.int .i64 n3) ∧ wx.cell? ⟨w.heap.size, 10, none⟩ = some (.float .f64 f3) ∧ wx.cell? ⟨w.heap.size, 11, none⟩ = some (.string s3) ∧ w.heap.size < N ∧ N ≤ wx.heap.size
section
variable {w W w2 : World} {N : Nat} {k n : Int} {f : Nat} {s : ByteArray} {k2 n2 : Int} {f2 : Nat} {s2 : ByteArray} {k3 n3 : Int} {f3 : Nat} {s3 : ByteArray}
theorem Held12.keep (h : Held12 w N W k n f s k2 n2 f2 s2 k3 n3 f3 s3) (hB : Below N W w2) : Held12 w N w2 k n f s k2 n2 f2 s2 k3 n3 f3 s3 := by
  obtain ⟨a0, a1, a2, a3, a4, a5, a6, a7, a8, a9, a10, a11, l, hb⟩ := h
  have ha : ∀ o, w2.cell? ⟨w.heap.size, o, none⟩ = W.cell? ⟨w.heap.size, o, none⟩ := fun o => hB.cell (p := ⟨w.heap.size, o, none⟩) l
  have hz := hB.size
  exact ⟨(ha _).trans a0, (ha _).trans a1, (ha _).trans a2, (ha _).trans a3, (ha _).trans a4, (ha _).trans a5, (ha _).trans a6, (ha _).trans a7, (ha _).trans a8, (ha _).trans a9, (ha _).trans a10, (ha _).trans a11, l, by omega⟩
theorem Held12.alloc (h : Held12 w N W k n f s k2 n2 f2 s2 k3 n3 f3 s3) (o : Obj) : Held12 w N (W.alloc o) k n f s k2 n2 f2 s2 k3 n3 f3 s3 :=
  h.keep ((Below.refl N W).alloc h.2.2.2.2.2.2.2.2.2.2.2.2.2 o)
theorem Held12.allocd (h : Held12 w N W.drew k n f s k2 n2 f2 s2 k3 n3 f3 s3) (o : Obj) : Held12 w N (W.alloc o).drew k n f s k2 n2 f2 s2 k3 n3 f3 s3 :=
  Held12.alloc (W := W) h o
theorem Held12.set4 (h : Held12 w N W k n f s k2 n2 f2 s2 k3 n3 f3 s3) {b : Nat} (hb : N ≤ b) (u0 u1 u2 u3 : Value) : Held12 w N (set4 W b u0 u1 u2 u3) k n f s k2 n2 f2 s2 k3 n3 f3 s3 :=
  h.keep (((((Below.refl N W).setCell (p := ⟨b, 0, none⟩) hb _).setCell (p := ⟨b, 1, none⟩) hb _).setCell (p := ⟨b, 2, none⟩) hb _).setCell (p := ⟨b, 3, none⟩) hb _)
theorem Held12.new (q : W.heap[w.heap.size]? = some (.cells (row12 k n f s k2 n2 f2 s2 k3 n3 f3 s3) 25 (0, 0))) : Held12 w W.heap.size W k n f s k2 n2 f2 s2 k3 n3 f3 s3 :=
  ⟨cell_of_row _ _ 0 _ _ _ q, cell_of_row _ _ 1 _ _ _ q, cell_of_row _ _ 2 _ _ _ q, cell_of_row _ _ 3 _ _ _ q, cell_of_row _ _ 4 _ _ _ q, cell_of_row _ _ 5 _ _ _ q, cell_of_row _ _ 6 _ _ _ q, cell_of_row _ _ 7 _ _ _ q, cell_of_row _ _ 8 _ _ _ q, cell_of_row _ _ 9 _ _ _ q, cell_of_row _ _ 10 _ _ _ q, cell_of_row _ _ 11 _ _ _ q, row_lt q, Nat.le_refl _⟩
end

/-- three new rows -/
theorem three_new {w W : World} (h : Below w.heap.size w W) (a0 a1 a2 a3 b0 b1 b2 b3 c0 c1 c2 c3 : Value) :
    Row4 (((W.alloc (.cells #[a0, a1, a2, a3] 24)).alloc (.cells #[b0, b1, b2, b3] 24)).alloc (.cells #[c0, c1, c2, c3] 24)).drew W.heap.size a0 a1 a2 a3 ∧
    Row4 (((W.alloc (.cells #[a0, a1, a2, a3] 24)).alloc (.cells #[b0, b1, b2, b3] 24)).alloc (.cells #[c0, c1, c2, c3] 24)).drew (W.heap.size + 1) b0 b1 b2 b3 ∧
    Row4 (((W.alloc (.cells #[a0, a1, a2, a3] 24)).alloc (.cells #[b0, b1, b2, b3] 24)).alloc (.cells #[c0, c1, c2, c3] 24)).drew (W.heap.size + 1 + 1) c0 c1 c2 c3 ∧
    Below w.heap.size w (((W.alloc (.cells #[a0, a1, a2, a3] 24)).alloc (.cells #[b0, b1, b2, b3] 24)).alloc (.cells #[c0, c1, c2, c3] 24)).drew := by
  have T := Two.start W a0 a1 a2 a3 b0 b1 b2 b3
  have R := Row4.new ((W.alloc (.cells #[a0, a1, a2, a3] 24)).alloc (.cells #[b0, b1, b2, b3] 24)) c0 c1 c2 c3
  have e : ((W.alloc (.cells #[a0, a1, a2, a3] 24)).alloc (.cells #[b0, b1, b2, b3] 24)).heap.size = W.heap.size + 1 + 1 := by rw [World.size_alloc, World.size_alloc]
  rw [e] at R
  have hb : Below w.heap.size w ((W.alloc (.cells #[a0, a1, a2, a3] 24)).alloc (.cells #[b0, b1, b2, b3] 24)) := h.trans (T.2.2.mono h.size)
  exact ⟨T.1.alloc _, T.2.1.alloc _, R, (hb.alloc hb.size _).drew⟩
/-- three boxed values, as they stand -/
@[reducible] def ThreeB (w : World) (x3 x4 x5 : Nat) (wx : World) (k n : Int) (f : Nat) (s : ByteArray) (k2 n2 : Int) (f2 : Nat) (s2 : ByteArray) (k3 n3 : Int) (f3 : Nat) (s3 : ByteArray) : Prop :=
  wx.cell? ⟨x3, 0, none⟩ = some (.int .i64 k) ∧ wx.cell? ⟨x3, 1, none⟩ = some (.int .i64 n) ∧ wx.cell? ⟨x3, 2, none⟩ = some (.float .f64 f) ∧ wx.cell? ⟨x3, 3, none⟩ = some (.string s) ∧
  wx.cell? ⟨x4, 0, none⟩ = some (.int .i64 k2) ∧ wx.cell? ⟨x4, 1, none⟩ = some (.int .i64 n2) ∧ wx.cell? ⟨x4, 2, none⟩ = some (.float .f64 f2) ∧ wx.cell? ⟨x4, 3, none⟩ = some (.string s2) ∧
  wx.cell? ⟨x5, 0, none⟩ = some (.int .i64 k3) ∧ wx.cell? ⟨x5, 1, none⟩ = some (.int .i64 n3) ∧ wx.cell? ⟨x5, 2, none⟩ = some (.float .f64 f3) ∧ wx.cell? ⟨x5, 3, none⟩ = some (.string s3) ∧ x3 < wx.heap.size ∧ x4 < wx.heap.size ∧ x5 < wx.heap.size ∧ Below w.heap.size w wx
section
variable {w W w2 : World} {x3 x4 x5 : Nat} {k n : Int} {f : Nat} {s : ByteArray} {k2 n2 : Int} {f2 : Nat} {s2 : ByteArray} {k3 n3 : Int} {f3 : Nat} {s3 : ByteArray}
theorem ThreeB.call (h : ThreeB w x3 x4 x5 W k n f s k2 n2 f2 s2 k3 n3 f3 s3) (hB : Below W.heap.size W w2) : ThreeB w x3 x4 x5 w2 k n f s k2 n2 f2 s2 k3 n3 f3 s3 := by
  obtain ⟨a0, a1, a2, a3, a4, a5, a6, a7, a8, a9, a10, a11, l3, l4, l5, hb⟩ := h
  have h3 : ∀ o, w2.cell? ⟨x3, o, none⟩ = W.cell? ⟨x3, o, none⟩ := fun o => hB.cell (p := ⟨x3, o, none⟩) l3
  have h4 : ∀ o, w2.cell? ⟨x4, o, none⟩ = W.cell? ⟨x4, o, none⟩ := fun o => hB.cell (p := ⟨x4, o, none⟩) l4
  have h5 : ∀ o, w2.cell? ⟨x5, o, none⟩ = W.cell? ⟨x5, o, none⟩ := fun o => hB.cell (p := ⟨x5, o, none⟩) l5
  have hz := hB.size
  exact ⟨(h3 _).trans a0, (h3 _).trans a1, (h3 _).trans a2, (h3 _).trans a3, (h4 _).trans a4, (h4 _).trans a5, (h4 _).trans a6, (h4 _).trans a7, (h5 _).trans a8, (h5 _).trans a9, (h5 _).trans a10, (h5 _).trans a11, by omega, by omega, by omega, hb.trans (hB.mono hb.size)⟩
theorem ThreeB.rows (h3 : Row4 W x3 (.int .i64 k) (.int .i64 n) (.float .f64 f) (.string s)) (h4 : Row4 W x4 (.int .i64 k2) (.int .i64 n2) (.float .f64 f2) (.string s2)) (h5 : Row4 W x5 (.int .i64 k3) (.int .i64 n3) (.float .f64 f3) (.string s3)) (hb : Below w.heap.size w W) : ThreeB w x3 x4 x5 W k n f s k2 n2 f2 s2 k3 n3 f3 s3 := by
  obtain ⟨⟨a0, a1, a2, a3⟩, -⟩ := h3.cells
  obtain ⟨⟨b0, b1, b2, b3⟩, -⟩ := h4.cells
  obtain ⟨⟨c0, c1, c2, c3⟩, -⟩ := h5.cells
  exact ⟨a0, a1, a2, a3, b0, b1, b2, b3, c0, c1, c2, c3, h3.lt, h4.lt, h5.lt, hb⟩
theorem ThreeB.below (h : ThreeB w x3 x4 x5 W k n f s k2 n2 f2 s2 k3 n3 f3 s3) : Below w.heap.size w W := h.2.2.2.2.2.2.2.2.2.2.2.2.2.2.2
end

set_option maxRecDepth 100000 in
set_option maxHeartbeats 8000000 in
theorem line_walk (k n : Int) (f : Nat) (s : ByteArray) (k2 n2 : Int) (f2 : Nat) (s2 : ByteArray) (k3 n3 : Int) (f3 : Nat) (s3 : ByteArray) (x y z : Int) (w : World) (hx : -1 ≤ x ∧ x ≤ 1) (hl : x ≤ 0 → y ≤ 0 → z ≤ 0 ∧ (z = 0 ↔ x = 0 ∧ y = 0))
    (h1 : ∀ W, Calls Tryz.prog 13 #[vV k n f s, vV k2 n2 f2 s2] W (RetV (.int .i64 x) W)) (h2 : ∀ W, Calls Tryz.prog 13 #[vV k2 n2 f2 s2, vV k3 n3 f3 s3] W (RetV (.int .i64 y) W)) (h3 : ∀ W, Calls Tryz.prog 13 #[vV k n f s, vV k3 n3 f3 s3] W (RetV (.int .i64 z) W))
    (h4 : ∀ W, Calls Tryz.prog 13 #[vV k n f s, vV k n f s] W (RetV (.int .i64 0) W)) (h5 : ∀ W, Calls Tryz.prog 13 #[vV k2 n2 f2 s2, vV k n f s] W (RetV (.int .i64 (-x)) W)) :
    Calls Tryz.prog 3 #[.agg #[.int .i64 k, .int .i64 n, .float .f64 f, .string s, .int .i64 k2, .int .i64 n2, .float .f64 f2, .string s2, .int .i64 k3, .int .i64 n3, .float .f64 f3, .string s3]] w (RetT w) := by
  have sf := store_float
  have H1 := Lib.hid h1
  have H2 := Lib.hid h2
  have H3 := Lib.hid h3
  have H4 := Lib.hid h4
  have H5 := Lib.hid h5
  have HL := Lib.hid hl
  clear h1 h2 h3 h4 h5 hl
  have Q := Lib.hid (heap_alloc_new w (.cells #[.int .i64 k, .int .i64 n, .float .f64 f, .string s, .int .i64 k2, .int .i64 n2, .float .f64 f2, .string s2, .int .i64 k3, .int .i64 n3, .float .f64 f3, .string s3] 25))
  have HA := Lib.hid ((Below.refl w.heap.size w).alloc (Nat.le_refl _) (.cells #[.int .i64 k, .int .i64 n, .float .f64 f, .string s, .int .i64 k2, .int .i64 n2, .float .f64 f2, .string s2, .int .i64 k3, .int .i64 n3, .float .f64 f3, .string s3] 25))
  go_enter Tryz.func3, Tryz.ntmps3
  go_upto_region 3 with (first
    | (go_at_call 11; (with_reducible refine (lives_any _).mono ?_); rintro e w2 ⟨rfl, hB⟩; (first | (with_reducible have Q2 := Lib.hid (row_call Q2.out hB)) | (with_reducible have Q2 := Lib.hid (row_call Q.out hB))); (first | (with_reducible have HA2 := Lib.hid (HA2.out.trans (hB.mono HA2.out.size))) | (with_reducible have HA2 := Lib.hid (HA.out.trans (hB.mono HA.out.size)))); clear hB)
    | (go_at_call 12; (with_reducible refine (short_any _ 3 _ _ (vals3 Q2.out) (by decide)).mono ?_); rintro e w3 ⟨⟨b, rfl⟩, hB⟩; have Q2 := Lib.hid (row_call Q2.out hB); have HA2 := Lib.hid (HA2.out.trans (hB.mono HA2.out.size)); clear hB; cases b)
    | fail)
  · go_ret
    exact ⟨rfl, HA2.out⟩
  · skip
    go_cut [3, 4, 5] (fun s3' s4' s5' wc => ∃ b3 b4 b5 : Nat, s3' = .pointer (some ⟨b3, 0, none⟩) ∧ s4' = .pointer (some ⟨b4, 0, none⟩) ∧ s5' = .pointer (some ⟨b5, 0, none⟩) ∧ Row4 wc b3 (.int .i64 k) (.int .i64 n) (.float .f64 f) (.string s) ∧ Row4 wc b4 (.int .i64 k2) (.int .i64 n2) (.float .f64 f2) (.string s2) ∧ Row4 wc b5 (.int .i64 k3) (.int .i64 n3) (.float .f64 f3) (.string s3) ∧ Below w.heap.size w wc)
    case first =>
      have T0 := Held12.new (w := w) Q2.out
      have T1 := Held12.keep T0 (Below.refl _ _).drew
      go_region_held3 (fun wx => wx.cell? ⟨w.heap.size, 0, none⟩ = some (.int .i64 k) ∧ wx.cell? ⟨w.heap.size, 1, none⟩ = some (.int .i64 n) ∧ wx.cell? ⟨w.heap.size, 2, none⟩ = some (.float .f64 f) ∧ wx.cell? ⟨w.heap.size, 3, none⟩ = some (.string s) ∧
  wx.cell? ⟨w.heap.size, 4, none⟩ = some (.int .i64 k2) ∧ wx.cell? ⟨w.heap.size, 5, none⟩ = some (.int .i64 n2) ∧ wx.cell? ⟨w.heap.size, 6, none⟩ = some (.float .f64 f2) ∧ wx.cell? ⟨w.heap.size, 7, none⟩ = some (.string s2) ∧
  wx.cell? ⟨w.heap.size, 8, none⟩ = some (.int .i64 k3) ∧ wx.cell? ⟨w.heap.size, 9, none⟩ = some (.int .i64 n3) ∧ wx.cell? ⟨w.heap.size, 10, none⟩ = some (.float .f64 f3) ∧ wx.cell? ⟨w.heap.size, 11, none⟩ = some (.string s3) ∧ w.heap.size < w3.heap.size ∧ w3.heap.size ≤ wx.heap.size)
        (first
          | (with_reducible exact T1)
          | (with_reducible assumption)
          | (with_reducible exact Held12.allocd T1 _)
          | (with_reducible exact Held12.allocd (Held12.allocd T1 _) _)
          | (with_reducible exact Held12.allocd (Held12.allocd (Held12.allocd T1 _) _) _)
          | fail)
        (fail)
      all_goals
        rename_i hHeld
        clear hHeld
        go_wp2_with fail
        go_meet
        refine ⟨_, _, _, rfl, rfl, rfl, ?_, ?_, ?_, ?_⟩
      all_goals
        first
          | (with_reducible exact (three_new HA2.out _ _ _ _ _ _ _ _ _ _ _ _).1)
          | (with_reducible exact (three_new HA2.out _ _ _ _ _ _ _ _ _ _ _ _).2.1)
          | (with_reducible exact (three_new HA2.out _ _ _ _ _ _ _ _ _ _ _ _).2.2.1)
          | (with_reducible exact (three_new HA2.out _ _ _ _ _ _ _ _ _ _ _ _).2.2.2)
    case rest =>
      obtain ⟨b3, b4, b5, rfl, rfl, rfl, R3, R4, R5, hbb⟩ := hcut
      obtain ⟨w6, rfl⟩ : ∃ w6 : World, w6 = wc := ⟨_, rfl⟩
      have T0 := ThreeB.rows R3 R4 R5 hbb
      clear R3 R4 R5 hbb Q Q2 HA HA2
      have T1 := ThreeB.call T0 (Below.refl _ _).drew
      go_wp2_with fail
      go_region_held3 (fun wx => wx.cell? ⟨b3, 0, none⟩ = some (.int .i64 k) ∧ wx.cell? ⟨b3, 1, none⟩ = some (.int .i64 n) ∧ wx.cell? ⟨b3, 2, none⟩ = some (.float .f64 f) ∧ wx.cell? ⟨b3, 3, none⟩ = some (.string s) ∧
  wx.cell? ⟨b4, 0, none⟩ = some (.int .i64 k2) ∧ wx.cell? ⟨b4, 1, none⟩ = some (.int .i64 n2) ∧ wx.cell? ⟨b4, 2, none⟩ = some (.float .f64 f2) ∧ wx.cell? ⟨b4, 3, none⟩ = some (.string s2) ∧
  wx.cell? ⟨b5, 0, none⟩ = some (.int .i64 k3) ∧ wx.cell? ⟨b5, 1, none⟩ = some (.int .i64 n3) ∧ wx.cell? ⟨b5, 2, none⟩ = some (.float .f64 f3) ∧ wx.cell? ⟨b5, 3, none⟩ = some (.string s3) ∧ b3 < wx.heap.size ∧ b4 < wx.heap.size ∧ b5 < wx.heap.size ∧ Below w.heap.size w wx)
        (first
          | (with_reducible exact T1)
          | (with_reducible assumption)
          | (with_reducible exact ThreeB.call (W := _) (by assumption) hB2)
          | fail)
        (first
          | (go_at_call 13; (with_reducible refine (H1.out _).mono ?_); rintro e w4 ⟨rfl, hB2⟩)
          | (go_at_call 13; (with_reducible refine (H2.out _).mono ?_); rintro e w4 ⟨rfl, hB2⟩)
          | (go_at_call 13; (with_reducible refine (H3.out _).mono ?_); rintro e w4 ⟨rfl, hB2⟩)
          | fail)
      all_goals
        rename_i hHeld
        obtain ⟨a0, a1, a2, a3, c0, c1, c2, c3, d0, d1, d2, d3, hl3, hl4, hl5, hbb⟩ := id hHeld
        clear T0 T1
        go_wp2_with (first
          | (go_at_call 13; (with_reducible refine (H4.out _).mono ?_); rintro e w4 ⟨rfl, hB2⟩; have hHeld := ThreeB.call hHeld hB2; obtain ⟨a0, a1, a2, a3, c0, c1, c2, c3, d0, d1, d2, d3, hl3, hl4, hl5, hbb⟩ := id hHeld; clear hB2)
          | (go_at_call 13; (with_reducible refine (H5.out _).mono ?_); rintro e w4 ⟨rfl, hB2⟩; have hHeld := ThreeB.call hHeld hB2; obtain ⟨a0, a1, a2, a3, c0, c1, c2, c3, d0, d1, d2, d3, hl3, hl4, hl5, hbb⟩ := id hHeld; clear hB2)
          | fail)
      all_goals
        have hL := HL.out
        go_ret
        first
          | exact ⟨rfl, hbb⟩
          | (exfalso; omega)
          | exact ⟨ret_bool (by rw [beq_iff_eq, Bool.eq_iff_iff, beq_iff_eq, beq_iff_eq]; omega), hbb⟩
          | exact ⟨ret_bool (by rw [Bool.not_eq_true', beq_eq_false_iff_ne]; omega), hbb⟩
end Go.Proofs.YtjlpjooaclfnlaaGreatDoor
