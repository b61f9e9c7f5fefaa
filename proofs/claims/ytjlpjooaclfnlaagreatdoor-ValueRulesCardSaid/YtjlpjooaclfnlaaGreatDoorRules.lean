/- The walk of the statement ValueRules. -/
import Derived.Test.YtjlpjooaclfnlaaGreatDoorLine
namespace Go.Proofs.YtjlpjooaclfnlaaGreatDoor
open Go.RowKit

/-- three new rows -/
theorem three_start (w : World) (a0 a1 a2 a3 b0 b1 b2 b3 c0 c1 c2 c3 : Value) :
    Row4 (((w.alloc (.cells #[a0, a1, a2, a3] 24)).alloc (.cells #[b0, b1, b2, b3] 24)).alloc (.cells #[c0, c1, c2, c3] 24)) w.heap.size a0 a1 a2 a3 ∧
    Row4 (((w.alloc (.cells #[a0, a1, a2, a3] 24)).alloc (.cells #[b0, b1, b2, b3] 24)).alloc (.cells #[c0, c1, c2, c3] 24)) (w.heap.size + 1) b0 b1 b2 b3 ∧
    Row4 (((w.alloc (.cells #[a0, a1, a2, a3] 24)).alloc (.cells #[b0, b1, b2, b3] 24)).alloc (.cells #[c0, c1, c2, c3] 24)) (w.heap.size + 1 + 1) c0 c1 c2 c3 ∧
    Below w.heap.size w (((w.alloc (.cells #[a0, a1, a2, a3] 24)).alloc (.cells #[b0, b1, b2, b3] 24)).alloc (.cells #[c0, c1, c2, c3] 24)) := by
  have T := Two.start w a0 a1 a2 a3 b0 b1 b2 b3
  have R := Row4.new ((w.alloc (.cells #[a0, a1, a2, a3] 24)).alloc (.cells #[b0, b1, b2, b3] 24)) c0 c1 c2 c3
  have e : ((w.alloc (.cells #[a0, a1, a2, a3] 24)).alloc (.cells #[b0, b1, b2, b3] 24)).heap.size = w.heap.size + 1 + 1 := by rw [World.size_alloc, World.size_alloc]
  rw [e] at R
  exact ⟨T.1.alloc _, T.2.1.alloc _, R, T.2.2.alloc T.2.2.size _⟩
/-- a further boxed value of no float and no text -/
@[reducible] def MoreB (x : Nat) (wx : World) (q m : Int) : Prop := wx.cell? ⟨x, 0, none⟩ = some (.int .i64 q) ∧ wx.cell? ⟨x, 1, none⟩ = some (.int .i64 m) ∧ wx.cell? ⟨x, 2, none⟩ = some (.float .f64 0) ∧ wx.cell? ⟨x, 3, none⟩ = some (.string ⟨#[]⟩) ∧ x < wx.heap.size
theorem MoreB.call {x : Nat} {W w2 : World} {q m : Int} (h : MoreB x W q m) (hB : Below W.heap.size W w2) : MoreB x w2 q m := by
  obtain ⟨a0, a1, a2, a3, l⟩ := h
  have h3 : ∀ o, w2.cell? ⟨x, o, none⟩ = W.cell? ⟨x, o, none⟩ := fun o => hB.cell (p := ⟨x, o, none⟩) l
  have hz := hB.size
  exact ⟨(h3 _).trans a0, (h3 _).trans a1, (h3 _).trans a2, (h3 _).trans a3, by omega⟩
theorem MoreB.row {x : Nat} {W : World} {q m : Int} (h : Row4 W x (.int .i64 q) (.int .i64 m) (.float .f64 0) (.string ⟨#[]⟩)) : MoreB x W q m := by
  obtain ⟨⟨a0, a1, a2, a3⟩, -⟩ := h.cells
  exact ⟨a0, a1, a2, a3, h.lt⟩
theorem Row4.newd (W : World) (u0 u1 u2 u3 : Value) : Row4 (W.alloc (.cells #[u0, u1, u2, u3] 24)).drew W.heap.size u0 u1 u2 u3 := heap_alloc_new W _
theorem below_allocd (W : World) (o : Obj) : Below W.heap.size W (W.alloc o).drew := ((Below.refl _ _).alloc (Nat.le_refl _) o).drew
theorem below_alloc (W : World) (o : Obj) : Below W.heap.size W (W.alloc o) := (Below.refl _ _).alloc (Nat.le_refl _) o
section
variable {w W : World} {x3 x4 x5 : Nat} {k n : Int} {f : Nat} {s : ByteArray} {k2 n2 : Int} {f2 : Nat} {s2 : ByteArray} {k3 n3 : Int} {f3 : Nat} {s3 : ByteArray}
theorem ThreeB.lt5 (h : ThreeB w x3 x4 x5 W k n f s k2 n2 f2 s2 k3 n3 f3 s3) : x5 < W.heap.size := h.2.2.2.2.2.2.2.2.2.2.2.2.2.2.1
/-- a store into a block that is none of these -/
theorem ThreeB.set4 (h : ThreeB w x3 x4 x5 W k n f s k2 n2 f2 s2 k3 n3 f3 s3) {b : Nat} (hw : w.heap.size ≤ b) (h3 : x3 < b) (h4 : x4 < b) (h5 : x5 < b) (u0 u1 u2 u3 : Value) : ThreeB w x3 x4 x5 (set4 W b u0 u1 u2 u3) k n f s k2 n2 f2 s2 k3 n3 f3 s3 := by
  obtain ⟨a0, a1, a2, a3, a4, a5, a6, a7, a8, a9, a10, a11, l3, l4, l5, hb⟩ := h
  have hB : Below b W (Go.Proofs.YtjlpjooaclfnlaaGreatDoor.set4 W b u0 u1 u2 u3) := ((((Below.refl b W).setCell (p := ⟨b, 0, none⟩) (Nat.le_refl _) _).setCell (p := ⟨b, 1, none⟩) (Nat.le_refl _) _).setCell (p := ⟨b, 2, none⟩) (Nat.le_refl _) _).setCell (p := ⟨b, 3, none⟩) (Nat.le_refl _) _
  have e3 : ∀ o, (Go.Proofs.YtjlpjooaclfnlaaGreatDoor.set4 W b u0 u1 u2 u3).cell? ⟨x3, o, none⟩ = W.cell? ⟨x3, o, none⟩ := fun o => hB.cell (p := ⟨x3, o, none⟩) h3
  have e4 : ∀ o, (Go.Proofs.YtjlpjooaclfnlaaGreatDoor.set4 W b u0 u1 u2 u3).cell? ⟨x4, o, none⟩ = W.cell? ⟨x4, o, none⟩ := fun o => hB.cell (p := ⟨x4, o, none⟩) h4
  have e5 : ∀ o, (Go.Proofs.YtjlpjooaclfnlaaGreatDoor.set4 W b u0 u1 u2 u3).cell? ⟨x5, o, none⟩ = W.cell? ⟨x5, o, none⟩ := fun o => hB.cell (p := ⟨x5, o, none⟩) h5
  have hz := hB.size
  exact ⟨(e3 _).trans a0, (e3 _).trans a1, (e3 _).trans a2, (e3 _).trans a3, (e4 _).trans a4, (e4 _).trans a5, (e4 _).trans a6, (e4 _).trans a7, (e5 _).trans a8, (e5 _).trans a9, (e5 _).trans a10, (e5 _).trans a11, by omega, by omega, by omega, hb.trans (hB.mono hw)⟩
end

/-- four boxed values -/
@[reducible] def FourB (w : World) (x3 x4 x5 x7 : Nat) (wx : World) (k n : Int) (f : Nat) (s : ByteArray) (k2 n2 : Int) (f2 : Nat) (s2 : ByteArray) (k3 n3 : Int) (f3 : Nat) (s3 : ByteArray) (q m : Int) : Prop := MoreB x7 wx q m ∧ ThreeB w x3 x4 x5 wx k n f s k2 n2 f2 s2 k3 n3 f3 s3
section
variable {w W w2 : World} {x3 x4 x5 x7 : Nat} {k n : Int} {f : Nat} {s : ByteArray} {k2 n2 : Int} {f2 : Nat} {s2 : ByteArray} {k3 n3 : Int} {f3 : Nat} {s3 : ByteArray} {q m : Int}
theorem FourB.call (h : FourB w x3 x4 x5 x7 W k n f s k2 n2 f2 s2 k3 n3 f3 s3 q m) (hB : Below W.heap.size W w2) : FourB w x3 x4 x5 x7 w2 k n f s k2 n2 f2 s2 k3 n3 f3 s3 q m := ⟨h.1.call hB, h.2.call hB⟩
theorem FourB.lt5 (h : FourB w x3 x4 x5 x7 W k n f s k2 n2 f2 s2 k3 n3 f3 s3 q m) : x5 < W.heap.size ∧ x7 < W.heap.size := ⟨h.2.lt5, h.1.2.2.2.2⟩
theorem FourB.set4 (h : FourB w x3 x4 x5 x7 W k n f s k2 n2 f2 s2 k3 n3 f3 s3 q m) {b : Nat} (hw : w.heap.size ≤ b) (h3 : x3 < b) (h4 : x4 < b) (h5 : x5 < b) (h7 : x7 < b) (u0 u1 u2 u3 : Value) : FourB w x3 x4 x5 x7 (set4 W b u0 u1 u2 u3) k n f s k2 n2 f2 s2 k3 n3 f3 s3 q m := by
  refine ⟨?_, h.2.set4 hw h3 h4 h5 _ _ _ _⟩
  obtain ⟨a0, a1, a2, a3, l⟩ := h.1
  have hB : Below b W (Go.Proofs.YtjlpjooaclfnlaaGreatDoor.set4 W b u0 u1 u2 u3) := ((((Below.refl b W).setCell (p := ⟨b, 0, none⟩) (Nat.le_refl _) _).setCell (p := ⟨b, 1, none⟩) (Nat.le_refl _) _).setCell (p := ⟨b, 2, none⟩) (Nat.le_refl _) _).setCell (p := ⟨b, 3, none⟩) (Nat.le_refl _) _
  have e : ∀ o, (Go.Proofs.YtjlpjooaclfnlaaGreatDoor.set4 W b u0 u1 u2 u3).cell? ⟨x7, o, none⟩ = W.cell? ⟨x7, o, none⟩ := fun o => hB.cell (p := ⟨x7, o, none⟩) h7
  have hz := hB.size
  exact ⟨(e _).trans a0, (e _).trans a1, (e _).trans a2, (e _).trans a3, by omega⟩
end
/-- five boxed values -/
@[reducible] def FiveB (w : World) (x3 x4 x5 x7 x8 : Nat) (wx : World) (k n : Int) (f : Nat) (s : ByteArray) (k2 n2 : Int) (f2 : Nat) (s2 : ByteArray) (k3 n3 : Int) (f3 : Nat) (s3 : ByteArray) (q m q' m' : Int) : Prop := MoreB x8 wx q' m' ∧ FourB w x3 x4 x5 x7 wx k n f s k2 n2 f2 s2 k3 n3 f3 s3 q m
theorem FiveB.call {w W w2 : World} {x3 x4 x5 x7 x8 : Nat} {k n : Int} {f : Nat} {s : ByteArray} {k2 n2 : Int} {f2 : Nat} {s2 : ByteArray} {k3 n3 : Int} {f3 : Nat} {s3 : ByteArray} {q m q' m' : Int} (h : FiveB w x3 x4 x5 x7 x8 W k n f s k2 n2 f2 s2 k3 n3 f3 s3 q m q' m') (hB : Below W.heap.size W w2) : FiveB w x3 x4 x5 x7 x8 w2 k n f s k2 n2 f2 s2 k3 n3 f3 s3 q m q' m' := ⟨h.1.call hB, h.2.call hB⟩

set_option maxRecDepth 100000 in
set_option maxHeartbeats 8000000 in
theorem rules_walk (k n : Int) (f : Nat) (s : ByteArray) (k2 n2 : Int) (f2 : Nat) (s2 : ByteArray) (k3 n3 : Int) (f3 : Nat) (s3 : ByteArray) (q0 m0 q1 m1 q2 m2 q3 m3 q4 m4 q5 m5 q6 m6 : Int) (w : World)
    (h1 : ∀ W, Calls Tryz.prog 38 #[vV k2 n2 f2 s2, vV k3 n3 f3 s3] W (RetV (vV q0 m0 0 ⟨#[]⟩) W))
    (h2 : ∀ W, Calls Tryz.prog 36 #[vV k n f s, vV q0 m0 0 ⟨#[]⟩] W (RetV (vV q1 m1 0 ⟨#[]⟩) W))
    (h3 : ∀ W, Calls Tryz.prog 36 #[vV k n f s, vV k2 n2 f2 s2] W (RetV (vV q2 m2 0 ⟨#[]⟩) W))
    (h4 : ∀ W, Calls Tryz.prog 36 #[vV k n f s, vV k3 n3 f3 s3] W (RetV (vV q3 m3 0 ⟨#[]⟩) W))
    (h5 : ∀ W, Calls Tryz.prog 38 #[vV q2 m2 0 ⟨#[]⟩, vV q3 m3 0 ⟨#[]⟩] W (RetV (vV q1 m1 0 ⟨#[]⟩) W))
    (h6 : ∀ W, Calls Tryz.prog 34 #[vV q2 m2 0 ⟨#[]⟩] W (RetV (vV q4 m4 0 ⟨#[]⟩) W))
    (h7 : ∀ W, Calls Tryz.prog 34 #[vV k n f s] W (RetV (vV q5 m5 0 ⟨#[]⟩) W))
    (h8 : ∀ W, Calls Tryz.prog 34 #[vV k2 n2 f2 s2] W (RetV (vV q6 m6 0 ⟨#[]⟩) W))
    (h9 : ∀ W, Calls Tryz.prog 38 #[vV q5 m5 0 ⟨#[]⟩, vV q6 m6 0 ⟨#[]⟩] W (RetV (vV q4 m4 0 ⟨#[]⟩) W))
    (h10 : ∀ W, Calls Tryz.prog 36 #[vV k2 n2 f2 s2, vV k n f s] W (RetV (vV q2 m2 0 ⟨#[]⟩) W)) :
    Calls Tryz.prog 10 #[vV k n f s, vV k2 n2 f2 s2, vV k3 n3 f3 s3] w (RetT w) := by
  have sf := store_float
  have H1 := Lib.hid h1
  have H2 := Lib.hid h2
  have H3 := Lib.hid h3
  have H4 := Lib.hid h4
  have H5 := Lib.hid h5
  have H6 := Lib.hid h6
  have H7 := Lib.hid h7
  have H8 := Lib.hid h8
  have H9 := Lib.hid h9
  have H10 := Lib.hid h10
  clear h1 h2 h3 h4 h5 h6 h7 h8 h9 h10
  have HX := Lib.hid (fun q m W => exact_same q m 0 ⟨#[]⟩ W feq_zero)
  have N3 := three_start w (.int .i64 k) (.int .i64 n) (.float .f64 f) (.string s) (.int .i64 k2) (.int .i64 n2) (.float .f64 f2) (.string s2) (.int .i64 k3) (.int .i64 n3) (.float .f64 f3) (.string s3)
  have HT := Lib.hid (ThreeB.rows N3.1 N3.2.1 N3.2.2.1 N3.2.2.2)
  clear N3
  go_enter Tryz.func10, Tryz.ntmps10
  go_upto_region 3 with (first
    | (go_at_call 11; (with_reducible refine (lives_any _).mono ?_); rintro e w2 ⟨rfl, hB⟩; (first | (with_reducible have T1 := ThreeB.call T2 hB) | (with_reducible have T1 := ThreeB.call HT.out hB)); obtain ⟨a0, a1, a2, a3, b0, b1, b2, b3, c0, c1, c2, c3, -⟩ := id T1; clear hB)
    | (go_at_call 12; (with_reducible refine (short_any _ 3 _ _ (vals3 (heap_alloc_new _ _)) (by decide)).mono ?_); rintro e w2 ⟨⟨b, rfl⟩, hB⟩; have T2 := ThreeB.call T1 (below_made hB); clear hB a0 a1 a2 a3 b0 b1 b2 b3 c0 c1 c2 c3; cases b)
    | fail)
  · go_ret
    exact ⟨rfl, ThreeB.below T1⟩
  · go_cut [7] (fun s7' wc => ∃ b7 : Nat, s7' = .pointer (some ⟨b7, 0, none⟩) ∧ MoreB b7 wc q1 m1 ∧ ThreeB w w.heap.size (w.heap.size + 1) (w.heap.size + 1 + 1) wc k n f s k2 n2 f2 s2 k3 n3 f3 s3)
    case first =>
      have T3 := ThreeB.call T2 (Below.refl _ _).drew
      have L2 := ThreeB.lt5 T2
      go_region_held3 (fun wx => wx.cell? ⟨w.heap.size, 0, none⟩ = some (.int .i64 k) ∧ wx.cell? ⟨w.heap.size, 1, none⟩ = some (.int .i64 n) ∧ wx.cell? ⟨w.heap.size, 2, none⟩ = some (.float .f64 f) ∧ wx.cell? ⟨w.heap.size, 3, none⟩ = some (.string s) ∧
  wx.cell? ⟨w.heap.size + 1, 0, none⟩ = some (.int .i64 k2) ∧ wx.cell? ⟨w.heap.size + 1, 1, none⟩ = some (.int .i64 n2) ∧ wx.cell? ⟨w.heap.size + 1, 2, none⟩ = some (.float .f64 f2) ∧ wx.cell? ⟨w.heap.size + 1, 3, none⟩ = some (.string s2) ∧
  wx.cell? ⟨w.heap.size + 1 + 1, 0, none⟩ = some (.int .i64 k3) ∧ wx.cell? ⟨w.heap.size + 1 + 1, 1, none⟩ = some (.int .i64 n3) ∧ wx.cell? ⟨w.heap.size + 1 + 1, 2, none⟩ = some (.float .f64 f3) ∧ wx.cell? ⟨w.heap.size + 1 + 1, 3, none⟩ = some (.string s3) ∧ w.heap.size < wx.heap.size ∧ w.heap.size + 1 < wx.heap.size ∧ w.heap.size + 1 + 1 < wx.heap.size ∧ Below w.heap.size w wx)
        (first
          | (with_reducible exact T3)
          | (with_reducible exact TA)
          | (with_reducible assumption)
          | (with_reducible exact ThreeB.call T2 (below_allocd _ _))
          | (with_reducible exact ThreeB.call TA (below_alloc _ _))
          | (with_reducible exact ThreeB.set4 TA (by omega) (by omega) (by omega) (by omega) _ _ _ _)
          | fail)
        (first
          | (go_at_call 38; (with_reducible refine (H1.out _).mono ?_); rintro e w4 ⟨rfl, hB2⟩; (first | (with_reducible have TA := ThreeB.call T3 hB2) | (with_reducible have TA := ThreeB.call (ThreeB.call T2 (below_allocd _ _)) hB2)); have LL := ThreeB.lt5 TA; (first | (with_reducible have R := Row4.call (Row4.newd _ _ _ _ _) hB2; obtain ⟨⟨g0, g1, g2, g3⟩, ⟨e0, e1, e2, e3⟩⟩ := R.cells) | (with_reducible have R := Row4.call (Row4.new _ _ _ _ _) hB2; obtain ⟨⟨g0, g1, g2, g3⟩, ⟨e0, e1, e2, e3⟩⟩ := R.cells) | (with_reducible have R := Row4.call R hB2; obtain ⟨⟨g0, g1, g2, g3⟩, ⟨e0, e1, e2, e3⟩⟩ := R.cells) | skip))
          | (go_at_call 36; (with_reducible refine (H2.out _).mono ?_); rintro e w4 ⟨rfl, hB2⟩; (first | (with_reducible have TA := ThreeB.call TA hB2) | (with_reducible have TA := ThreeB.call (ThreeB.call TA (below_alloc _ _)) hB2)); have LL := ThreeB.lt5 TA; (first | (with_reducible have R := Row4.call (Row4.newd _ _ _ _ _) hB2; obtain ⟨⟨g0, g1, g2, g3⟩, ⟨e0, e1, e2, e3⟩⟩ := R.cells) | (with_reducible have R := Row4.call (Row4.new _ _ _ _ _) hB2; obtain ⟨⟨g0, g1, g2, g3⟩, ⟨e0, e1, e2, e3⟩⟩ := R.cells) | (with_reducible have R := Row4.call R hB2; obtain ⟨⟨g0, g1, g2, g3⟩, ⟨e0, e1, e2, e3⟩⟩ := R.cells) | skip))
          | fail)
      all_goals
        rename_i hHeld
        go_wp2_with fail
        go_meet
        first
          | (with_reducible exact ⟨_, rfl, MoreB.row (Row4.new _ _ _ _ _), hHeld⟩)
          | (with_reducible exact ⟨_, rfl, MoreB.row (Row4.newd _ _ _ _ _), hHeld⟩)
          | (with_reducible exact ⟨_, rfl, MoreB.row (Row4.set R _ _ _ _), hHeld⟩)
    case rest =>
      obtain ⟨b7, rfl, hM, hT3⟩ := hcut
      obtain ⟨w6, rfl⟩ : ∃ w6 : World, w6 = wc := ⟨_, rfl⟩
      clear T1 T2
      have T2 : FourB w w.heap.size (w.heap.size + 1) (w.heap.size + 1 + 1) b7 w6 k n f s k2 n2 f2 s2 k3 n3 f3 s3 q1 m1 := ⟨hM, hT3⟩
      clear hM hT3
      go_wp2_with fail
      go_cut [7, 8] (fun s7' s8' wc => s7' = .pointer (some ⟨b7, 0, none⟩) ∧ ∃ b8 : Nat, s8' = .pointer (some ⟨b8, 0, none⟩) ∧ MoreB b8 wc q1 m1 ∧ FourB w w.heap.size (w.heap.size + 1) (w.heap.size + 1 + 1) b7 wc k n f s k2 n2 f2 s2 k3 n3 f3 s3 q1 m1)
      case first =>
        have T3 := FourB.call T2 (Below.refl _ _).drew
        have L2 := FourB.lt5 T2
        go_region_held3 (fun wx => (wx.cell? ⟨b7, 0, none⟩ = some (.int .i64 q1) ∧ wx.cell? ⟨b7, 1, none⟩ = some (.int .i64 m1) ∧ wx.cell? ⟨b7, 2, none⟩ = some (.float .f64 0) ∧ wx.cell? ⟨b7, 3, none⟩ = some (.string ⟨#[]⟩) ∧ b7 < wx.heap.size) ∧ wx.cell? ⟨w.heap.size, 0, none⟩ = some (.int .i64 k) ∧ wx.cell? ⟨w.heap.size, 1, none⟩ = some (.int .i64 n) ∧ wx.cell? ⟨w.heap.size, 2, none⟩ = some (.float .f64 f) ∧ wx.cell? ⟨w.heap.size, 3, none⟩ = some (.string s) ∧
  wx.cell? ⟨w.heap.size + 1, 0, none⟩ = some (.int .i64 k2) ∧ wx.cell? ⟨w.heap.size + 1, 1, none⟩ = some (.int .i64 n2) ∧ wx.cell? ⟨w.heap.size + 1, 2, none⟩ = some (.float .f64 f2) ∧ wx.cell? ⟨w.heap.size + 1, 3, none⟩ = some (.string s2) ∧
  wx.cell? ⟨w.heap.size + 1 + 1, 0, none⟩ = some (.int .i64 k3) ∧ wx.cell? ⟨w.heap.size + 1 + 1, 1, none⟩ = some (.int .i64 n3) ∧ wx.cell? ⟨w.heap.size + 1 + 1, 2, none⟩ = some (.float .f64 f3) ∧ wx.cell? ⟨w.heap.size + 1 + 1, 3, none⟩ = some (.string s3) ∧ w.heap.size < wx.heap.size ∧ w.heap.size + 1 < wx.heap.size ∧ w.heap.size + 1 + 1 < wx.heap.size ∧ Below w.heap.size w wx)
          (first
          | (with_reducible exact T3)
          | (with_reducible exact TA)
          | (with_reducible assumption)
          | (with_reducible exact FourB.call T2 (below_allocd _ _))
          | (with_reducible exact FourB.call TA (below_alloc _ _))
          | (with_reducible exact FourB.set4 TA (by omega) (by omega) (by omega) (by omega) (by omega) _ _ _ _)
          | fail)
          (first
          | (go_at_call 36; (with_reducible refine (H3.out _).mono ?_); rintro e w4 ⟨rfl, hB2⟩; (first | (with_reducible have TA := FourB.call T3 hB2) | (with_reducible have TA := FourB.call (FourB.call T2 (below_allocd _ _)) hB2)); have LL := FourB.lt5 TA; (first | (with_reducible have R := Row4.call (Row4.newd _ _ _ _ _) hB2; obtain ⟨⟨g0, g1, g2, g3⟩, ⟨e0, e1, e2, e3⟩⟩ := R.cells) | (with_reducible have R := Row4.call (Row4.new _ _ _ _ _) hB2; obtain ⟨⟨g0, g1, g2, g3⟩, ⟨e0, e1, e2, e3⟩⟩ := R.cells) | (with_reducible have R := Row4.call R hB2; obtain ⟨⟨g0, g1, g2, g3⟩, ⟨e0, e1, e2, e3⟩⟩ := R.cells) | skip))
          | (go_at_call 36; (with_reducible refine (H4.out _).mono ?_); rintro e w4 ⟨rfl, hB2⟩; (first | (with_reducible have TA := FourB.call TA hB2) | (with_reducible have TA := FourB.call (FourB.call TA (below_alloc _ _)) hB2)); have LL := FourB.lt5 TA; (first | (with_reducible have R := Row4.call (Row4.newd _ _ _ _ _) hB2; obtain ⟨⟨g0, g1, g2, g3⟩, ⟨e0, e1, e2, e3⟩⟩ := R.cells) | (with_reducible have R := Row4.call (Row4.new _ _ _ _ _) hB2; obtain ⟨⟨g0, g1, g2, g3⟩, ⟨e0, e1, e2, e3⟩⟩ := R.cells) | (with_reducible have R := Row4.call R hB2; obtain ⟨⟨g0, g1, g2, g3⟩, ⟨e0, e1, e2, e3⟩⟩ := R.cells) | skip))
          | (go_at_call 38; (with_reducible refine (H5.out _).mono ?_); rintro e w4 ⟨rfl, hB2⟩; (first | (with_reducible have TA := FourB.call TA hB2) | (with_reducible have TA := FourB.call (FourB.call TA (below_alloc _ _)) hB2)); have LL := FourB.lt5 TA; (first | (with_reducible have R := Row4.call (Row4.newd _ _ _ _ _) hB2; obtain ⟨⟨g0, g1, g2, g3⟩, ⟨e0, e1, e2, e3⟩⟩ := R.cells) | (with_reducible have R := Row4.call (Row4.new _ _ _ _ _) hB2; obtain ⟨⟨g0, g1, g2, g3⟩, ⟨e0, e1, e2, e3⟩⟩ := R.cells) | (with_reducible have R := Row4.call R hB2; obtain ⟨⟨g0, g1, g2, g3⟩, ⟨e0, e1, e2, e3⟩⟩ := R.cells) | skip))
            | fail)
        all_goals
          rename_i hHeld
          go_wp2_with fail
          go_meet
          first
            | (with_reducible exact ⟨rfl, _, rfl, MoreB.row (Row4.new _ _ _ _ _), hHeld⟩)
            | (with_reducible exact ⟨rfl, _, rfl, MoreB.row (Row4.newd _ _ _ _ _), hHeld⟩)
            | (with_reducible exact ⟨rfl, _, rfl, MoreB.row (Row4.set R _ _ _ _), hHeld⟩)
      case rest =>
        obtain ⟨rfl, b8, rfl, hM, hT3⟩ := hcut
        obtain ⟨w7, rfl⟩ : ∃ w7 : World, w7 = wc := ⟨_, rfl⟩
        clear T2
        have T2 : FiveB w w.heap.size (w.heap.size + 1) (w.heap.size + 1 + 1) b7 b8 w7 k n f s k2 n2 f2 s2 k3 n3 f3 s3 q1 m1 q1 m1 := ⟨hM, hT3⟩
        clear hM hT3
        have T3 := FiveB.call T2 (Below.refl _ _).drew
        go_wp2_with fail
        go_region_held3 (fun wx => (wx.cell? ⟨b8, 0, none⟩ = some (.int .i64 q1) ∧ wx.cell? ⟨b8, 1, none⟩ = some (.int .i64 m1) ∧ wx.cell? ⟨b8, 2, none⟩ = some (.float .f64 0) ∧ wx.cell? ⟨b8, 3, none⟩ = some (.string ⟨#[]⟩) ∧ b8 < wx.heap.size) ∧ (wx.cell? ⟨b7, 0, none⟩ = some (.int .i64 q1) ∧ wx.cell? ⟨b7, 1, none⟩ = some (.int .i64 m1) ∧ wx.cell? ⟨b7, 2, none⟩ = some (.float .f64 0) ∧ wx.cell? ⟨b7, 3, none⟩ = some (.string ⟨#[]⟩) ∧ b7 < wx.heap.size) ∧ wx.cell? ⟨w.heap.size, 0, none⟩ = some (.int .i64 k) ∧ wx.cell? ⟨w.heap.size, 1, none⟩ = some (.int .i64 n) ∧ wx.cell? ⟨w.heap.size, 2, none⟩ = some (.float .f64 f) ∧ wx.cell? ⟨w.heap.size, 3, none⟩ = some (.string s) ∧
  wx.cell? ⟨w.heap.size + 1, 0, none⟩ = some (.int .i64 k2) ∧ wx.cell? ⟨w.heap.size + 1, 1, none⟩ = some (.int .i64 n2) ∧ wx.cell? ⟨w.heap.size + 1, 2, none⟩ = some (.float .f64 f2) ∧ wx.cell? ⟨w.heap.size + 1, 3, none⟩ = some (.string s2) ∧
  wx.cell? ⟨w.heap.size + 1 + 1, 0, none⟩ = some (.int .i64 k3) ∧ wx.cell? ⟨w.heap.size + 1 + 1, 1, none⟩ = some (.int .i64 n3) ∧ wx.cell? ⟨w.heap.size + 1 + 1, 2, none⟩ = some (.float .f64 f3) ∧ wx.cell? ⟨w.heap.size + 1 + 1, 3, none⟩ = some (.string s3) ∧ w.heap.size < wx.heap.size ∧ w.heap.size + 1 < wx.heap.size ∧ w.heap.size + 1 + 1 < wx.heap.size ∧ Below w.heap.size w wx)
          (first
            | (with_reducible exact T3)
            | (with_reducible assumption)
            | (with_reducible exact FiveB.call (W := _) (by assumption) hB2)
            | fail)
          (first
          | (go_at_call 17; (with_reducible refine (HX.out _ _ _).mono ?_); rintro e w4 ⟨rfl, hB2⟩)
          | (go_at_call 36; (with_reducible refine (H3.out _).mono ?_); rintro e w4 ⟨rfl, hB2⟩)
          | (go_at_call 36; (with_reducible refine (H10.out _).mono ?_); rintro e w4 ⟨rfl, hB2⟩)
          | (go_at_call 34; (with_reducible refine (H6.out _).mono ?_); rintro e w4 ⟨rfl, hB2⟩)
          | (go_at_call 34; (with_reducible refine (H7.out _).mono ?_); rintro e w4 ⟨rfl, hB2⟩)
          | (go_at_call 34; (with_reducible refine (H8.out _).mono ?_); rintro e w4 ⟨rfl, hB2⟩)
          | (go_at_call 38; (with_reducible refine (H9.out _).mono ?_); rintro e w4 ⟨rfl, hB2⟩)
            | fail)
        all_goals
          rename_i hHeld
          go_wp2_with fail
          go_ret
          exact ⟨rfl, ThreeB.below hHeld.2.2⟩
end Go.Proofs.YtjlpjooaclfnlaaGreatDoor
