/- The walks of package value's Or, and of the document's And and Or. -/
import Derived.Test.YtjlpjooaclfnlaaGreatDoorAnd
namespace Go.Proofs.YtjlpjooaclfnlaaGreatDoor
open Go.RowKit

/-- two boxed values, as they stand -/
@[reducible] def TwoBox (w wx : World) (k n : Int) (f : Nat) (s : ByteArray) (k2 n2 : Int) (f2 : Nat) (s2 : ByteArray) : Prop :=
  wx.cell? ⟨w.heap.size, 0, none⟩ = some (.int .i64 k) ∧ wx.cell? ⟨w.heap.size, 1, none⟩ = some (.int .i64 n) ∧ wx.cell? ⟨w.heap.size, 2, none⟩ = some (.float .f64 f) ∧ wx.cell? ⟨w.heap.size, 3, none⟩ = some (.string s) ∧ wx.cell? ⟨w.heap.size + 1, 0, none⟩ = some (.int .i64 k2) ∧ wx.cell? ⟨w.heap.size + 1, 1, none⟩ = some (.int .i64 n2) ∧ wx.cell? ⟨w.heap.size + 1, 2, none⟩ = some (.float .f64 f2) ∧ wx.cell? ⟨w.heap.size + 1, 3, none⟩ = some (.string s2) ∧ w.heap.size + 1 + 1 < wx.heap.size ∧ Below w.heap.size w wx
section
variable {w W w2 : World} {k n : Int} {f : Nat} {s : ByteArray} {k2 n2 : Int} {f2 : Nat} {s2 : ByteArray}
theorem TwoBox.far {B : Nat} (h : TwoBox w W k n f s k2 n2 f2 s2) (hB : Below B W w2) (hw : w.heap.size + 1 < B) (hl : W.heap.size ≤ w2.heap.size) : TwoBox w w2 k n f s k2 n2 f2 s2 := by
  obtain ⟨a0, a1, a2, a3, b0, b1, b2, b3, l, hb⟩ := h
  have ha : ∀ o, w2.cell? ⟨w.heap.size, o, none⟩ = W.cell? ⟨w.heap.size, o, none⟩ := fun o => hB.cell (p := ⟨w.heap.size, o, none⟩) (by show w.heap.size < B; omega)
  have hc : ∀ o, w2.cell? ⟨w.heap.size + 1, o, none⟩ = W.cell? ⟨w.heap.size + 1, o, none⟩ := fun o => hB.cell (p := ⟨w.heap.size + 1, o, none⟩) hw
  exact ⟨(ha _).trans a0, (ha _).trans a1, (ha _).trans a2, (ha _).trans a3, (hc _).trans b0, (hc _).trans b1, (hc _).trans b2, (hc _).trans b3, by omega, hb.trans (hB.mono (by omega))⟩
theorem TwoBox.call (h : TwoBox w W k n f s k2 n2 f2 s2) (hB : Below W.heap.size W w2) : TwoBox w w2 k n f s k2 n2 f2 s2 := h.far hB (by have := h.2.2.2.2.2.2.2.2.1; omega) hB.size
theorem TwoBox.set4 (h : TwoBox w W k n f s k2 n2 f2 s2) (u0 u1 u2 u3 : Value) : TwoBox w ((((W.setCell ⟨w.heap.size + 1 + 1, 0, none⟩ u0).setCell ⟨w.heap.size + 1 + 1, 1, none⟩ u1).setCell ⟨w.heap.size + 1 + 1, 2, none⟩ u2).setCell ⟨w.heap.size + 1 + 1, 3, none⟩ u3) k n f s k2 n2 f2 s2 := by
  have hB : Below (w.heap.size + 1 + 1) W ((((W.setCell ⟨w.heap.size + 1 + 1, 0, none⟩ u0).setCell ⟨w.heap.size + 1 + 1, 1, none⟩ u1).setCell ⟨w.heap.size + 1 + 1, 2, none⟩ u2).setCell ⟨w.heap.size + 1 + 1, 3, none⟩ u3) :=
    ((((Below.refl _ _).setCell (p := ⟨w.heap.size + 1 + 1, 0, none⟩) (Nat.le_refl _) _).setCell (p := ⟨w.heap.size + 1 + 1, 1, none⟩) (Nat.le_refl _) _).setCell (p := ⟨w.heap.size + 1 + 1, 2, none⟩) (Nat.le_refl _) _).setCell (p := ⟨w.heap.size + 1 + 1, 3, none⟩) (Nat.le_refl _) _
  exact h.far hB (by omega) hB.size
end
theorem TwoIn.box {w W : World} {k n : Int} {f : Nat} {s : ByteArray} {k2 n2 : Int} {f2 : Nat} {s2 : ByteArray} (h : TwoIn w W k n f s k2 n2 f2 s2) : TwoBox w W k n f s k2 n2 f2 s2 :=
  ⟨h.1, h.2.1, h.2.2.1, h.2.2.2.1, h.2.2.2.2.1, h.2.2.2.2.2.1, h.2.2.2.2.2.2.1, h.2.2.2.2.2.2.2.1, h.2.2.2.2.2.2.2.2.2.1, h.2.2.2.2.2.2.2.2.2.2⟩

def notT (x : Int) : Int := if x < 0 then -1 else 1 - x
theorem notT_any (k n : Int) (f : Nat) (s : ByteArray) (w : World) : Calls Tryz.prog 34 #[vV k n f s] w (RetV (ofV (notT (truthZ k n))) w) := not_any k n f s w
/-- a truth that 'of' made, as a truth -/
theorem truth_of (t : Int) (h : -1 ≤ t ∧ t ≤ 1) : truthZ (ofK t) (ofN t) = t := by
  have : t = -1 ∨ t = 0 ∨ t = 1 := by omega
  rcases this with rfl | rfl | rfl <;> decide
def orT (x y : Int) : Int := notT (andT (notT x) (notT y))

set_option maxRecDepth 100000 in
set_option maxHeartbeats 4000000 in
theorem or_any (k n : Int) (f : Nat) (s : ByteArray) (k2 n2 : Int) (f2 : Nat) (s2 : ByteArray) (w : World) : Calls Tryz.prog 38 #[vV k n f s, vV k2 n2 f2 s2] w (RetV (ofV (orT (truthZ k n) (truthZ k2 n2))) w) := by
  have sf := store_float
  have KK := TwoIn.start w k n f s k2 n2 f2 s2
  have hx := truthZ_bd k n
  have hy := truthZ_bd k2 n2
  have HX := Lib.hid (fun W => notT_any k n f s W)
  have HY := Lib.hid (fun W => notT_any k2 n2 f2 s2 W)
  have hnx : -1 ≤ notT (truthZ k n) ∧ notT (truthZ k n) ≤ 1 := by unfold notT; split <;> omega
  have hny : -1 ≤ notT (truthZ k2 n2) ∧ notT (truthZ k2 n2) ≤ 1 := by unfold notT; split <;> omega
  have hA := fun W => and_any (ofK (notT (truthZ k n))) (ofN (notT (truthZ k n))) 0 ⟨#[]⟩ (ofK (notT (truthZ k2 n2))) (ofN (notT (truthZ k2 n2))) 0 ⟨#[]⟩ W
  rw [truth_of _ hnx, truth_of _ hny] at hA
  have hab : -1 ≤ andT (notT (truthZ k n)) (notT (truthZ k2 n2)) ∧ andT (notT (truthZ k n)) (notT (truthZ k2 n2)) ≤ 1 := by unfold andT; split <;> (try split) <;> omega
  have hN := fun W => notT_any (ofK (andT (notT (truthZ k n)) (notT (truthZ k2 n2)))) (ofN (andT (notT (truthZ k n)) (notT (truthZ k2 n2)))) 0 ⟨#[]⟩ W
  rw [truth_of _ hab] at hN
  have HA := Lib.hid hA
  have HN := Lib.hid hN
  clear hA hN hab hnx hny hx hy
  have q := KK.2.2.2.2.2.2.2.2.1
  have l0 := KK.2.2.2.2.2.2.2.2.2.1
  have hr := Lib.hid (show ∀ t : Int, (if t < 0 then -1 else 1 - t) = notT t from fun _ => rfl)
  have KA := KK.box
  obtain ⟨a0, a1, a2, a3, b0, b1, b2, b3, _, hbb⟩ := id KA
  go_enter Tryz.func38, Tryz.ntmps38
  go_wp2_with fail
  have KB := KA.call (Below.refl _ _).drew
  go_region_held3 (fun wx => wx.cell? ⟨w.heap.size, 0, none⟩ = some (.int .i64 k) ∧ wx.cell? ⟨w.heap.size, 1, none⟩ = some (.int .i64 n) ∧ wx.cell? ⟨w.heap.size, 2, none⟩ = some (.float .f64 f) ∧ wx.cell? ⟨w.heap.size, 3, none⟩ = some (.string s) ∧ wx.cell? ⟨w.heap.size + 1, 0, none⟩ = some (.int .i64 k2) ∧ wx.cell? ⟨w.heap.size + 1, 1, none⟩ = some (.int .i64 n2) ∧ wx.cell? ⟨w.heap.size + 1, 2, none⟩ = some (.float .f64 f2) ∧ wx.cell? ⟨w.heap.size + 1, 3, none⟩ = some (.string s2) ∧ w.heap.size + 1 + 1 < wx.heap.size ∧ Below w.heap.size w wx)
    (first
      | (with_reducible exact KB)
      | (with_reducible assumption)
      | (with_reducible exact TwoBox.call (W := _) (by assumption) hB2)
      | (with_reducible exact TwoBox.set4 (W := _) (by assumption) _ _ _ _)
      | fail)
    (first
      | (go_at_call 34; (with_reducible refine (HX.out _).mono ?_); rintro e w2 ⟨rfl, hB2⟩; have hz := hB2.size; have q := (hB2.block (w.heap.size + 1 + 1) l0).trans q; have l0 : w.heap.size + 1 + 1 < w2.heap.size := Nat.lt_of_lt_of_le l0 hz)
      | (go_at_call 34; (with_reducible refine (HY.out _).mono ?_); rintro e w2 ⟨rfl, hB2⟩; have hz := hB2.size; have q := (hB2.block (w.heap.size + 1 + 1) l0).trans q; have l0 : w.heap.size + 1 + 1 < w2.heap.size := Nat.lt_of_lt_of_le l0 hz)
      | (go_at_call 36; (with_reducible refine (HA.out _).mono ?_); rintro e w2 ⟨rfl, hB2⟩; have hz := hB2.size; have q := (hB2.block (w.heap.size + 1 + 1) l0).trans q; have l0 : w.heap.size + 1 + 1 < w2.heap.size := Nat.lt_of_lt_of_le l0 hz)
      | (go_at_call 34; (with_reducible refine (HN.out _).mono ?_); rintro e w2 ⟨rfl, hB2⟩; have hz := hB2.size; have q := (hB2.block (w.heap.size + 1 + 1) l0).trans q; have l0 : w.heap.size + 1 + 1 < w2.heap.size := Nat.lt_of_lt_of_le l0 hz; obtain ⟨⟨d0, d1, d2, d3⟩, ⟨f0, f1, f2', f3⟩, l1⟩ := result_kept q (Below.refl _ _))
      | fail)
  all_goals
    rename_i hHeld
    obtain ⟨_, _, _, _, _, _, _, _, _, hbb⟩ := hHeld
    go_wp2_with fail
    exact bodyPost_ret (v := ofV (orT (truthZ k n) (truthZ k2 n2))) (by simp [results, Tryz.results38, go_sem, orT, d0, d1, d2, d3]) rfl ⟨rfl, hbb⟩
end Go.Proofs.YtjlpjooaclfnlaaGreatDoor
