/- The walks of the document's And and Or. -/
import Derived.Test.YtjlpjooaclfnlaaGreatDoorOr
namespace Go.Proofs.YtjlpjooaclfnlaaGreatDoor
open Go.RowKit
def rofK (t : Int) : Int := if t = 1 then 0 else 4
def rofN (t : Int) : Int := if t = 2 then 1 else 0
theorem rof_eq (t : Int) : rofV t = vV (rofK t) (rofN t) 0 ⟨#[]⟩ := by
  unfold rofV rofK rofN
  by_cases h : t = 1
  · subst h; rfl
  · by_cases h2 : t = 2 <;> simp [h, h2, bZ, vV]
theorem rof_at (t : Int) (w : World) : Calls Tryz.prog 54 #[.int .i64 t] w (RetV (vV (rofK t) (rofN t) 0 ⟨#[]⟩) w) := rof_eq t ▸ rof_any t w

set_option maxRecDepth 100000 in
set_option maxHeartbeats 4000000 in
theorem rand_any (k n : Int) (f : Nat) (s : ByteArray) (k2 n2 : Int) (f2 : Nat) (s2 : ByteArray) (w : World) : Calls Tryz.prog 37 #[vV k n f s, vV k2 n2 f2 s2] w (RetV (rofV (min (truthR k n) (truthR k2 n2))) w) := by
  have sf := store_float
  have KK := TwoIn.start w k n f s k2 n2 f2 s2
  have HX := Lib.hid (fun W => rtruth_any k n (.float .f64 f) (.string s) W)
  have HY := Lib.hid (fun W => rtruth_any k2 n2 (.float .f64 f2) (.string s2) W)
  generalize truthR k n = x at HX ⊢
  generalize truthR k2 n2 = y at HY ⊢
  have HN := Lib.hid rof_at
  have q := KK.2.2.2.2.2.2.2.2.1
  have l0 := KK.2.2.2.2.2.2.2.2.2.1
  have KA := KK.box
  obtain ⟨a0, a1, a2, a3, b0, b1, b2, b3, _, hbb⟩ := id KA
  rcases Int.lt_trichotomy x y with hxy | hxy | hxy
  case' inl =>
    have hm : min x y = x := by omega
    have c1 : (x < y) = True := eq_true hxy
    have c2 : (y < x) = False := eq_false (by omega)
    have c3 : decide (x < y) = true := by simpa using hxy
    have c4 : decide (y < x) = false := by simpa using (show ¬ y < x by omega)
  case' inr.inl =>
    subst hxy
    have hm : min x x = x := by omega
    have c1 : (x < x) = False := eq_false (by omega)
    have c3 : decide (x < x) = false := by simp
  case' inr.inr =>
    have hm : min x y = y := by omega
    have c1 : (x < y) = False := eq_false (by omega)
    have c2 : (y < x) = True := eq_true hxy
    have c3 : decide (x < y) = false := by simpa using (show ¬ x < y by omega)
    have c4 : decide (y < x) = true := by simpa using hxy
  all_goals
  rw [hm]
  clear hm; (try clear hxy)
  go_enter Tryz.func37, Tryz.ntmps37
  go_wp2_with fail
  have KB := KA.call (Below.refl _ _).drew
  go_region_held3 (fun wx => wx.cell? ⟨w.heap.size, 0, none⟩ = some (.int .i64 k) ∧ wx.cell? ⟨w.heap.size, 1, none⟩ = some (.int .i64 n) ∧ wx.cell? ⟨w.heap.size, 2, none⟩ = some (.float .f64 f) ∧ wx.cell? ⟨w.heap.size, 3, none⟩ = some (.string s) ∧ wx.cell? ⟨w.heap.size + 1, 0, none⟩ = some (.int .i64 k2) ∧ wx.cell? ⟨w.heap.size + 1, 1, none⟩ = some (.int .i64 n2) ∧ wx.cell? ⟨w.heap.size + 1, 2, none⟩ = some (.float .f64 f2) ∧ wx.cell? ⟨w.heap.size + 1, 3, none⟩ = some (.string s2) ∧ w.heap.size + 1 + 1 < wx.heap.size ∧ Below w.heap.size w wx)
    (first
      | (with_reducible exact KB)
      | (with_reducible assumption)
      | (with_reducible exact TwoBox.call (W := _) (by assumption) hB2)
      | (with_reducible exact TwoBox.set4 (W := _) (by assumption) _ _ _ _)
      | fail)
    (first
      | (go_at_call 33; (with_reducible refine (HX.out _).mono ?_); rintro e w2 ⟨rfl, hB2⟩; have hz := hB2.size; have q := (hB2.block (w.heap.size + 1 + 1) l0).trans q; have l0 : w.heap.size + 1 + 1 < w2.heap.size := Nat.lt_of_lt_of_le l0 hz)
      | (go_at_call 33; (with_reducible refine (HY.out _).mono ?_); rintro e w2 ⟨rfl, hB2⟩; have hz := hB2.size; have q := (hB2.block (w.heap.size + 1 + 1) l0).trans q; have l0 : w.heap.size + 1 + 1 < w2.heap.size := Nat.lt_of_lt_of_le l0 hz)
      | (go_at_call 54; (with_reducible refine (HN.out _ _).mono ?_); rintro e w2 ⟨rfl, hB2⟩; have hz := hB2.size; have q := (hB2.block (w.heap.size + 1 + 1) l0).trans q; have l0 : w.heap.size + 1 + 1 < w2.heap.size := Nat.lt_of_lt_of_le l0 hz; obtain ⟨⟨d0, d1, d2, d3⟩, ⟨f0, f1, f2', f3⟩, l1⟩ := result_kept q (Below.refl _ _))
      | fail)
  all_goals
    rename_i hHeld
    obtain ⟨_, _, _, _, _, _, _, _, _, hbb⟩ := hHeld
    go_wp2_with fail
    first
      | ((refine bodyPost_ret (v := vV (rofK x) (rofN x) 0 ⟨#[]⟩) ?_ rfl ⟨congrArg Ending.returned (rof_eq x).symm, hbb⟩); (simp [results, Tryz.results37, go_sem, d0, d1, d2, d3]; done))
      | ((refine bodyPost_ret (v := vV (rofK y) (rofN y) 0 ⟨#[]⟩) ?_ rfl ⟨congrArg Ending.returned (rof_eq y).symm, hbb⟩); (simp [results, Tryz.results37, go_sem, d0, d1, d2, d3]; done))
      | fail

set_option maxRecDepth 100000 in
set_option maxHeartbeats 4000000 in
theorem ror_any (k n : Int) (f : Nat) (s : ByteArray) (k2 n2 : Int) (f2 : Nat) (s2 : ByteArray) (w : World) : Calls Tryz.prog 39 #[vV k n f s, vV k2 n2 f2 s2] w (RetV (rofV (max (truthR k n) (truthR k2 n2))) w) := by
  have sf := store_float
  have KK := TwoIn.start w k n f s k2 n2 f2 s2
  have HX := Lib.hid (fun W => rtruth_any k n (.float .f64 f) (.string s) W)
  have HY := Lib.hid (fun W => rtruth_any k2 n2 (.float .f64 f2) (.string s2) W)
  generalize truthR k n = x at HX ⊢
  generalize truthR k2 n2 = y at HY ⊢
  have HN := Lib.hid rof_at
  have q := KK.2.2.2.2.2.2.2.2.1
  have l0 := KK.2.2.2.2.2.2.2.2.2.1
  have KA := KK.box
  obtain ⟨a0, a1, a2, a3, b0, b1, b2, b3, _, hbb⟩ := id KA
  rcases Int.lt_trichotomy x y with hxy | hxy | hxy
  case' inl =>
    have hm : max x y = y := by omega
    have c1 : (x < y) = True := eq_true hxy
    have c2 : (y < x) = False := eq_false (by omega)
    have c3 : decide (x < y) = true := by simpa using hxy
    have c4 : decide (y < x) = false := by simpa using (show ¬ y < x by omega)
  case' inr.inl =>
    subst hxy
    have hm : max x x = x := by omega
    have c1 : (x < x) = False := eq_false (by omega)
    have c3 : decide (x < x) = false := by simp
  case' inr.inr =>
    have hm : max x y = x := by omega
    have c1 : (x < y) = False := eq_false (by omega)
    have c2 : (y < x) = True := eq_true hxy
    have c3 : decide (x < y) = false := by simpa using (show ¬ x < y by omega)
    have c4 : decide (y < x) = true := by simpa using hxy
  all_goals
  rw [hm]
  clear hm; (try clear hxy)
  go_enter Tryz.func39, Tryz.ntmps39
  go_wp2_with fail
  have KB := KA.call (Below.refl _ _).drew
  go_region_held3 (fun wx => wx.cell? ⟨w.heap.size, 0, none⟩ = some (.int .i64 k) ∧ wx.cell? ⟨w.heap.size, 1, none⟩ = some (.int .i64 n) ∧ wx.cell? ⟨w.heap.size, 2, none⟩ = some (.float .f64 f) ∧ wx.cell? ⟨w.heap.size, 3, none⟩ = some (.string s) ∧ wx.cell? ⟨w.heap.size + 1, 0, none⟩ = some (.int .i64 k2) ∧ wx.cell? ⟨w.heap.size + 1, 1, none⟩ = some (.int .i64 n2) ∧ wx.cell? ⟨w.heap.size + 1, 2, none⟩ = some (.float .f64 f2) ∧ wx.cell? ⟨w.heap.size + 1, 3, none⟩ = some (.string s2) ∧ w.heap.size + 1 + 1 < wx.heap.size ∧ Below w.heap.size w wx)
    (first
      | (with_reducible exact KB)
      | (with_reducible assumption)
      | (with_reducible exact TwoBox.call (W := _) (by assumption) hB2)
      | (with_reducible exact TwoBox.set4 (W := _) (by assumption) _ _ _ _)
      | fail)
    (first
      | (go_at_call 33; (with_reducible refine (HX.out _).mono ?_); rintro e w2 ⟨rfl, hB2⟩; have hz := hB2.size; have q := (hB2.block (w.heap.size + 1 + 1) l0).trans q; have l0 : w.heap.size + 1 + 1 < w2.heap.size := Nat.lt_of_lt_of_le l0 hz)
      | (go_at_call 33; (with_reducible refine (HY.out _).mono ?_); rintro e w2 ⟨rfl, hB2⟩; have hz := hB2.size; have q := (hB2.block (w.heap.size + 1 + 1) l0).trans q; have l0 : w.heap.size + 1 + 1 < w2.heap.size := Nat.lt_of_lt_of_le l0 hz)
      | (go_at_call 54; (with_reducible refine (HN.out _ _).mono ?_); rintro e w2 ⟨rfl, hB2⟩; have hz := hB2.size; have q := (hB2.block (w.heap.size + 1 + 1) l0).trans q; have l0 : w.heap.size + 1 + 1 < w2.heap.size := Nat.lt_of_lt_of_le l0 hz; obtain ⟨⟨d0, d1, d2, d3⟩, ⟨f0, f1, f2', f3⟩, l1⟩ := result_kept q (Below.refl _ _))
      | fail)
  all_goals
    rename_i hHeld
    obtain ⟨_, _, _, _, _, _, _, _, _, hbb⟩ := hHeld
    go_wp2_with fail
    first
      | ((refine bodyPost_ret (v := vV (rofK x) (rofN x) 0 ⟨#[]⟩) ?_ rfl ⟨congrArg Ending.returned (rof_eq x).symm, hbb⟩); (simp [results, Tryz.results39, go_sem, d0, d1, d2, d3]; done))
      | ((refine bodyPost_ret (v := vV (rofK y) (rofN y) 0 ⟨#[]⟩) ?_ rfl ⟨congrArg Ending.returned (rof_eq y).symm, hbb⟩); (simp [results, Tryz.results39, go_sem, d0, d1, d2, d3]; done))
      | fail
end Go.Proofs.YtjlpjooaclfnlaaGreatDoor
