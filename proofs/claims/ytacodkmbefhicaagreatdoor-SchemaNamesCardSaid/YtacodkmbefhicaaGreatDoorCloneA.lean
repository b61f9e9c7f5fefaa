/- The walks of slices.Clone over columns, of clone. -/
import Derived.Test.YtacodkmbefhicaaGreatDoorCols
import Derived.Lib.SliceRun
namespace Go.Proofs.YtacodkmbefhicaaGreatDoor
open Go.RowKit

theorem info25 : (Tryz.prog.info? 25).map (fun i => (i.zero, i.size, i.bytes)) = some (some (.agg #[.string ⟨#[]⟩, .int .i64 0, .bool false]), 3, 32) := by kernel_rfl
/-- the cells of elements side by side -/
theorem flat_get {K : Nat} {ls : List (List Value)} (h : ∀ x ∈ ls, x.length = K) {j i : Nat} {x : List Value} {u : Value} (hx : ls[j]? = some x) (hu : x[i]? = some u) : (ls.flatten)[j * K + i]? = some u := by
  induction ls generalizing j with
  | nil => simp at hx
  | cons y ls ih =>
    have hy := h y (by simp)
    cases j with
    | zero =>
      obtain rfl : y = x := by simpa using hx
      have hi := (List.getElem?_eq_some_iff.1 hu).1
      rw [List.flatten_cons, List.getElem?_append_left (by omega), Nat.zero_mul, Nat.zero_add]
      exact hu
    | succ j =>
      have h2 := ih (fun z hz => h z (by simp [hz])) (j := j) (by simpa using hx)
      rw [List.flatten_cons, List.getElem?_append_right (by rw [hy, Nat.succ_mul]; omega), hy, Nat.succ_mul, show j * K + K + i - K = j * K + i by omega]
      exact h2
theorem flat_len {K : Nat} {ls : List (List Value)} (h : ∀ x ∈ ls, x.length = K) : ls.flatten.length = ls.length * K := by
  induction ls with
  | nil => simp
  | cons y ls ih => rw [List.flatten_cons, List.length_append, ih (fun z hz => h z (by simp [hz])), h y (by simp), List.length_cons, Nat.succ_mul, Nat.add_comm]
theorem flat_some {K : Nat} (hK : 0 < K) {ls : List (List Value)} (h : ∀ x ∈ ls, x.length = K) {p : Nat} {u : Value} (hp : (ls.flatten)[p]? = some u) : ∃ x, ls[p / K]? = some x ∧ x[p % K]? = some u := by
  have hl := (List.getElem?_eq_some_iff.1 hp).1
  rw [flat_len h] at hl
  have hj : p / K < ls.length := Nat.div_lt_of_lt_mul (by rw [Nat.mul_comm]; exact hl)
  have hx := List.getElem?_eq_getElem hj
  have hm := Nat.mod_lt p hK
  have hxl := h _ (List.getElem_mem hj)
  have hu : (ls[p / K])[p % K]? = some (ls[p / K])[p % K] := List.getElem?_eq_getElem (by omega)
  have h2 := flat_get h hx hu
  rw [show p / K * K + p % K = p by rw [Nat.mul_comm]; exact Nat.div_add_mod p K, hp] at h2
  exact ⟨_, hx, by rw [hu]; exact h2.symm⟩
/-- a row of the call's own reads as elements -/
theorem own_cells {w : World} {base e K n : Nat} {v : Value} {ls : List (List Value)} (h : w.ownsRow base e K v n ls.flatten) (hl : ∀ x ∈ ls, x.length = K) (hn : n = ls.length) : ∃ A c, v = .slice A n c ∧ n ≤ c ∧ CellsAt w K A ls ∧ (∀ a, A = some a → base ≤ a.block ∧ a.block < w.heap.size) ∧ (A = none → c = 0 ∧ ls = []) := by
  rcases h.2 with ⟨rfl, h0⟩ | ⟨g, cap, cur, rfl, hb, hh, hnc, hcm, _, ht⟩
  · have : ls = [] := List.length_eq_zero_iff.1 (by omega)
    subst this
    exact ⟨none, 0, by rw [h0], by omega, CellsAt.nil_at _ _ _, (fun a h => by cases h), fun _ => ⟨rfl, rfl⟩⟩
  · refine ⟨some ⟨g, 0, none⟩, cap, rfl, hnc, ⟨by rw [← hn]; omega, Or.inr ⟨g, 0, rfl, heap_lt hh, fun j x hx => ⟨hl x (List.mem_of_getElem? hx), fun i u hu => ?_⟩⟩⟩, (fun a h => by cases h; exact ⟨hb, heap_lt hh⟩), fun h => by cases h⟩
    have e := flat_get hl hx hu
    rw [← ht] at e
    rw [cell_of_row w g _ _ _ _ hh]
    have hlt := (List.getElem?_eq_some_iff.1 e).1
    rw [List.length_take] at hlt
    rw [List.getElem?_take_of_lt (by omega)] at e
    rw [Nat.zero_add]
    simpa using e
theorem col_len (l : List Col) : ∀ x ∈ l.map colL, x.length = 3 := by
  intro x hx
  obtain ⟨c, _, rfl⟩ := List.mem_map.1 hx
  rfl
theorem col_one (l : List Col) : ∀ u ∈ (l.map colL).flatten, u.oneCell' = true := by
  intro u hu
  obtain ⟨x, hx, hu⟩ := List.mem_flatten.1 hu
  obtain ⟨c, _, rfl⟩ := List.mem_map.1 hx
  unfold colL at hu
  simp only [List.mem_cons, List.mem_nil_iff, or_false] at hu
  rcases hu with rfl | rfl | rfl <;> rfl
theorem nil_cols (W : World) (a : Option Addr) (n c : Nat) : (binOp .eql 26 (.slice a n c) (.slice none 0 0)).run Tryz.prog W = .ok (.bool a.isNone) W := Lib.run_eql_slice_nil W 26 25 a n c 0 0 Tryz.underlying26
/-- what a clone answers: a slice of its own that reads as the columns -/
def ClonedP (w : World) (A : Option Addr) (l : List Col) (v : Value) (w' : World) : Prop := ∃ A' c', v = .slice A' l.length c' ∧ l.length ≤ c' ∧ ColsAt w' A' l ∧ (∀ a, A' = some a → w.heap.size ≤ a.block ∧ a.block < w'.heap.size) ∧ (A' = none → c' = 0) ∧ (A' = none ↔ A = none)
set_option maxRecDepth 100000 in
set_option maxHeartbeats 4000000 in
theorem clone_cols (A : Option Addr) (c : Nat) (l : List Col) (w : World) (h : ColsAt w A l) (hA : A = none → l = [] ∧ c = 0) (hn : l.length ≤ 2000) : Calls Tryz.prog 27 #[.slice A l.length c] w fun e w' => ∃ v, e = .returned v ∧ Below w.heap.size w w' ∧ ClonedP w A l v w' := by
  cases A with
  | none =>
    obtain ⟨rfl, rfl⟩ := hA rfl
    clear h
    show Calls Tryz.prog 27 #[.slice none 0 0] w _
    have hq := nil_cols
    go_enter Tryz.func27, Tryz.ntmps27
    go_wp2_with fail
    go_ret
    exact ⟨_, rfl, Below.refl _ _, none, 0, rfl, Nat.le_refl _, CellsAt.nil_at _ _ _, (fun a h => by cases h), fun _ => rfl, Iff.rfl⟩
  | some ad =>
    have HA := Lib.hid h
    clear hA h
    have hq := nil_cols
    have hone := info_parts info25
    obtain ⟨i0, hi0, hz0, hz1, hz2⟩ := hone
    have HI := Lib.hid hi0
    have HZ := Lib.hid hz0
    have HZ1 := Lib.hid hz1
    have HZ2 := Lib.hid hz2
    have HCC := Lib.hid (show ∀ j u, (l.map colL).flatten[j]? = some u → w.cell? (ad.add j) = some u from fun j u hj => by
      obtain ⟨x, hx, hu⟩ := flat_some (by decide : 0 < 3) (col_len l) hj
      rcases HA.out.2 with h0 | ⟨b', off', h1, h2, h3⟩
      · rw [h0] at hx; simp at hx
      · cases h1
        have e := (h3 _ x hx).2 _ u hu
        rw [show off' + j / 3 * 3 + j % 3 = off' + j by omega] at e
        rw [Addr.add_lit]
        exact e)
    clear hi0 hz0 hz1 hz2
    go_enter Tryz.func27, Tryz.ntmps27
    go_wp2_with (at_builtin; refine wpList_append_own_at _ rfl _ _ 26 rfl w.heap.size 25 i0 (.agg #[.string ⟨#[]⟩, .int .i64 0, .bool false]) 3 32 Tryz.underlying26 HI.out HZ.out HZ1.out HZ2.out rfl (by omega) _ _ _ rfl (World.ownsRow_made w #[] 0 (Nat.le_refl _) (Nat.zero_le _) (by simp)) ad l.length c (l.map colL).flatten (by rfl) ?qc1 ?qc2 ?qc3 ?qc4 ?qc5 ?qc6 ?_)
    case qc1 => rw [flat_len (col_len l), List.length_map]
    case qc2 => exact fun j u hj => Lib.cell?_alloc_some _ (HCC.out j u hj)
    case qc3 => exact col_one l
    case qc4 => unfold maxLen; omega
    case qc5 => omega
    case qc6 => simp
    intro v' w1 hown hgrow hnil hat
    have HOW := Lib.hid hown
    have HGR := Lib.hid hgrow
    have HNI := Lib.hid hnil
    clear hown hgrow hnil hat
    go_wp2
    go_ret
    have ho := HOW.out
    obtain ⟨A', c', rfl, h1, h2, h3, h4⟩ := own_cells ho (col_len l) (by rw [List.length_map])
    refine ⟨_, rfl, ((Below.refl _ w).alloc (Nat.le_refl _) _).grown HGR.out (by simp) (by intro k hk; simp [Value.ownBlock] at hk; omega), A', c', rfl, h1, h2, h3, fun h => (h4 h).1, ?_⟩
    constructor
    · intro h
      exfalso
      obtain ⟨e1, e2⟩ := h4 h
      have e3 := List.map_eq_nil_iff.1 e2
      subst h e1 e3
      exact HNI.out rfl
    · intro h; cases h
theorem CellsAt.setFar {w : World} {K : Nat} {A : Option Addr} {ls : List (List Value)} (h : CellsAt w K A ls) (b j : Nat) (v : Value) (hb : ∀ a, A = some a → a.block ≠ b) : CellsAt (w.setCell ⟨b, j, none⟩ v) K A ls := by
  refine ⟨h.1, h.2.imp id fun ⟨g, off, h1, h2, h3⟩ => ⟨g, off, h1, by simp only [World.setCell, Array.size_modify]; exact h2, fun i x hx => ⟨(h3 i x hx).1, fun n u hu => ?_⟩⟩⟩
  have hg : g ≠ b := hb ⟨g, off, none⟩ h1
  refine Eq.trans ?_ ((h3 i x hx).2 n u hu)
  unfold World.cell?
  rw [heap_setFar v hg]
/-- grown from a base world; a row of columns above some place stands -/
def FarP (w : World) (B : Nat) (A : Option Addr) (l : List Col) (W : World) : Prop := Below w.heap.size w W ∧ ColsAt W A l ∧ (∀ a, A = some a → B ≤ a.block ∧ a.block < W.heap.size)
theorem FarP.set {w W : World} {B : Nat} {A : Option Addr} {l : List Col} (h : FarP w B A l W) (b j : Nat) (v : Value) (h1 : w.heap.size ≤ b) (h2 : b < B) : FarP w B A l (W.setCell ⟨b, j, none⟩ v) :=
  ⟨h.1.setCell (p := ⟨b, j, none⟩) h1 _, CellsAt.setFar h.2.1 b j v (fun a ha => by have := h.2.2 a ha; omega), fun a ha => by simp only [World.setCell, Array.size_modify]; exact h.2.2 a ha⟩
/-- a table whose columns are a fresh copy -/
def TabCopy (w : World) (t : Tab) (l : List Col) (t' : Tab) (w' : World) : Prop := t'.name = t.name ∧ t'.root = t.root ∧ t'.next = t.next ∧ t'.rows = t.rows ∧ t'.cn = l.length ∧ l.length ≤ t'.cc ∧ ColsAt w' t'.ca l ∧ (∀ a, t'.ca = some a → w.heap.size ≤ a.block ∧ a.block < w'.heap.size) ∧ (t'.ca = none → t'.cc = 0) ∧ (t'.ca = none ↔ t.ca = none)
set_option maxRecDepth 100000 in
set_option maxHeartbeats 4000000 in
theorem clone_tab (t : Tab) (l : List Col) (w : World) (h : ColsAt w t.ca l) (hl : t.cn = l.length) (hA : t.ca = none → l = [] ∧ t.cc = 0) (hn : l.length ≤ 2000) : Calls Tryz.prog 13 #[.agg (tabL t).toArray] w fun e w' => ∃ t', e = .returned (.agg (tabL t').toArray) ∧ Below w.heap.size w w' ∧ TabCopy w t l t' w' := by
  obtain ⟨tn, ta, tl, tc, tr, tx, ts⟩ := t
  obtain rfl : tl = l.length := hl
  show Calls Tryz.prog 13 #[.agg #[.string tn, .slice ta l.length tc, .int .i64 tr, .int .i64 tx, .int .i64 ts]] w _
  have HC := Lib.hid (show ∀ W, Below w.heap.size w W → Calls Tryz.prog 27 #[.slice ta l.length tc] W fun e w' => ∃ v, e = .returned v ∧ Below W.heap.size W w' ∧ ClonedP W ta l v w' from fun W hB => clone_cols ta tc l W (CellsAt.keep hB h) hA hn)
  have HW := Lib.hid (show Below w.heap.size w ((w.alloc (.cells #[.string tn, .slice ta l.length tc, .int .i64 tr, .int .i64 tx, .int .i64 ts] 35)).alloc (.cells #[.string ⟨#[]⟩, .slice none 0 0, .int .i64 0, .int .i64 0, .int .i64 0] 35)) from (below1 w _).alloc (by simp) _)
  have h0 := heap_alloc_new (w.alloc (.cells #[.string tn, .slice ta l.length tc, .int .i64 tr, .int .i64 tx, .int .i64 ts] 35)) (.cells #[.string ⟨#[]⟩, .slice none 0 0, .int .i64 0, .int .i64 0, .int .i64 0] 35)
  rw [World.size_alloc] at h0
  have HQ1 := Lib.hid h0
  have HQ0 := Lib.hid (show ((w.alloc (.cells #[.string tn, .slice ta l.length tc, .int .i64 tr, .int .i64 tx, .int .i64 ts] 35)).alloc (.cells #[.string ⟨#[]⟩, .slice none 0 0, .int .i64 0, .int .i64 0, .int .i64 0] 35)).heap[w.heap.size]? = some (.cells #[.string tn, .slice ta l.length tc, .int .i64 tr, .int .i64 tx, .int .i64 ts] 35) by rw [heap_alloc_old _ _ (by simp)]; exact heap_alloc_new w _)
  clear h hA h0
  go_enter Tryz.func13, Tryz.ntmps13
  go_wp2_with (first
    | (go_at_call 27; (with_reducible refine (HC.out _ HW.out).mono ?_); rintro e w2 ⟨v, rfl, hB, A', c', rfl, hq⟩
       have hq0 := (hB.block w.heap.size (by simp; omega)).trans HQ0.out
       have hq1 := (hB.block (w.heap.size + 1) (by simp)).trans HQ1.out
       have HB := Lib.hid (HW.out.trans (hB.mono HW.out.size))
       have HP := Lib.hid hq
       have r0 := cell_of_row _ _ 0 _ _ _ hq0
       have r1 := cell_of_row _ _ 1 _ _ _ hq0
       have r2 := cell_of_row _ _ 2 _ _ _ hq0
       have r3 := cell_of_row _ _ 3 _ _ _ hq0
       have r4 := cell_of_row _ _ 4 _ _ _ hq0
       have g1 := frozen_of_row _ _ 1 _ _ hq0
       have s0 := cell_of_row _ _ 0 _ _ _ hq1
       have s1 := cell_of_row _ _ 1 _ _ _ hq1
       have s2 := cell_of_row _ _ 2 _ _ _ hq1
       have s3 := cell_of_row _ _ 3 _ _ _ hq1
       have s4 := cell_of_row _ _ 4 _ _ _ hq1
       have f0 := frozen_of_row _ _ 0 _ _ hq1
       have f1 := frozen_of_row _ _ 1 _ _ hq1
       have f2 := frozen_of_row _ _ 2 _ _ hq1
       have f3 := frozen_of_row _ _ 3 _ _ hq1
       have f4 := frozen_of_row _ _ 4 _ _ hq1
       clear hB hq hq0 hq1)
    | fail)
  refine bodyPost_ret (v := .agg #[.string tn, .slice A' l.length c', .int .i64 tr, .int .i64 tx, .int .i64 ts]) (by simp [results, Tryz.results13, go_sem, s0, s1, s2, s3, s4]) rfl ?_
  obtain ⟨p1, p2, p3, p4, p5⟩ := HP.out
  have hF : FarP w (w.heap.size + 2) A' l w2 := ⟨HB.out, p2, fun a ha => by have := p3 a ha; simp at this; omega⟩
  have hG := ((((((hF.set w.heap.size 1 (.slice A' l.length c') (Nat.le_refl _) (by omega)).set (w.heap.size + 1) 0 (.string tn) (by omega) (by omega)).set (w.heap.size + 1) 1 (.slice A' l.length c') (by omega) (by omega)).set (w.heap.size + 1) 2 (.int .i64 tr) (by omega) (by omega)).set (w.heap.size + 1) 3 (.int .i64 tx) (by omega) (by omega)).set (w.heap.size + 1) 4 (.int .i64 ts) (by omega) (by omega))
  exact ⟨⟨tn, A', l.length, c', tr, tx, ts⟩, rfl, hG.1, rfl, rfl, rfl, rfl, rfl, p1, hG.2.1, fun a ha => by have := hG.2.2 a ha; omega, p4, p5⟩
end Go.Proofs.YtacodkmbefhicaaGreatDoor
