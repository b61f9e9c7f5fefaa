/- The walks of slices.Clone over columns, of clone. -/
import Derived.Test.YtcgpflkaejbkhaaGreatDoorQAF
import Derived.Lib.SliceRun
import Derived.Deep.RegionLaw
import Derived.Deep.RegionHeld3
import Derived.Laws.Cover1
namespace Go.Proofs.YtcgpflkaejbkhaaGreatDoor
open Go.RowKit

theorem info25 : (Tryz.prog.info? 42).map (fun i => (i.zero, i.size, i.bytes)) = some (some (.agg #[.string ⟨#[]⟩, .int .i64 0, .bool false]), 3, 32) := by kernel_rfl
theorem flat_get {K : Nat} {ls : List (List Value)} (h : ∀ x ∈ ls, x.length = K) {j i : Nat} {x : List Value} {u : Value} (hx : ls[j]? = some x) (hu : x[i]? = some u) : (ls.flatten)[j * K + i]? = some u := by
 induction ls generalizing j with
 | nil => simp at hx
 | cons y ls ih =>
   have hy := h y (by simp)
   cases j with
   | zero =>
     obtain rfl : y = x := by simpa using hx
     have hi := (List.getElem?_eq_some_iff.1 hu).1
     rw [List.flatten_cons, List.getElem?_append_left (by omega), Nat.zero_mul, Nat.zero_add]
     exact hu
   | succ j =>
     have h2 := ih (fun z hz => h z (by simp [hz])) (j := j) (by simpa using hx)
     rw [List.flatten_cons, List.getElem?_append_right (by rw [hy, Nat.succ_mul]; omega), hy, Nat.succ_mul, show j * K + K + i - K = j * K + i by omega]
     exact h2
theorem flat_len {K : Nat} {ls : List (List Value)} (h : ∀ x ∈ ls, x.length = K) : ls.flatten.length = ls.length * K := by
 induction ls with
 | nil => simp
 | cons y ls ih => rw [List.flatten_cons, List.length_append, ih (fun z hz => h z (by simp [hz])), h y (by simp), List.length_cons, Nat.succ_mul, Nat.add_comm]
theorem flat_some {K : Nat} (hK : 0 < K) {ls : List (List Value)} (h : ∀ x ∈ ls, x.length = K) {p : Nat} {u : Value} (hp : (ls.flatten)[p]? = some u) : ∃ x, ls[p / K]? = some x ∧ x[p % K]? = some u := by
 have hl := (List.getElem?_eq_some_iff.1 hp).1
 rw [flat_len h] at hl
 have hj : p / K < ls.length := Nat.div_lt_of_lt_mul (by rw [Nat.mul_comm]; exact hl)
 have hx := List.getElem?_eq_getElem hj
 have hm := Nat.mod_lt p hK
 have hxl := h _ (List.getElem_mem hj)
 have hu : (ls[p / K])[p % K]? = some (ls[p / K])[p % K] := List.getElem?_eq_getElem (by omega)
 have h2 := flat_get h hx hu
 rw [show p / K * K + p % K = p by rw [Nat.mul_comm]; exact Nat.div_add_mod p K, hp] at h2
 exact ⟨_, hx, by rw [hu]; exact h2.symm⟩
theorem own_cells {w : World} {base e K n : Nat} {v : Value} {ls : List (List Value)} (h : w.ownsRow base e K v n ls.flatten) (hl : ∀ x ∈ ls, x.length = K) (hn : n = ls.length) : ∃ A c, v = .slice A n c ∧ n ≤ c ∧ CellsAt w K A ls ∧ (∀ a, A = some a → base ≤ a.block ∧ a.block < w.heap.size) ∧ (A = none → c = 0 ∧ ls = []) := by
 rcases h.2 with ⟨rfl, h0⟩ | ⟨g, cap, cur, rfl, hb, hh, hnc, hcm, _, ht⟩
 · have : ls = [] := List.length_eq_zero_iff.1 (by omega)
   subst this
   exact ⟨none, 0, by rw [h0], by omega, CellsAt.nil_at _ _ _, (fun a h => by cases h), fun _ => ⟨rfl, rfl⟩⟩
 · refine ⟨some ⟨g, 0, none⟩, cap, rfl, hnc, ⟨by rw [← hn]; omega, Or.inr ⟨g, 0, rfl, heap_lt hh, fun j x hx => ⟨hl x (List.mem_of_getElem? hx), fun i u hu => ?_⟩⟩⟩, (fun a h => by cases h; exact ⟨hb, heap_lt hh⟩), fun h => by cases h⟩
   have e := flat_get hl hx hu
   rw [← ht] at e
   rw [cell_of_row w g _ _ _ _ hh]
   have hlt := (List.getElem?_eq_some_iff.1 e).1
   rw [List.length_take] at hlt
   rw [List.getElem?_take_of_lt (by omega)] at e
   rw [Nat.zero_add]
   simpa using e
theorem col_len (l : List Col) : ∀ x ∈ l.map colL, x.length = 3 := by
 intro x hx
 obtain ⟨c, _, rfl⟩ := List.mem_map.1 hx
 rfl
theorem col_one (l : List Col) : ∀ u ∈ (l.map colL).flatten, u.oneCell' = true := by
 intro u hu
 obtain ⟨x, hx, hu⟩ := List.mem_flatten.1 hu
 obtain ⟨c, _, rfl⟩ := List.mem_map.1 hx
 unfold colL at hu
 simp only [List.mem_cons, List.mem_nil_iff, or_false] at hu
 rcases hu with rfl | rfl | rfl <;> rfl
theorem nil_cols (W : World) (a : Option Addr) (n c : Nat) : (binOp .eql 23 (.slice a n c) (.slice none 0 0)).run Tryz.prog W = .ok (.bool a.isNone) W := Lib.run_eql_slice_nil W 23 42 a n c 0 0 Tryz.underlying23
theorem CellsAt.setFar {w : World} {K : Nat} {A : Option Addr} {ls : List (List Value)} (h : CellsAt w K A ls) (b j : Nat) (v : Value) (hb : ∀ a, A = some a → a.block ≠ b) : CellsAt (w.setCell ⟨b, j, none⟩ v) K A ls := by
 refine ⟨h.1, h.2.imp id fun ⟨g, off, h1, h2, h3⟩ => ⟨g, off, h1, by simp only [World.setCell, Array.size_modify]; exact h2, fun i x hx => ⟨(h3 i x hx).1, fun n u hu => ?_⟩⟩⟩
 have hg : g ≠ b := hb ⟨g, off, none⟩ h1
 refine Eq.trans ?_ ((h3 i x hx).2 n u hu)
 unfold World.cell?
 rw [heap_setFar v hg]
def Unf (w : World) (A : Option Addr) : Prop := ∀ a, A = some a → ∃ (r : Array Value) (ty : TypeId), w.heap[a.block]? = some (.cells r ty (0, 0))
theorem Unf.nil (w : World) : Unf w none := fun a h => by cases h
theorem Unf.keep {w w' : World} {A : Option Addr} (hB : Below w.heap.size w w') (h : Unf w A) : Unf w' A := fun a ha => by
 obtain ⟨r, ty, e⟩ := h a ha
 exact ⟨r, ty, (hB.block _ (heap_lt e)).trans e⟩
theorem Unf.grown {w w' : World} {A : Option Addr} (h : Unf w A) {r : Option Nat} (hg : w.grownBy w' r) (hr : ∀ a, A = some a → r ≠ some a.block) : Unf w' A := fun a ha => by
 obtain ⟨x, ty, e⟩ := h a ha
 exact ⟨x, ty, (hg.block _ (heap_lt e) (fun e => hr a ha e.symm)).trans e⟩
theorem Unf.set {w : World} {A : Option Addr} (h : Unf w A) (b j : Nat) (v : Value) : Unf (w.setCell ⟨b, j, none⟩ v) A := fun a ha => by
 obtain ⟨x, ty, e⟩ := h a ha
 by_cases hb : a.block = b
 · subst hb
   rw [setCell_eq_setRow w _ j _ ty _ _ e]
   exact ⟨_, ty, setRow_heap w _ _ _ ty _ e⟩
 · exact ⟨x, ty, (heap_setFar v hb).trans e⟩
theorem own_unf {w : World} {base e K n c : Nat} {A : Option Addr} {xs : List Value} (h : w.ownsRow base e K (.slice A n c) n xs) : Unf w A := fun a ha => by
 rcases h.2 with ⟨h1, _⟩ | ⟨g, cap, cur, h1, _, hh, _⟩
 · cases h1; cases ha
 · cases h1; cases ha; exact ⟨_, _, hh⟩
def ColsU (w : World) (A : Option Addr) (l : List Col) : Prop := ColsAt w A l ∧ Unf w A
theorem ColsU.keep {w w' : World} {A : Option Addr} {l : List Col} (hB : Below w.heap.size w w') (h : ColsU w A l) : ColsU w' A l := ⟨CellsAt.keep hB h.1, h.2.keep hB⟩
theorem ColsU.setFar {w : World} {A : Option Addr} {l : List Col} (h : ColsU w A l) (b j : Nat) (v : Value) (hb : ∀ a, A = some a → a.block ≠ b) : ColsU (w.setCell ⟨b, j, none⟩ v) A l := ⟨CellsAt.setFar h.1 b j v hb, h.2.set b j v⟩
def ClonedP (w : World) (A : Option Addr) (l : List Col) (v : Value) (w' : World) : Prop := ∃ A' c', v = .slice A' l.length c' ∧ l.length ≤ c' ∧ ColsU w' A' l ∧ (∀ a, A' = some a → w.heap.size ≤ a.block ∧ a.block < w'.heap.size) ∧ (A' = none → c' = 0) ∧ (A' = none ↔ A = none)
set_option maxRecDepth 100000 in
set_option maxHeartbeats 4000000 in
theorem clone_cols (A : Option Addr) (c : Nat) (l : List Col) (w : World) (h : ColsAt w A l) (hA : A = none → l = [] ∧ c = 0) (hn : l.length ≤ 2000) : Calls Tryz.prog 68 #[.slice A l.length c] w fun e w' => ∃ v, e = .returned v ∧ Below w.heap.size w w' ∧ ClonedP w A l v w' := by
 cases A with
 | none =>
   obtain ⟨rfl, rfl⟩ := hA rfl
   clear h
   show Calls Tryz.prog 68 #[.slice none 0 0] w _
   have hq := nil_cols
   go_enter Tryz.func68, Tryz.ntmps68
   go_wp2_with fail
   go_ret
   exact ⟨_, rfl, Below.refl _ _, none, 0, rfl, Nat.le_refl _, ⟨CellsAt.nil_at _ _ _, Unf.nil _⟩, (fun a h => by cases h), fun _ => rfl, Iff.rfl⟩
 | some ad =>
   have HA := Lib.hid h
   clear hA h
   have hq := nil_cols
   have hone := info_parts info25
   obtain ⟨i0, hi0, hz0, hz1, hz2⟩ := hone
   have HI := Lib.hid hi0
   have HZ := Lib.hid hz0
   have HZ1 := Lib.hid hz1
   have HZ2 := Lib.hid hz2
   have HCC := Lib.hid (show ∀ j u, (l.map colL).flatten[j]? = some u → w.cell? (ad.add j) = some u from fun j u hj => by
     obtain ⟨x, hx, hu⟩ := flat_some (by decide : 0 < 3) (col_len l) hj
     rcases HA.out.2 with h0 | ⟨b', off', h1, h2, h3⟩
     · rw [h0] at hx; simp at hx
     · cases h1
       have e := (h3 _ x hx).2 _ u hu
       rw [show off' + j / 3 * 3 + j % 3 = off' + j by omega] at e
       rw [Addr.add_lit]
       exact e)
   clear hi0 hz0 hz1 hz2
   go_enter Tryz.func68, Tryz.ntmps68
   go_wp2_with (at_builtin; refine wpList_append_own_at _ rfl _ _ 23 rfl w.heap.size 42 i0 (.agg #[.string ⟨#[]⟩, .int .i64 0, .bool false]) 3 32 Tryz.underlying23 HI.out HZ.out HZ1.out HZ2.out rfl (by omega) _ _ _ rfl (World.ownsRow_made w #[] 0 (Nat.le_refl _) (Nat.zero_le _) (by simp)) ad l.length c (l.map colL).flatten (by rfl) ?qc1 ?qc2 ?qc3 ?qc4 ?qc5 ?qc6 ?_)
   case qc1 => rw [flat_len (col_len l), List.length_map]
   case qc2 => exact fun j u hj => Lib.cell?_alloc_some _ (HCC.out j u hj)
   case qc3 => exact col_one l
   case qc4 => unfold maxLen; omega
   case qc5 => omega
   case qc6 => simp
   intro v' w1 hown hgrow hnil hat
   have HOW := Lib.hid hown
   have HGR := Lib.hid hgrow
   have HNI := Lib.hid hnil
   clear hown hgrow hnil hat
   go_wp2
   go_ret
   have ho := HOW.out
   obtain ⟨A', c', rfl, h1, h2, h3, h4⟩ := own_cells ho (col_len l) (by rw [List.length_map])
   refine ⟨_, rfl, ((Below.refl _ w).alloc (Nat.le_refl _) _).grown HGR.out (by simp) (by intro k hk; simp [Value.ownBlock] at hk; omega), A', c', rfl, h1, ⟨h2, own_unf ho⟩, h3, fun h => (h4 h).1, ?_⟩
   constructor
   · intro h
     exfalso
     obtain ⟨e1, e2⟩ := h4 h
     have e3 := List.map_eq_nil_iff.1 e2
     subst h e1 e3
     exact HNI.out rfl
   · intro h; cases h
def FarP (w : World) (B : Nat) (A : Option Addr) (l : List Col) (W : World) : Prop := Below w.heap.size w W ∧ ColsU W A l ∧ (∀ a, A = some a → B ≤ a.block ∧ a.block < W.heap.size)
theorem FarP.set {w W : World} {B : Nat} {A : Option Addr} {l : List Col} (h : FarP w B A l W) (b j : Nat) (v : Value) (h1 : w.heap.size ≤ b) (h2 : b < B) : FarP w B A l (W.setCell ⟨b, j, none⟩ v) :=
 ⟨h.1.setCell (p := ⟨b, j, none⟩) h1 _, ColsU.setFar h.2.1 b j v (fun a ha => by have := h.2.2 a ha; omega), fun a ha => by simp only [World.setCell, Array.size_modify]; exact h.2.2 a ha⟩
def TabCopy (w : World) (t : Tab) (l : List Col) (t' : Tab) (w' : World) : Prop := t'.name = t.name ∧ t'.root = t.root ∧ t'.next = t.next ∧ t'.rows = t.rows ∧ t'.cn = l.length ∧ l.length ≤ t'.cc ∧ ColsU w' t'.ca l ∧ (∀ a, t'.ca = some a → w.heap.size ≤ a.block ∧ a.block < w'.heap.size) ∧ (t'.ca = none → t'.cc = 0) ∧ (t'.ca = none ↔ t.ca = none)
set_option maxRecDepth 100000 in
set_option maxHeartbeats 4000000 in
theorem clone_tab (t : Tab) (l : List Col) (w : World) (h : ColsAt w t.ca l) (hl : t.cn = l.length) (hA : t.ca = none → l = [] ∧ t.cc = 0) (hn : l.length ≤ 2000) : Calls Tryz.prog 36 #[.agg (tabL t).toArray] w fun e w' => ∃ t', e = .returned (.agg (tabL t').toArray) ∧ Below w.heap.size w w' ∧ TabCopy w t l t' w' := by
 obtain ⟨tn, ta, tl, tc, tr, tx, ts⟩ := t
 obtain rfl : tl = l.length := hl
 show Calls Tryz.prog 36 #[.agg #[.string tn, .slice ta l.length tc, .int .i64 tr, .int .i64 tx, .int .i64 ts]] w _
 have HC := Lib.hid (show ∀ W, Below w.heap.size w W → Calls Tryz.prog 68 #[.slice ta l.length tc] W fun e w' => ∃ v, e = .returned v ∧ Below W.heap.size W w' ∧ ClonedP W ta l v w' from fun W hB => clone_cols ta tc l W (CellsAt.keep hB h) hA hn)
 have HW := Lib.hid (show Below w.heap.size w ((w.alloc (.cells #[.string tn, .slice ta l.length tc, .int .i64 tr, .int .i64 tx, .int .i64 ts] 25)).alloc (.cells #[.string ⟨#[]⟩, .slice none 0 0, .int .i64 0, .int .i64 0, .int .i64 0] 25)) from (below1 w _).alloc (by simp) _)
 have h0 := heap_alloc_new (w.alloc (.cells #[.string tn, .slice ta l.length tc, .int .i64 tr, .int .i64 tx, .int .i64 ts] 25)) (.cells #[.string ⟨#[]⟩, .slice none 0 0, .int .i64 0, .int .i64 0, .int .i64 0] 25)
 rw [World.size_alloc] at h0
 have HQ1 := Lib.hid h0
 have HQ0 := Lib.hid (show ((w.alloc (.cells #[.string tn, .slice ta l.length tc, .int .i64 tr, .int .i64 tx, .int .i64 ts] 25)).alloc (.cells #[.string ⟨#[]⟩, .slice none 0 0, .int .i64 0, .int .i64 0, .int .i64 0] 25)).heap[w.heap.size]? = some (.cells #[.string tn, .slice ta l.length tc, .int .i64 tr, .int .i64 tx, .int .i64 ts] 25) by rw [heap_alloc_old _ _ (by simp)]; exact heap_alloc_new w _)
 clear h hA h0
 go_enter Tryz.func36, Tryz.ntmps36
 go_wp2_with (first
   | (go_at_call 68; (with_reducible refine (HC.out _ HW.out).mono ?_); rintro e w2 ⟨v, rfl, hB, A', c', rfl, hq⟩
      have hq0 := (hB.block w.heap.size (by simp; omega)).trans HQ0.out
      have hq1 := (hB.block (w.heap.size + 1) (by simp)).trans HQ1.out
      have HB := Lib.hid (HW.out.trans (hB.mono HW.out.size))
      have HP := Lib.hid hq
      have r0 := cell_of_row _ _ 0 _ _ _ hq0
      have r1 := cell_of_row _ _ 1 _ _ _ hq0
      have r2 := cell_of_row _ _ 2 _ _ _ hq0
      have r3 := cell_of_row _ _ 3 _ _ _ hq0
      have r4 := cell_of_row _ _ 4 _ _ _ hq0
      have g1 := frozen_of_row _ _ 1 _ _ hq0
      have s0 := cell_of_row _ _ 0 _ _ _ hq1
      have s1 := cell_of_row _ _ 1 _ _ _ hq1
      have s2 := cell_of_row _ _ 2 _ _ _ hq1
      have s3 := cell_of_row _ _ 3 _ _ _ hq1
      have s4 := cell_of_row _ _ 4 _ _ _ hq1
      have f0 := frozen_of_row _ _ 0 _ _ hq1
      have f1 := frozen_of_row _ _ 1 _ _ hq1
      have f2 := frozen_of_row _ _ 2 _ _ hq1
      have f3 := frozen_of_row _ _ 3 _ _ hq1
      have f4 := frozen_of_row _ _ 4 _ _ hq1
      clear hB hq hq0 hq1)
   | fail)
 refine bodyPost_ret (v := .agg #[.string tn, .slice A' l.length c', .int .i64 tr, .int .i64 tx, .int .i64 ts]) (by simp [results, Tryz.results36, go_sem, s0, s1, s2, s3, s4]) rfl ?_
 obtain ⟨p1, p2, p3, p4, p5⟩ := HP.out
 have hF : FarP w (w.heap.size + 2) A' l w2 := ⟨HB.out, p2, fun a ha => by have := p3 a ha; simp at this; omega⟩
 have hG := ((((((hF.set w.heap.size 1 (.slice A' l.length c') (Nat.le_refl _) (by omega)).set (w.heap.size + 1) 0 (.string tn) (by omega) (by omega)).set (w.heap.size + 1) 1 (.slice A' l.length c') (by omega) (by omega)).set (w.heap.size + 1) 2 (.int .i64 tr) (by omega) (by omega)).set (w.heap.size + 1) 3 (.int .i64 tx) (by omega) (by omega)).set (w.heap.size + 1) 4 (.int .i64 ts) (by omega) (by omega))
 exact ⟨⟨tn, A', l.length, c', tr, tx, ts⟩, rfl, hG.1, rfl, rfl, rfl, rfl, rfl, p1, hG.2.1, fun a ha => by have := hG.2.2 a ha; omega, p4, p5⟩
end Go.Proofs.YtcgpflkaejbkhaaGreatDoor
namespace Go.Proofs.YtcgpflkaejbkhaaGreatDoor
open Go.RowKit

theorem info35 : (Tryz.prog.info? 25).map (fun i => (i.zero, i.size, i.bytes)) = some (some (.agg #[.string ⟨#[]⟩, .slice none 0 0, .int .i64 0, .int .i64 0, .int .i64 0]), 5, 64) := by kernel_rfl
theorem tab_one (t : Tab) : ∀ u ∈ tabL t, u.oneCell' = true := by
 intro u hu
 unfold tabL at hu
 simp only [List.mem_cons, List.mem_nil_iff, or_false] at hu
 rcases hu with rfl | rfl | rfl | rfl | rfl <;> rfl
theorem tab_len (l : List Tab) : ∀ x ∈ l.map tabL, x.length = 5 := by
 intro x hx
 obtain ⟨c, _, rfl⟩ := List.mem_map.1 hx
 rfl
theorem list_tab (w : World) {ops : Array Oper} {rest : List Oper} {o : Oper} {a : Act} {Q : Exit → Act → World → Prop} (hgd : o.guard = none) (s x : Operand)
   (ho : o.op = .call { callee := .builtin .append, args := #[s, x], argTypes := #[33, 33] }) (base : Nat) (v : Value) (n : Nat) (xs : List Value) (hv : a.eval s = v) (hown : w.ownsRow base 25 5 v n xs)
   (b c : Nat) (t : Tab) (hx : a.eval x = .slice (some ⟨b, 0, none⟩) 1 c) (hq : w.heap[b]? = some (.cells (tabL t).toArray 25)) (hl : n ≤ 2000) (hbase : base ≤ w.heap.size)
   (h : ∀ v' w', w'.ownsRow base 25 5 v' (n + 1) (xs ++ tabL t) → w.grownBy w' v.ownBlock → (v'.ownBlock = v.ownBlock ∨ v'.ownBlock = some w.heap.size) → wpList Tryz.prog ops Q rest (a.put o.dst v') w') : wpList Tryz.prog ops Q (o :: rest) a w := by
 refine wpList_plain hgd fun K hK => ?_
 obtain ⟨i0, hi0, hz0, hz1, hz2⟩ := info_parts info35
 obtain ⟨v', w', hrun, g2, g3, _, g5⟩ := run_append_own_at (P := Tryz.prog) w base 33 o.type 25 i0 _ 5 64 Tryz.underlying33 hi0 hz0 hz1 hz2 rfl (by omega) v n xs hown ⟨b, 0, none⟩ 1 c (tabL t) rfl
   (fun j u hj => by
     rw [Addr.add_lit, Nat.zero_add, cell_of_row w b j _ _ _ hq]
     simpa using hj)
   (tab_one t) (by unfold maxLen; omega) (by omega) hbase
 unfold Oper.wp
 simp only [execOp, ho, resolve, invoke, builtin, Sem.run_bind, Sem.run_pure, Result.andThen_ok, List.map_toArray, List.map_cons, List.map_nil, hv, hx, hrun]
 exact hK _ _ (h v' w' g2 g3 g5)
theorem step_tab (w : World) {ops : Array Oper} {o : Oper} {a : Act} {K : Act → World → Prop} {Q : Exit → Act → World → Prop} {E : Prop} (hgd : o.guard = none) (s x : Operand)
   (ho : o.op = .call { callee := .builtin .append, args := #[s, x], argTypes := #[33, 33] }) (base : Nat) (v : Value) (n : Nat) (xs : List Value) (hv : a.eval s = v) (hown : w.ownsRow base 25 5 v n xs)
   (b c : Nat) (t : Tab) (hx : a.eval x = .slice (some ⟨b, 0, none⟩) 1 c) (hq : w.heap[b]? = some (.cells (tabL t).toArray 25)) (hl : n ≤ 2000) (hbase : base ≤ w.heap.size)
   (h : ∀ v' w', w'.ownsRow base 25 5 v' (n + 1) (xs ++ tabL t) → w.grownBy w' v.ownBlock → (v'.ownBlock = v.ownBlock ∨ v'.ownBlock = some w.heap.size) → K (a.put o.dst v') w') :
   if Region.wanted o (yielded ops a.tmps) = true then Oper.wp Tryz.prog o a w K Q else E := by
 have hw : Region.wanted o (yielded ops a.tmps) = true := by simp [Region.wanted, hgd]
 rw [if_pos hw]
 obtain ⟨i0, hi0, hz0, hz1, hz2⟩ := info_parts info35
 obtain ⟨v', w', hrun, g2, g3, _, g5⟩ := run_append_own_at (P := Tryz.prog) w base 33 o.type 25 i0 _ 5 64 Tryz.underlying33 hi0 hz0 hz1 hz2 rfl (by omega) v n xs hown ⟨b, 0, none⟩ 1 c (tabL t) rfl
   (fun j u hj => by
     rw [Addr.add_lit, Nat.zero_add, cell_of_row w b j _ _ _ hq]
     simpa using hj)
   (tab_one t) (by unfold maxLen; omega) (by omega) hbase
 unfold Oper.wp
 simp only [execOp, ho, resolve, invoke, builtin, Sem.run_bind, Sem.run_pure, Result.andThen_ok, List.map_toArray, List.map_cons, List.map_nil, hv, hx, hrun]
 exact h v' w' g2 g3 g5
def CopyAt (base : Nat) (v : Value) (t : Tab) (l : List Col) (t' : Tab) (W : World) : Prop := t'.name = t.name ∧ t'.root = t.root ∧ t'.next = t.next ∧ t'.rows = t.rows ∧ t'.cn = l.length ∧ l.length ≤ t'.cc ∧ ColsU W t'.ca l ∧ (∀ a, t'.ca = some a → base ≤ a.block ∧ a.block < W.heap.size ∧ v.ownBlock ≠ some a.block) ∧ (t'.ca = none → t'.cc = 0) ∧ (t'.ca = none ↔ t.ca = none)
theorem CellsAt.grown {w w' : World} {K : Nat} {A : Option Addr} {ls : List (List Value)} (h : CellsAt w K A ls) {r : Option Nat} (hg : w.grownBy w' r) (hr : ∀ a, A = some a → r ≠ some a.block) : CellsAt w' K A ls := by
 refine ⟨h.1, h.2.imp id fun ⟨g, off, h1, h2, h3⟩ => ⟨g, off, h1, Nat.lt_of_lt_of_le h2 hg.size, fun i x hx => ⟨(h3 i x hx).1, fun n u hu => ?_⟩⟩⟩
 refine Eq.trans ?_ ((h3 i x hx).2 n u hu)
 unfold World.cell?
 rw [hg.block g h2 (fun e => hr ⟨g, off, none⟩ h1 e.symm)]
theorem ColsU.grown {w w' : World} {A : Option Addr} {l : List Col} (h : ColsU w A l) {r : Option Nat} (hg : w.grownBy w' r) (hr : ∀ a, A = some a → r ≠ some a.block) : ColsU w' A l := ⟨CellsAt.grown h.1 hg hr, h.2.grown hg hr⟩
theorem CopyAt.keep {base : Nat} {v : Value} {t t' : Tab} {l : List Col} {W W' : World} (h : CopyAt base v t l t' W) (hB : Below W.heap.size W W') : CopyAt base v t l t' W' := by
 obtain ⟨h1, h2, h3, h4, h5, h6, h7, h8, h9⟩ := h
 exact ⟨h1, h2, h3, h4, h5, h6, ColsU.keep hB h7, fun a ha => ⟨(h8 a ha).1, Nat.lt_of_lt_of_le (h8 a ha).2.1 hB.size, (h8 a ha).2.2⟩, h9⟩
theorem CopyAt.setCell {base : Nat} {v : Value} {t t' : Tab} {l : List Col} {W : World} (h : CopyAt base v t l t' W) (b j : Nat) (u : Value) (hb : b < base) : CopyAt base v t l t' (W.setCell ⟨b, j, none⟩ u) := by
 obtain ⟨h1, h2, h3, h4, h5, h6, h7, h8, h9⟩ := h
 refine ⟨h1, h2, h3, h4, h5, h6, ColsU.setFar h7 b j u (fun a ha => by have := (h8 a ha).1; omega), fun a ha => ?_, h9⟩
 simp only [World.setCell, Array.size_modify]
 exact h8 a ha
theorem CopyAt.grown {base : Nat} {v v' : Value} {t t' : Tab} {l : List Col} {W W' : World} (h : CopyAt base v t l t' W) (hg : W.grownBy W' v.ownBlock) (hv : v'.ownBlock = v.ownBlock ∨ v'.ownBlock = some W.heap.size) : CopyAt base v' t l t' W' := by
 obtain ⟨h1, h2, h3, h4, h5, h6, h7, h8, h9⟩ := h
 refine ⟨h1, h2, h3, h4, h5, h6, h7.grown hg (fun a ha => (h8 a ha).2.2), fun a ha => ⟨(h8 a ha).1, Nat.lt_of_lt_of_le (h8 a ha).2.1 hg.size, ?_⟩, h9⟩
 rcases hv with e | e
 · rw [e]; exact (h8 a ha).2.2
 · rw [e]
   intro e2
   have := (h8 a ha).2.1
   have := Option.some.inj e2
   omega
structure ClInv (w : World) (A : Option Addr) (n c : Nat) (ia : Option Addr) (il ic : Nat) (ts : List (Tab × List Col)) (W : World) (k : Nat) (va : Option Addr) (vc : Nat) (outs : List Tab) : Prop where
 below : Below w.heap.size w W
 arg : W.heap[w.heap.size]? = some (.cells #[.slice A n c, .slice ia il ic] 36)
 ans : W.heap[w.heap.size + 1]? = some (.cells #[.slice none 0 0, .slice none 0 0] 36)
 out : W.heap[w.heap.size + 2]? = some (.cells #[.slice va k vc, .slice none 0 0] 36)
 own : W.ownsRow (w.heap.size + 3) 25 5 (.slice va k vc) k (outs.map tabL).flatten
 len : outs.length = k
 copy : ∀ (j : Nat) (t : Tab) (l : List Col), ts[j]? = some (t, l) → ∀ t', outs[j]? = some t' → CopyAt (w.heap.size + 3) (.slice va k vc) t l t' W
theorem ClInv.keep {w : World} {A : Option Addr} {n c : Nat} {ia : Option Addr} {il ic : Nat} {ts : List (Tab × List Col)} {W W' : World} {k : Nat} {va : Option Addr} {vc : Nat} {outs : List Tab} (h : ClInv w A n c ia il ic ts W k va vc outs) (hB : Below W.heap.size W W') : ClInv w A n c ia il ic ts W' k va vc outs :=
 ⟨h.below.trans (hB.mono h.below.size), (hB.block _ (heap_lt h.arg)).trans h.arg, (hB.block _ (heap_lt h.ans)).trans h.ans, (hB.block _ (heap_lt h.out)).trans h.out, own_kept h.own hB (Nat.le_refl _), h.len, fun j t l hj t' ht => (h.copy j t l hj t' ht).keep hB⟩
theorem own_slice {w : World} {base e size n : Nat} {v : Value} {xs : List Value} (h : w.ownsRow base e size v (n + 1) xs) : ∃ g cap, v = .slice (some ⟨g, 0, none⟩) (n + 1) cap := by
 rcases h.2 with ⟨_, h0⟩ | ⟨g, cap, cur, rfl, _⟩
 · omega
 · exact ⟨g, cap, rfl⟩
theorem ClInv.more {w : World} {A : Option Addr} {n c : Nat} {ia : Option Addr} {il ic : Nat} {ts : List (Tab × List Col)} {w5 w6 : World} {k : Nat} {va : Option Addr} {vc : Nat} {outs : List Tab} {t' : Tab} {O : Obj} {g cap : Nat} (h : ClInv w A n c ia il ic ts w5 k va vc outs)
   (hown : w6.ownsRow (w.heap.size + 3) 25 5 (.slice (some ⟨g, 0, none⟩) (k + 1) cap) (k + 1) ((outs.map tabL).flatten ++ tabL t')) (hg : (w5.alloc O).grownBy w6 (Value.slice va k vc).ownBlock)
   (hat : (Value.slice (some ⟨g, 0, none⟩) (k + 1) cap).ownBlock = (Value.slice va k vc).ownBlock ∨ (Value.slice (some ⟨g, 0, none⟩) (k + 1) cap).ownBlock = some (w5.alloc O).heap.size)
   (hnew : ∀ (t : Tab) (l : List Col), ts[k]? = some (t, l) → CopyAt (w.heap.size + 3) (.slice va k vc) t l t' w5) :
   ClInv w A n c ia il ic ts (w6.setCell ⟨w.heap.size + 1 + 1, 0, none⟩ (.slice (some ⟨g, 0, none⟩) (k + 1) cap)) (k + 1) (some ⟨g, 0, none⟩) cap (outs ++ [t']) ∧ w6.heap[w.heap.size + 1 + 1]? = some (.cells #[.slice va k vc, .slice none 0 0] 36) := by
 have hown0 := h.own
 have hlt := heap_lt h.out
 have hB : Below w5.heap.size w5 (w5.alloc O) := below1 w5 O
 have h5 := h.keep hB
 have hfar : ∀ b, b ≤ w.heap.size + 2 → some b ≠ (Value.slice va k vc).ownBlock := fun b hb e => by
   have := hown0.lt b e.symm
   omega
 have hold : ∀ b, b ≤ w.heap.size + 2 → w6.heap[b]? = w5.heap[b]? := fun b hb => (hg.block b (by simp; omega) (hfar b hb)).trans (hB.block b (by omega))
 have hout6 := (hold (w.heap.size + 2) (Nat.le_refl _)).trans h.out
 have hgB : Below w.heap.size w w6 := h5.below.grown hg (by simp; omega) (fun k hk => by have := hown0.lt k hk; omega)
 have hsz : w6.heap.size = (w6.setCell ⟨w.heap.size + 1 + 1, 0, none⟩ (.slice (some ⟨g, 0, none⟩) (k + 1) cap)).heap.size := by simp only [World.setCell, Array.size_modify]
 have hgb : w.heap.size + 3 ≤ g := (hown.lt g rfl).1
 refine ⟨⟨hgB.setCell (p := ⟨w.heap.size + 1 + 1, 0, none⟩) (by show w.heap.size ≤ w.heap.size + 1 + 1; omega) _, ?_, ?_, ?_, ?_, by rw [List.length_append, h.len]; rfl, ?_⟩, hout6⟩
 · rw [heap_setFar _ (by omega)]; exact (hold _ (by omega)).trans h.arg
 · rw [heap_setFar _ (by omega)]; exact (hold _ (by omega)).trans h.ans
 · have e : w6.heap[w.heap.size + 1 + 1]? = _ := hout6
   rw [setCell_eq_setRow w6 _ 0 _ 36 _ _ e]
   exact setRow_heap w6 _ _ _ 36 _ e
 · obtain ⟨q1, q2⟩ := hown
   refine ⟨by rw [List.map_append, List.flatten_append]; simpa using q1, q2.imp id fun ⟨g', cap', cur, e1, e2, e3, e4, e5, e6, e7⟩ => ⟨g', cap', cur, e1, e2, ?_, e4, e5, e6, by rw [List.map_append, List.flatten_append]; simpa using e7⟩⟩
   rw [heap_setFar _ (by omega)]; exact e3
 · intro j t l hj t'' ht
   refine CopyAt.setCell ?_ _ _ _ (by omega)
   rcases Nat.lt_or_ge j outs.length with hjl | hjl
   · rw [List.getElem?_append_left hjl] at ht
     exact ((h.copy j t l hj t'' ht).keep hB).grown hg hat
   · have hj2 : j = k := by
       have := (List.getElem?_eq_some_iff.1 ht).1
       rw [List.length_append] at this
       have := h.len
       simp at *
       omega
     subst hj2
     rw [List.getElem?_append_right hjl, h.len, Nat.sub_self] at ht
     obtain rfl : t' = t'' := by simpa using ht
     exact ((hnew t l hj).keep hB).grown hg hat
theorem own_set {w : World} {base e size n : Nat} {v : Value} {xs : List Value} (h : w.ownsRow base e size v n xs) (b j : Nat) (u : Value) (hb : b < base) : (w.setCell ⟨b, j, none⟩ u).ownsRow base e size v n xs := by
 obtain ⟨q1, q2⟩ := h
 refine ⟨q1, q2.imp id fun ⟨g', cap', cur, e1, e2, e3, e4⟩ => ⟨g', cap', cur, e1, e2, ?_, e4⟩⟩
 rw [heap_setFar _ (by omega)]
 exact e3
theorem ClInv.done {w : World} {A : Option Addr} {n c : Nat} {ia : Option Addr} {il ic : Nat} {ts : List (Tab × List Col)} {W : World} {k : Nat} {va : Option Addr} {vc : Nat} {outs : List Tab} (h : ClInv w A n c ia il ic ts W k va vc outs) (x y : Value) :
   Below w.heap.size w ((W.setCell ⟨w.heap.size + 1, 0, none⟩ x).setCell ⟨w.heap.size + 1, 1, none⟩ y) ∧ ((W.setCell ⟨w.heap.size + 1, 0, none⟩ x).setCell ⟨w.heap.size + 1, 1, none⟩ y).ownsRow (w.heap.size + 3) 25 5 (.slice va k vc) k (outs.map tabL).flatten ∧ outs.length = k ∧
   ∀ (j : Nat) (t : Tab) (l : List Col), ts[j]? = some (t, l) → ∀ t', outs[j]? = some t' → CopyAt (w.heap.size + 3) (.slice va k vc) t l t' ((W.setCell ⟨w.heap.size + 1, 0, none⟩ x).setCell ⟨w.heap.size + 1, 1, none⟩ y) :=
 ⟨(h.below.setCell (p := ⟨w.heap.size + 1, 0, none⟩) (Nat.le_succ _) _).setCell (p := ⟨w.heap.size + 1, 1, none⟩) (Nat.le_succ _) _, own_set (own_set h.own _ _ _ (by omega)) _ _ _ (by omega), h.len,
   fun j t l hj t' ht => ((h.copy j t l hj t' ht).setCell _ _ _ (by omega)).setCell _ _ _ (by omega)⟩
def DeepAt (w : World) (A : Option Addr) (ts : List (Tab × List Col)) : Prop := TabsAt w A (ts.map Prod.fst) ∧ ∀ p ∈ ts, ColsAt w p.1.ca p.2 ∧ p.1.cn = p.2.length ∧ p.2.length ≤ p.1.cc ∧ (p.1.ca = none → p.1.cc = 0)
end Go.Proofs.YtcgpflkaejbkhaaGreatDoor
namespace Go.Proofs.YtcgpflkaejbkhaaGreatDoor
open Go.RowKit

def CloneP (w : World) (ts : List (Tab × List Col)) (e : Ending) (w' : World) : Prop := ∃ (v : Value) (outs : List Tab), e = .returned (.agg #[v, .slice none 0 0]) ∧ Below w.heap.size w w' ∧ w'.ownsRow (w.heap.size + 3) 25 5 v ts.length (outs.map tabL).flatten ∧ outs.length = ts.length ∧ w.heap.size + 3 ≤ w'.heap.size ∧ ∀ (j : Nat) (t : Tab) (l : List Col), ts[j]? = some (t, l) → ∀ t', outs[j]? = some t' → CopyAt (w.heap.size + 3) v t l t' w'
set_option maxRecDepth 100000 in
set_option maxHeartbeats 16000000 in
theorem clone_any (A : Option Addr) (c : Nat) (ts : List (Tab × List Col)) (ia : Option Addr) (ic : Nat) (w : World) (h : DeepAt w A ts) (hn : ts.length ≤ 1000) (hl : ∀ p ∈ ts, p.2.length ≤ 1000) : Calls Tryz.prog 10 #[.agg #[.slice A ts.length c, .slice ia 0 ic]] w (CloneP w ts) := by
 obtain ⟨n, hnn⟩ : ∃ n, n = ts.length := ⟨_, rfl⟩
 have HN := Lib.hid hnn
 have HD := Lib.hid h
 have HL := Lib.hid hl
 rw [← hnn] at hn ⊢
 have HST := Lib.hid (show ClInv w A n c ia 0 ic ts (((w.alloc (.cells #[.slice A n c, .slice ia 0 ic] 36)).alloc (.cells #[.slice none 0 0, .slice none 0 0] 36)).alloc (.cells #[.slice none 0 0, .slice none 0 0] 36)) 0 none 0 [] from by
   refine ⟨((below1 w _).alloc (by simp) _).alloc (by simp; omega) _, ?_, ?_, ?_, World.ownsRow_nil _ _ _ _, rfl, fun j t l _ t' ht => by simp at ht⟩
   · rw [heap_alloc_old _ _ (by simp; omega), heap_alloc_old _ _ (by simp)]; exact heap_alloc_new w _
   · rw [heap_alloc_old _ _ (by simp)]
     have := heap_alloc_new (w.alloc (.cells #[.slice A n c, .slice ia 0 ic] 36)) (.cells #[.slice none 0 0, .slice none 0 0] 36)
     rwa [World.size_alloc] at this
   · have := heap_alloc_new ((w.alloc (.cells #[.slice A n c, .slice ia 0 ic] 36)).alloc (.cells #[.slice none 0 0, .slice none 0 0] 36)) (.cells #[.slice none 0 0, .slice none 0 0] 36)
     rwa [World.size_alloc, World.size_alloc] at this)
 clear h hnn hl
 go_enter Tryz.func10, Tryz.ntmps10
 go_wp2_with fail
 go_loopw [11] (fun i wr => ∃ k va vc outs, k ≤ n ∧ i = .int .i64 (k : Nat) ∧ Hid (ClInv w A n c ia 0 ic ts wr k va vc outs)) (fun i _ => n - (intOf i).toNat)
 case atStart => exact ⟨0, none, 0, [], Nat.zero_le _, rfl, HST⟩
 case round =>
   obtain ⟨k, va, vc, outs, hk, rfl, HI⟩ := hrel
   obtain ⟨wo, rfl⟩ : ∃ wo : World, wo = wr := ⟨_, rfl⟩
   have ha0 := cell_of_row _ _ 0 _ _ _ HI.out.arg
   have ha1 := cell_of_row _ _ 1 _ _ _ HI.out.arg
   by_cases hlt : k < n
   · obtain ⟨⟨t, l⟩, hx⟩ : ∃ x, ts[k]? = some x := ⟨_, List.getElem?_eq_getElem (by have := HN.out; omega)⟩
     have HX := Lib.hid hx
     obtain ⟨hcol, hcn, hcc, hnone⟩ := HD.out.2 (t, l) (List.mem_of_getElem? hx)
     have hl := HL.out (t, l) (List.mem_of_getElem? hx)
     dsimp only at hcol hcn hcc hnone hl
     obtain ⟨tn, ta, tl, tc, tr, tx, tw⟩ := t
     obtain rfl : tl = l.length := hcn
     obtain ⟨b, off, rfl, hbl, hcells⟩ : ∃ b off, A = some ⟨b, off, none⟩ ∧ b < w.heap.size ∧ ∀ (i : Nat) (u : Value), (tabL ⟨tn, ta, l.length, tc, tr, tx, tw⟩)[i]? = some u → w.cell? ⟨b, off + k * 5 + i, none⟩ = some u := by
       rcases HD.out.1.2 with h0' | ⟨b, off, h1, h2, h3⟩
       · exfalso
         have := List.map_eq_nil_iff.1 (List.map_eq_nil_iff.1 h0')
         subst this
         simp at hx
       · exact ⟨b, off, h1, h2, (h3 k _ (by rw [List.getElem?_map, List.getElem?_map, hx]; rfl)).2⟩
     have hkk : ∀ (i : Nat) (u : Value), [Value.string tn, .slice ta l.length tc, .int .i64 tr, .int .i64 tx, .int .i64 tw][i]? = some u → wo.cell? ⟨b, off + k * 5 + i, none⟩ = some u := fun i u hi => (HI.out.below.cell (p := ⟨b, off + k * 5 + i, none⟩) hbl).trans (hcells i u hi)
     have k0 : wo.cell? ⟨b, off + k * 5, none⟩ = some (.string tn) := hkk 0 _ rfl
     have k1 : wo.cell? ⟨b, off + k * 5 + 1, none⟩ = some (.slice ta l.length tc) := hkk 1 _ rfl
     have k2 : wo.cell? ⟨b, off + k * 5 + 2, none⟩ = some (.int .i64 tr) := hkk 2 _ rfl
     have k3 : wo.cell? ⟨b, off + k * 5 + 3, none⟩ = some (.int .i64 tx) := hkk 3 _ rfl
     have k4 : wo.cell? ⟨b, off + k * 5 + 4, none⟩ = some (.int .i64 tw) := hkk 4 _ rfl
     obtain ⟨w4, hw4⟩ : ∃ w4, w4 = wo.alloc (.cells #[.string tn, .slice ta l.length tc, .int .i64 tr, .int .i64 tx, .int .i64 tw] 25) := ⟨_, rfl⟩
     have hB4 : Below wo.heap.size wo w4 := by rw [hw4]; exact below1 wo _
     have HI4 := Lib.hid (HI.out.keep hB4)
     have HB4 := Lib.hid hB4
     have HCO := Lib.hid (CellsAt.keep (HI.out.below.trans (hB4.mono HI.out.below.size)) hcol)
     have HQ4 := Lib.hid (show w4.heap[wo.heap.size]? = some (.cells #[.string tn, .slice ta l.length tc, .int .i64 tr, .int .i64 tx, .int .i64 tw] 25) by rw [hw4]; exact heap_alloc_new wo _)
     have HCL := Lib.hid (show ∀ W, Below w4.heap.size w4 W → Calls Tryz.prog 36 #[.agg #[.string tn, .slice ta l.length tc, .int .i64 tr, .int .i64 tx, .int .i64 tw]] W fun e w' => ∃ (yn : ByteArray) (ya : Option Addr) (yl yc : Nat) (yr yx yw : Int), e = .returned (.agg #[.string yn, .slice ya yl yc, .int .i64 yr, .int .i64 yx, .int .i64 yw]) ∧ Below W.heap.size W w' ∧ TabCopy W ⟨tn, ta, l.length, tc, tr, tx, tw⟩ l ⟨yn, ya, yl, yc, yr, yx, yw⟩ w' from fun W hW =>
       (clone_tab ⟨tn, ta, l.length, tc, tr, tx, tw⟩ l W (CellsAt.keep hW HCO.out) rfl (fun h => by have h2 : tc = 0 := hnone h; have h3 : l.length ≤ tc := hcc; exact ⟨List.length_eq_zero_iff.1 (by omega), h2⟩) (by omega)).mono (fun e w' ⟨⟨yn, ya, yl, yc, yr, yx, yw⟩, h1, h2, h3⟩ => ⟨yn, ya, yl, yc, yr, yx, yw, h1, h2, h3⟩))
     have HNEW := Lib.hid (show ∀ (w5 : World) (yn : ByteArray) (ya : Option Addr) (yl yc : Nat) (yr yx yw : Int), TabCopy w4.drew ⟨tn, ta, l.length, tc, tr, tx, tw⟩ l ⟨yn, ya, yl, yc, yr, yx, yw⟩ w5 → ∀ (t : Tab) (l : List Col), ts[k]? = some (t, l) → CopyAt (w.heap.size + 3) (.slice va k vc) t l ⟨yn, ya, yl, yc, yr, yx, yw⟩ w5 from fun w5 yn ya yl yc yr yx yw h t l2 hj => by
       rw [HX.out] at hj
       obtain ⟨rfl, rfl⟩ := Prod.mk.inj (Option.some.inj hj)
       obtain ⟨h1, h2, h3, h4, h5, h6, h7, h8, h9⟩ := h
       refine ⟨h1, h2, h3, h4, h5, h6, h7, fun a ha => ?_, h9⟩
       have hz := h8 a ha
       have hlt := heap_lt HI4.out.out
       have hd : w4.drew.heap.size = w4.heap.size := rfl
       refine ⟨by omega, hz.2, fun e => ?_⟩
       have := (HI4.out.own.lt _ e).2
       omega)
     have hW0 : Below w4.heap.size w4 w4.drew := (Below.refl _ _).drew
     have z0 : w4.drew.cell? ⟨w.heap.size + 1 + 1, 0, none⟩ = some (.slice va k vc) := cell_of_row w4.drew _ 0 _ _ _ HI4.out.out
     have j0 : w4.drew.cell? ⟨wo.heap.size, 0, none⟩ = some (.string tn) := cell_of_row w4.drew _ 0 _ _ _ HQ4.out
     have j1 : w4.drew.cell? ⟨wo.heap.size, 1, none⟩ = some (.slice ta l.length tc) := cell_of_row w4.drew _ 1 _ _ _ HQ4.out
     have j2 : w4.drew.cell? ⟨wo.heap.size, 2, none⟩ = some (.int .i64 tr) := cell_of_row w4.drew _ 2 _ _ _ HQ4.out
     have j3 : w4.drew.cell? ⟨wo.heap.size, 3, none⟩ = some (.int .i64 tx) := cell_of_row w4.drew _ 3 _ _ _ HQ4.out
     have j4 : w4.drew.cell? ⟨wo.heap.size, 4, none⟩ = some (.int .i64 tw) := cell_of_row w4.drew _ 4 _ _ _ HQ4.out
     clear hx hcells hkk hB4 hcol hnone
     go_wp2_with fail
     rw [← hw4]
     clear hw4 k0 k1 k2 k3 k4
     go_region_law (first
       | (go_simp; go_at_call 36; (with_reducible refine (HCL.out _ hW0).mono ?_); rintro e w5 ⟨yn, ya, yl, yc, yr, yx, yw, rfl, hB5, hP⟩
          have HB5 := Lib.hid hB5
          have HP := Lib.hid hP
          have HI5 := Lib.hid (HI4.out.keep (hW0.trans (hB5.mono hW0.size)))
          have z5 : w5.cell? ⟨w.heap.size + 1 + 1, 0, none⟩ = some (.slice va k vc) := cell_of_row w5 _ 0 _ _ _ HI5.out.out
          have z5b : ∀ O, (w5.alloc O).cell? ⟨w.heap.size + 1 + 1, 0, none⟩ = some (.slice va k vc) := fun O => cell_kept z5 (below1 w5 O)
          clear hB5 hP)
       | (refine step_tab _ (by rfl) (.tmp 16) (.tmp 19) (by rfl) (w.heap.size + 3) (.slice va k vc) k (outs.map tabL).flatten (by rfl) (own_kept HI5.out.own (below1 w5 _) (Nat.le_refl _)) w5.heap.size 1 ⟨yn, ya, yl, yc, yr, yx, yw⟩ (by rfl) (heap_alloc_new w5 _) (by omega) (by have := heap_lt HI5.out.out; simp; omega) ?_
          intro v6 w6 hown hgr hat
          obtain ⟨g, cap, rfl⟩ := own_slice hown
          have HM := Lib.hid (HI5.out.more hown hgr hat (HNEW.out _ _ _ _ _ _ _ _ HP.out))
          have z6 := cell_of_row _ _ 0 _ _ _ HM.out.2
          have g6 := frozen_of_row _ _ 0 _ _ HM.out.2
          clear hown hgr hat)
       | fail)
     all_goals
       go_wp2_with fail
       go_roundw
       case rel => exact ⟨k + 1, _, _, _, by omega, by go_num, Lib.hid HM.out.1⟩
       case measure => simp [intOf] <;> omega
   · obtain rfl : k = n := by omega
     have o0 : wo.cell? ⟨w.heap.size + 1 + 1, 0, none⟩ = some (.slice va k vc) := cell_of_row _ _ 0 _ _ _ HI.out.out
     have o1 : wo.cell? ⟨w.heap.size + 1 + 1, 1, none⟩ = some (.slice none 0 0) := cell_of_row _ _ 1 _ _ _ HI.out.out
     have q0 := cell_of_row _ _ 0 _ _ _ HI.out.ans
     have q1 := cell_of_row _ _ 1 _ _ _ HI.out.ans
     have f0 := frozen_of_row _ _ 0 _ _ HI.out.ans
     have f1 := frozen_of_row _ _ 1 _ _ HI.out.ans
     go_wp2_with fail
     go_loop [26] (fun i => i = .int .i64 0) (fun _ => 0)
     case atStart => rfl
     case round =>
       subst hrel
       go_wp2_with fail
       refine bodyPost_ret (v := .agg #[.slice va k vc, .slice none 0 0]) (by simp [results, Tryz.results10, go_sem, q0, q1]) rfl ?_
       obtain ⟨d1, d2, d3, d4⟩ := HI.out.done (.slice va k vc) (.slice none 0 0)
       exact ⟨_, outs, rfl, d1, by rw [← HN.out]; exact d2, by rw [← HN.out]; exact d3, by have := heap_lt HI.out.out; simp only [World.setCell, Array.size_modify]; omega, d4⟩
end Go.Proofs.YtcgpflkaejbkhaaGreatDoor
namespace Go.Proofs.YtcgpflkaejbkhaaGreatDoor
open Go.RowKit

set_option maxHeartbeats 2000000 in
theorem isnan_any (s : ByteArray) (w : World) : Calls Tryz.prog 93 #[.string s] w (SameV (.bool false) w) := by
 go_enter Tryz.func93, Tryz.ntmps93
 go_wp2_with fail
 go_ret
 exact ⟨ret_b (by simp), rfl⟩
def ltN (a b : ByteArray) : Bool := Op.bytesLess a.toList b.toList
def cmpN (a b : ByteArray) : Int := if ltN a b then -1 else if sameN a b then 0 else 1
theorem cmpN_neg (a b : ByteArray) : decide (cmpN a b < 0) = ltN a b := by
 unfold cmpN
 cases ltN a b <;> cases sameN a b <;> rfl
set_option maxHeartbeats 2000000 in
theorem compare_any (x y : ByteArray) (w : World) : Calls Tryz.prog 58 #[.string x, .string y] w (SameV (.int .i64 (cmpN x y)) w) := by
 have HN := Lib.hid isnan_any
 obtain ⟨r, hr⟩ : ∃ r, r = cmpN x y := ⟨_, rfl⟩
 rw [← hr]
 have HR := Lib.hid hr
 clear hr
 cases h1 : Op.bytesLess x.toList y.toList with
 | true =>
   have HE := Lib.hid (show r = -1 by rw [HR.out]; unfold cmpN ltN; rw [h1]; rfl)
   go_enter Tryz.func58, Tryz.ntmps58
   go_wp2_with (first
     | (go_at_call 93; (with_reducible refine (HN.out _ _).mono ?_); rintro e w2 ⟨rfl, rfl⟩)
     | fail)
   go_ret
   exact ⟨by rw [HE.out]; rfl, rfl⟩
 | false =>
   cases h2 : (x.toList == y.toList) with
   | true =>
     have HE := Lib.hid (show r = 0 by rw [HR.out]; unfold cmpN ltN sameN; rw [h1, h2]; rfl)
     go_enter Tryz.func58, Tryz.ntmps58
     go_wp2_with (first
       | (go_at_call 93; (with_reducible refine (HN.out _ _).mono ?_); rintro e w2 ⟨rfl, rfl⟩)
       | fail)
     go_ret
     exact ⟨by rw [HE.out]; rfl, rfl⟩
   | false =>
     have HE := Lib.hid (show r = 1 by rw [HR.out]; unfold cmpN ltN sameN; rw [h1, h2]; rfl)
     go_enter Tryz.func58, Tryz.ntmps58
     go_wp2_with (first
       | (go_at_call 93; (with_reducible refine (HN.out _ _).mono ?_); rintro e w2 ⟨rfl, rfl⟩)
       | fail)
     go_ret
     exact ⟨by rw [HE.out]; rfl, rfl⟩
set_option maxRecDepth 100000 in
set_option maxHeartbeats 4000000 in
theorem order_tab (t u : Tab) (W : World) : Calls Tryz.prog 57 (#[.agg (tabL t).toArray, .agg (tabL u).toArray] ++ #[]) W (RetV (.int .i64 (cmpN t.name u.name)) W) := by
 obtain ⟨tn, ta, tl, tc, tr, tx, ts⟩ := t
 obtain ⟨un, ua, ul, uc, ur, ux, us⟩ := u
 show Calls Tryz.prog 57 #[.agg #[.string tn, .slice ta tl tc, .int .i64 tr, .int .i64 tx, .int .i64 ts], .agg #[.string un, .slice ua ul uc, .int .i64 ur, .int .i64 ux, .int .i64 us]] W (RetV (.int .i64 (cmpN tn un)) W)
 have HC := Lib.hid (compare_any tn un)
 have HB := Lib.hid (show Below W.heap.size W ((W.alloc (.cells #[.string tn, .slice ta tl tc, .int .i64 tr, .int .i64 tx, .int .i64 ts] 25)).alloc (.cells #[.string un, .slice ua ul uc, .int .i64 ur, .int .i64 ux, .int .i64 us] 25)) from (below1 W _).alloc (by simp) _)
 go_enter Tryz.func57, Tryz.ntmps57
 go_wp2_with (first
   | (go_at_call 58; (with_reducible refine (HC.out _).mono ?_); rintro e w2 ⟨rfl, rfl⟩)
   | fail)
 go_ret
 exact ⟨rfl, HB.out⟩
end Go.Proofs.YtcgpflkaejbkhaaGreatDoor
namespace Go.Proofs.YtcgpflkaejbkhaaGreatDoor
open Go.RowKit

def RowT (W : World) (g : Nat) (l : List Tab) : Prop := ∃ rest : List Value, W.heap[g]? = some (.cells ((l.map tabL).flatten ++ rest).toArray 25 (0, 0))
theorem RowT.cell {W : World} {g : Nat} {l : List Tab} (h : RowT W g l) {j : Nat} {t : Tab} (hj : l[j]? = some t) {i : Nat} {u : Value} (hi : (tabL t)[i]? = some u) : W.cell? ⟨g, j * 5 + i, none⟩ = some u := by
 obtain ⟨rest, hr⟩ := h
 rw [cell_of_row W g _ _ _ _ hr]
 have e := flat_get (K := 5) (tab_len l) (j := j) (x := tabL t) (by rw [List.getElem?_map, hj]; rfl) hi
 have hlt := (List.getElem?_eq_some_iff.1 e).1
 rw [List.getElem?_toArray, List.getElem?_append_left hlt]
 exact e
theorem RowT.free {W : World} {g : Nat} {l : List Tab} (h : RowT W g l) (j : Nat) : W.frozen? ⟨g, j, none⟩ = false := by
 obtain ⟨rest, hr⟩ := h
 exact frozen_of_row _ _ _ _ _ hr
theorem RowT.lt {W : World} {g : Nat} {l : List Tab} (h : RowT W g l) : g < W.heap.size := by
 obtain ⟨rest, hr⟩ := h
 exact heap_lt hr
theorem RowT.keep {W W' : World} {g : Nat} {l : List Tab} (h : RowT W g l) (hB : Below W.heap.size W W') : RowT W' g l := by
 obtain ⟨rest, hr⟩ := h
 exact ⟨rest, (hB.block g (heap_lt hr)).trans hr⟩
theorem set_list {W : World} {g : Nat} {L : List Value} (h : W.heap[g]? = some (.cells L.toArray 25 (0, 0))) (p : Nat) (u : Value) : (W.setCell ⟨g, p, none⟩ u).heap[g]? = some (.cells (L.set p u).toArray 25 (0, 0)) := by
 rw [setCell_eq_setRow W g p _ 25 _ _ h, setRow_heap W g _ _ 25 _ h]
 congr 2
 simp
theorem set_mid (pre post M : List Value) (i : Nat) (u : Value) (hi : i < M.length) : (pre ++ M ++ post).set (pre.length + i) u = pre ++ M.set i u ++ post := by
 rw [List.append_assoc, List.set_append_right _ _ (by omega), List.append_assoc, show pre.length + i - pre.length = i by omega, List.set_append_left _ _ hi]
theorem grown_set (W : World) (b j : Nat) (v : Value) : W.grownBy (W.setCell ⟨b, j, none⟩ v) (some b) :=
 ⟨rfl, rfl, rfl, by simp [World.setCell], fun k _ hne => heap_setFar v (fun e => hne (by rw [e]))⟩
def swapT (l : List Tab) (j : Nat) : List Tab := match l[j]?, l[j + 1]? with
 | some x, some y => (l.set j y).set (j + 1) x
 | _, _ => l
theorem swapT_len (l : List Tab) (j : Nat) : (swapT l j).length = l.length := by
 unfold swapT
 split <;> simp
theorem swap_parts {l : List Tab} {j : Nat} {x y : Tab} (hx : l[j]? = some x) (hy : l[j + 1]? = some y) : l = l.take j ++ x :: y :: l.drop (j + 2) ∧ swapT l j = l.take j ++ y :: x :: l.drop (j + 2) := by
 have h1 := (List.getElem?_eq_some_iff.1 hx)
 have h2 := (List.getElem?_eq_some_iff.1 hy)
 obtain ⟨hj, e1⟩ := h1
 obtain ⟨hj2, e2⟩ := h2
 have hd : l.drop j = x :: y :: l.drop (j + 2) := by
   rw [List.drop_eq_getElem_cons hj, e1, List.drop_eq_getElem_cons hj2, e2]
 have hl : l = l.take j ++ x :: y :: l.drop (j + 2) := by
   conv => lhs; rw [← List.take_append_drop j l, hd]
 refine ⟨hl, ?_⟩
 unfold swapT
 rw [hx, hy]
 dsimp only
 have ht : (l.take j).length = j := by rw [List.length_take]; omega
 generalize l.take j = p at hl ht ⊢
 generalize l.drop (j + 2) = q at hl ⊢
 subst hl
 subst ht
 rw [List.set_append_right _ _ (Nat.le_refl _), Nat.sub_self, List.set_append_right _ _ (by omega), show p.length + 1 - p.length = 1 by omega]
 rfl
def setTab (W : World) (g p : Nat) (t : Tab) : World := ((((W.setCell ⟨g, p, none⟩ (.string t.name)).setCell ⟨g, p + 1, none⟩ (.slice t.ca t.cn t.cc)).setCell ⟨g, p + 2, none⟩ (.int .i64 t.root)).setCell ⟨g, p + 3, none⟩ (.int .i64 t.next)).setCell ⟨g, p + 4, none⟩ (.int .i64 t.rows)
theorem setTab_grown (W : World) (g p : Nat) (t : Tab) : W.grownBy (setTab W g p t) (some g) :=
 ((((grown_set W g p _).trans (grown_set _ g _ _)).trans (grown_set _ g _ _)).trans (grown_set _ g _ _)).trans (grown_set _ g _ _)
theorem setTab_list {W : World} {g : Nat} {pre post : List Value} {t0 : Tab} (t : Tab) (h : W.heap[g]? = some (.cells (pre ++ tabL t0 ++ post).toArray 25 (0, 0))) : (setTab W g pre.length t).heap[g]? = some (.cells (pre ++ tabL t ++ post).toArray 25 (0, 0)) := by
 unfold setTab
 have h1 := set_list h (pre.length + 0) (.string t.name)
 rw [set_mid pre post _ 0 _ (by simp [tabL])] at h1
 have h2 := set_list h1 (pre.length + 1) (.slice t.ca t.cn t.cc)
 rw [set_mid pre post _ 1 _ (by simp [tabL])] at h2
 have h3 := set_list h2 (pre.length + 2) (.int .i64 t.root)
 rw [set_mid pre post _ 2 _ (by simp [tabL])] at h3
 have h4 := set_list h3 (pre.length + 3) (.int .i64 t.next)
 rw [set_mid pre post _ 3 _ (by simp [tabL])] at h4
 have h5 := set_list h4 (pre.length + 4) (.int .i64 t.rows)
 rw [set_mid pre post _ 4 _ (by simp [tabL])] at h5
 exact h5
theorem flat_take (l : List Tab) (j : Nat) (hj : j ≤ l.length) : ((l.take j).map tabL).flatten.length = j * 5 := by
 rw [flat_len (tab_len _), List.length_map, List.length_take, Nat.min_eq_left hj]
theorem RowT.swap {W : World} {g : Nat} {l : List Tab} (h : RowT W g l) {j : Nat} {x y : Tab} (hx : l[j]? = some x) (hy : l[j + 1]? = some y) :
   RowT (setTab (setTab W g (j * 5) y) g ((j + 1) * 5) x) g (swapT l j) ∧ RowT (setTab (setTab W g ((j + 1) * 5) x) g (j * 5) y) g (swapT l j) := by
 obtain ⟨rest, hr⟩ := h
 obtain ⟨hl, hs⟩ := swap_parts hx hy
 have hj := (List.getElem?_eq_some_iff.1 hx).1
 have hp := flat_take l j (Nat.le_of_lt hj)
 rw [hs]
 generalize l.drop (j + 2) = q at hl
 have hf : (l.map tabL).flatten = ((l.take j).map tabL).flatten ++ (tabL x ++ (tabL y ++ (q.map tabL).flatten)) := by
   conv => lhs; rw [hl]
   simp
 rw [hf] at hr
 have hf2 : ((l.take j ++ y :: x :: q).map tabL).flatten = ((l.take j).map tabL).flatten ++ (tabL y ++ (tabL x ++ (q.map tabL).flatten)) := by simp
 unfold RowT
 rw [hf2]
 generalize ((l.take j).map tabL).flatten = p at hr hp
 generalize (q.map tabL).flatten = z at hr
 have hpy : (p ++ tabL y).length = (j + 1) * 5 := by rw [List.length_append, hp, show (tabL y).length = 5 from rfl]; omega
 have hpx : (p ++ tabL x).length = (j + 1) * 5 := by rw [List.length_append, hp, show (tabL x).length = 5 from rfl]; omega
 refine ⟨⟨rest, ?_⟩, ⟨rest, ?_⟩⟩
 · have h1 := setTab_list (pre := p) (t0 := x) (post := tabL y ++ z ++ rest) y (by rw [hr]; simp [List.append_assoc])
   have h2 := setTab_list (pre := p ++ tabL y) (t0 := y) (post := z ++ rest) x (by rw [h1]; simp [List.append_assoc])
   rw [hpy, hp] at h2
   rw [h2]
   simp [List.append_assoc]
 · have h1 := setTab_list (pre := p ++ tabL x) (t0 := y) (post := z ++ rest) x (by rw [hr]; simp [List.append_assoc])
   have h2 := setTab_list (pre := p) (t0 := x) (post := tabL x ++ z ++ rest) y (by rw [h1]; simp [List.append_assoc])
   rw [hpx, hp] at h2
   rw [h2]
   simp [List.append_assoc]
end Go.Proofs.YtcgpflkaejbkhaaGreatDoor
