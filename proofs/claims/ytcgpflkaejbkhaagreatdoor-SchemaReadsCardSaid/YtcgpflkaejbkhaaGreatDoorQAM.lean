/- A row of tables that is put in order: what it holds, two that change places. -/
import Derived.Test.YtcgpflkaejbkhaaGreatDoorQAL
import Derived.IntWalk
namespace Go.Proofs.YtcgpflkaejbkhaaGreatDoor
open Go.RowKit

set_option maxRecDepth 100000 in
set_option maxHeartbeats 4000000 in
theorem order_idx (t u : Idx) (W : World) : Calls Tryz.prog 62 (#[.agg (idxL t).toArray, .agg (idxL u).toArray] ++ #[]) W (RetV (.int .i64 (cmpN t.name u.name)) W) := by
 obtain ⟨tn, tt, ta, tl, tc, tr, tx, ts⟩ := t
 obtain ⟨un, ut, ua, ul, uc, ur, ux, us⟩ := u
 show Calls Tryz.prog 62 #[.agg #[.string tn, .string tt, .slice ta tl tc, .int .i64 tr, .int .i64 tx, .int .i64 ts], .agg #[.string un, .string ut, .slice ua ul uc, .int .i64 ur, .int .i64 ux, .int .i64 us]] W (RetV (.int .i64 (cmpN tn un)) W)
 have HC := Lib.hid (compare_any tn un)
 have HB := Lib.hid (show Below W.heap.size W ((W.alloc (.cells #[.string tn, .string tt, .slice ta tl tc, .int .i64 tr, .int .i64 tx, .int .i64 ts] 28)).alloc (.cells #[.string un, .string ut, .slice ua ul uc, .int .i64 ur, .int .i64 ux, .int .i64 us] 28)) from (below1 W _).alloc (by simp) _)
 go_enter Tryz.func62, Tryz.ntmps62
 go_wp2_with (first
   | (go_at_call 58; (with_reducible refine (HC.out _).mono ?_); rintro e w2 ⟨rfl, rfl⟩)
   | fail)
 go_ret
 exact ⟨rfl, HB.out⟩
def RowX (W : World) (g : Nat) (l : List Idx) : Prop := ∃ rest : List Value, W.heap[g]? = some (.cells ((l.map idxL).flatten ++ rest).toArray 28 (0, 0))
theorem RowX.cell {W : World} {g : Nat} {l : List Idx} (h : RowX W g l) {j : Nat} {t : Idx} (hj : l[j]? = some t) {i : Nat} {u : Value} (hi : (idxL t)[i]? = some u) : W.cell? ⟨g, j * 6 + i, none⟩ = some u := by
 obtain ⟨rest, hr⟩ := h
 rw [cell_of_row W g _ _ _ _ hr]
 have e := flat_get (K := 6) (idx_len l) (j := j) (x := idxL t) (by rw [List.getElem?_map, hj]; rfl) hi
 have hlt := (List.getElem?_eq_some_iff.1 e).1
 rw [List.getElem?_toArray, List.getElem?_append_left hlt]
 exact e
theorem RowX.free {W : World} {g : Nat} {l : List Idx} (h : RowX W g l) (j : Nat) : W.frozen? ⟨g, j, none⟩ = false := by
 obtain ⟨rest, hr⟩ := h
 exact frozen_of_row _ _ _ _ _ hr
theorem RowX.lt {W : World} {g : Nat} {l : List Idx} (h : RowX W g l) : g < W.heap.size := by
 obtain ⟨rest, hr⟩ := h
 exact heap_lt hr
theorem RowX.keep {W W' : World} {g : Nat} {l : List Idx} (h : RowX W g l) (hB : Below W.heap.size W W') : RowX W' g l := by
 obtain ⟨rest, hr⟩ := h
 exact ⟨rest, (hB.block g (heap_lt hr)).trans hr⟩
theorem set_listX {W : World} {g : Nat} {L : List Value} (h : W.heap[g]? = some (.cells L.toArray 28 (0, 0))) (p : Nat) (u : Value) : (W.setCell ⟨g, p, none⟩ u).heap[g]? = some (.cells (L.set p u).toArray 28 (0, 0)) := by
 rw [setCell_eq_setRow W g p _ 28 _ _ h, setRow_heap W g _ _ 28 _ h]
 congr 2
 simp
def swapX (l : List Idx) (j : Nat) : List Idx := match l[j]?, l[j + 1]? with
 | some x, some y => (l.set j y).set (j + 1) x
 | _, _ => l
theorem swapX_len (l : List Idx) (j : Nat) : (swapX l j).length = l.length := by
 unfold swapX
 split <;> simp
theorem swapX_parts {l : List Idx} {j : Nat} {x y : Idx} (hx : l[j]? = some x) (hy : l[j + 1]? = some y) : l = l.take j ++ x :: y :: l.drop (j + 2) ∧ swapX l j = l.take j ++ y :: x :: l.drop (j + 2) := by
 have h1 := (List.getElem?_eq_some_iff.1 hx)
 have h2 := (List.getElem?_eq_some_iff.1 hy)
 obtain ⟨hj, e1⟩ := h1
 obtain ⟨hj2, e2⟩ := h2
 have hd : l.drop j = x :: y :: l.drop (j + 2) := by
   rw [List.drop_eq_getElem_cons hj, e1, List.drop_eq_getElem_cons hj2, e2]
 have hl : l = l.take j ++ x :: y :: l.drop (j + 2) := by
   conv => lhs; rw [← List.take_append_drop j l, hd]
 refine ⟨hl, ?_⟩
 unfold swapX
 rw [hx, hy]
 dsimp only
 have ht : (l.take j).length = j := by rw [List.length_take]; omega
 generalize l.take j = p at hl ht ⊢
 generalize l.drop (j + 2) = q at hl ⊢
 subst hl
 subst ht
 rw [List.set_append_right _ _ (Nat.le_refl _), Nat.sub_self, List.set_append_right _ _ (by omega), show p.length + 1 - p.length = 1 by omega]
 rfl
def setIdx (W : World) (g p : Nat) (t : Idx) : World := (((((W.setCell ⟨g, p, none⟩ (.string t.name)).setCell ⟨g, p + 1, none⟩ (.string t.table)).setCell ⟨g, p + 2, none⟩ (.slice t.pa t.pn t.pc)).setCell ⟨g, p + 3, none⟩ (.int .i64 t.state)).setCell ⟨g, p + 4, none⟩ (.int .i64 t.root)).setCell ⟨g, p + 5, none⟩ (.int .i64 t.cursor)
theorem setIdx_grown (W : World) (g p : Nat) (t : Idx) : W.grownBy (setIdx W g p t) (some g) :=
 (((((grown_set W g p _).trans (grown_set _ g _ _)).trans (grown_set _ g _ _)).trans (grown_set _ g _ _)).trans (grown_set _ g _ _)).trans (grown_set _ g _ _)
theorem setIdx_list {W : World} {g : Nat} {pre post : List Value} {t0 : Idx} (t : Idx) (h : W.heap[g]? = some (.cells (pre ++ idxL t0 ++ post).toArray 28 (0, 0))) : (setIdx W g pre.length t).heap[g]? = some (.cells (pre ++ idxL t ++ post).toArray 28 (0, 0)) := by
 unfold setIdx
 have h1 := set_listX h (pre.length + 0) (.string t.name)
 rw [set_mid pre post _ 0 _ (by simp [idxL])] at h1
 have h2 := set_listX h1 (pre.length + 1) (.string t.table)
 rw [set_mid pre post _ 1 _ (by simp [idxL])] at h2
 have h3 := set_listX h2 (pre.length + 2) (.slice t.pa t.pn t.pc)
 rw [set_mid pre post _ 2 _ (by simp [idxL])] at h3
 have h4 := set_listX h3 (pre.length + 3) (.int .i64 t.state)
 rw [set_mid pre post _ 3 _ (by simp [idxL])] at h4
 have h5 := set_listX h4 (pre.length + 4) (.int .i64 t.root)
 rw [set_mid pre post _ 4 _ (by simp [idxL])] at h5
 have h6 := set_listX h5 (pre.length + 5) (.int .i64 t.cursor)
 rw [set_mid pre post _ 5 _ (by simp [idxL])] at h6
 exact h6
theorem flat_takeX (l : List Idx) (j : Nat) (hj : j ≤ l.length) : ((l.take j).map idxL).flatten.length = j * 6 := by
 rw [flat_len (idx_len _), List.length_map, List.length_take, Nat.min_eq_left hj]
theorem RowX.swap {W : World} {g : Nat} {l : List Idx} (h : RowX W g l) {j : Nat} {x y : Idx} (hx : l[j]? = some x) (hy : l[j + 1]? = some y) :
   RowX (setIdx (setIdx W g (j * 6) y) g ((j + 1) * 6) x) g (swapX l j) ∧ RowX (setIdx (setIdx W g ((j + 1) * 6) x) g (j * 6) y) g (swapX l j) := by
 obtain ⟨rest, hr⟩ := h
 obtain ⟨hl, hs⟩ := swapX_parts hx hy
 have hj := (List.getElem?_eq_some_iff.1 hx).1
 have hp := flat_takeX l j (Nat.le_of_lt hj)
 rw [hs]
 generalize l.drop (j + 2) = q at hl
 have hf : (l.map idxL).flatten = ((l.take j).map idxL).flatten ++ (idxL x ++ (idxL y ++ (q.map idxL).flatten)) := by
   conv => lhs; rw [hl]
   simp
 rw [hf] at hr
 have hf2 : ((l.take j ++ y :: x :: q).map idxL).flatten = ((l.take j).map idxL).flatten ++ (idxL y ++ (idxL x ++ (q.map idxL).flatten)) := by simp
 unfold RowX
 rw [hf2]
 generalize ((l.take j).map idxL).flatten = p at hr hp
 generalize (q.map idxL).flatten = z at hr
 have hpy : (p ++ idxL y).length = (j + 1) * 6 := by rw [List.length_append, hp, show (idxL y).length = 6 from rfl]; omega
 have hpx : (p ++ idxL x).length = (j + 1) * 6 := by rw [List.length_append, hp, show (idxL x).length = 6 from rfl]; omega
 refine ⟨⟨rest, ?_⟩, ⟨rest, ?_⟩⟩
 · have h1 := setIdx_list (pre := p) (t0 := x) (post := idxL y ++ z ++ rest) y (by rw [hr]; simp [List.append_assoc])
   have h2 := setIdx_list (pre := p ++ idxL y) (t0 := y) (post := z ++ rest) x (by rw [h1]; simp [List.append_assoc])
   rw [hpy, hp] at h2
   rw [h2]
   simp [List.append_assoc]
 · have h1 := setIdx_list (pre := p ++ idxL x) (t0 := y) (post := z ++ rest) x (by rw [hr]; simp [List.append_assoc])
   have h2 := setIdx_list (pre := p) (t0 := x) (post := idxL x ++ z ++ rest) y (by rw [h1]; simp [List.append_assoc])
   rw [hpx, hp] at h2
   rw [h2]
   simp [List.append_assoc]
end Go.Proofs.YtcgpflkaejbkhaaGreatDoor
namespace Go.Proofs.YtcgpflkaejbkhaaGreatDoor
open Go.RowKit

def sinkX : Nat → List Idx → List Idx
 | 0, l => l
 | j + 1, l => match l[j]?, l[j + 1]? with
   | some x, some y => if ltN y.name x.name then sinkX j (swapX l j) else l
   | _, _ => l
def isortX : Nat → Nat → List Idx → List Idx
 | 0, _, l => l
 | f + 1, i, l => isortX f (i + 1) (sinkX i l)
def SortX (w : World) (g n : Nat) (l : List Idx) (W : World) : Prop := RowX W g l ∧ w.grownBy W (some g) ∧ l.length = n
theorem SortX.keep {w W W' : World} {g n : Nat} {l : List Idx} (h : SortX w g n l W) (hB : Below W.heap.size W W') : SortX w g n l W' :=
 ⟨h.1.keep hB, h.2.1.trans ⟨hB.os, hB.tape, hB.output, hB.size, fun k hk _ => hB.block k hk⟩, h.2.2⟩
theorem SortX.drew {w W : World} {g n : Nat} {l : List Idx} (h : SortX w g n l W) : SortX w g n l W.drew := h.keep (Below.refl _ _).drew
theorem SortX.swap {w W : World} {g n : Nat} {l : List Idx} (h : SortX w g n l W) {j : Nat} {x y : Idx} (hx : l[j]? = some x) (hy : l[j + 1]? = some y) :
   SortX w g n (swapX l j) (setIdx (setIdx W g (j * 6) y) g ((j + 1) * 6) x) ∧ SortX w g n (swapX l j) (setIdx (setIdx W g ((j + 1) * 6) x) g (j * 6) y) :=
 ⟨⟨(h.1.swap hx hy).1, (h.2.1.trans (setIdx_grown _ _ _ _)).trans (setIdx_grown _ _ _ _), by rw [swapX_len]; exact h.2.2⟩,
  ⟨(h.1.swap hx hy).2, (h.2.1.trans (setIdx_grown _ _ _ _)).trans (setIdx_grown _ _ _ _), by rw [swapX_len]; exact h.2.2⟩⟩
set_option maxRecDepth 100000 in
set_option maxHeartbeats 16000000 in
theorem iinsertion_any (g cap n : Nat) (l0 : List Idx) (w : World) (hn : n ≤ 20) (h : RowX w g l0) (hl : l0.length = n) (_ : n ≤ cap) :
   Calls Tryz.prog 115 #[.slice (some ⟨g, 0, none⟩) n cap, .int .i64 0, .int .i64 n, .func (.func 62) #[] #[]] w fun e w' => e = .returned (.tuple #[]) ∧ SortX w g n (isortX (n - 1) 1 l0) w' := by
 have HST := Lib.hid (show SortX w g n l0 w from ⟨h, World.grownBy.refl _ _, hl⟩)
 have HOT := Lib.hid order_idx
 obtain ⟨R, hR⟩ : ∃ R, R = isortX (n - 1) 1 l0 := ⟨_, rfl⟩
 rw [← hR]
 have HR := Lib.hid hR
 clear h hl hR
 go_enter Tryz.func115, Tryz.ntmps115
 go_wp2_with fail
 go_loopw [8] (fun i wr => ∃ (k : Nat) (l : List Idx), 1 ≤ k ∧ (k ≤ n ∨ k = 1) ∧ i = .int .i64 k ∧ Hid (SortX w g n l wr) ∧ Hid (R = isortX (n - k) k l)) (fun i _ => n - (intOf i).toNat)
 case atStart => exact ⟨1, l0, Nat.le_refl _, Or.inr rfl, by go_num, HST, HR⟩
 case round =>
   obtain ⟨k, l, hk1, hk, rfl, HS, HRR⟩ := hrel
   obtain ⟨wo, rfl⟩ : ∃ wo : World, wo = wr := ⟨_, rfl⟩
   by_cases hlt : k < n
   · obtain ⟨S, hS⟩ : ∃ S, S = sinkX k l := ⟨_, rfl⟩
     have HSS := Lib.hid hS
     have HRN := Lib.hid (show R = isortX (n - (k + 1)) (k + 1) S by rw [HRR.out, show n - k = (n - (k + 1)) + 1 by omega, hS]; rfl)
     clear hS
     go_wp2_with fail
     go_loopw [9] (fun i wr => ∃ (j : Nat) (q : List Idx), j ≤ k ∧ i = .int .i64 j ∧ Hid (SortX w g n q wr) ∧ Hid (S = sinkX j q)) (fun i _ => (intOf i).toNat)
     case atStart => exact ⟨k, l, Nat.le_refl _, rfl, HS, HSS⟩
     case round =>
       obtain ⟨j, q, hj, rfl, HQ, HSQ⟩ := hrel
       obtain ⟨wi, rfl⟩ : ∃ wi : World, wi = wr := ⟨_, rfl⟩
       cases j with
       | zero =>
         go_wp2_with fail
         refine wp_region_held_drew (S := (fun wx => Below wi.heap.size wi wx)) (by kernel_rfl) ((Below.refl _ _).drew) (fun hHeld => ?_)
         (try dsimp only at hHeld)
         refine wpAnyH_take (i := 0) (v := ?_) (List.getElem?_toArray.trans rfl) (by kernel_rfl) (by kernel_rfl) (by kernel_rfl) (fun _ _ _ h => h) (Or.inl ⟨by rfl, ?_⟩) hHeld ?_
         rotate_left
         · intro wx hSw
           (try dsimp only at hSw)
           go_simp
           (try with_reducible rfl)
         (try simp only [Act.put, List.setIfInBounds_toArray, List.set_cons_zero, List.set_cons_succ])
         refine wpAnyH_take (i := 1) (v := ?_) (List.getElem?_toArray.trans rfl) (by kernel_rfl) (by kernel_rfl) (by kernel_rfl) (fun _ _ _ h => h) (Or.inl ⟨by rfl, ?_⟩) hHeld ?_
         rotate_left
         · intro wx hSw
           (try dsimp only at hSw)
           go_simp
           (try with_reducible rfl)
         (try simp only [Act.put, List.setIfInBounds_toArray, List.set_cons_zero, List.set_cons_succ])
         refine wpAnyH_take (i := 2) (v := ?_) (List.getElem?_toArray.trans rfl) (by kernel_rfl) (by kernel_rfl) (by kernel_rfl) (fun _ _ _ h => h) (Or.inl ⟨by rfl, ?_⟩) hHeld ?_
         rotate_left
         · intro wx hSw
           (try dsimp only at hSw)
           go_simp
           (try with_reducible rfl)
         (try simp only [Act.put, List.setIfInBounds_toArray, List.set_cons_zero, List.set_cons_succ])
         refine wpAnyH_take (i := 3) (v := ?_) (List.getElem?_toArray.trans rfl) (by kernel_rfl) (by kernel_rfl) (by kernel_rfl) (fun _ _ _ h => h) (Or.inl ⟨by rfl, ?_⟩) hHeld ?_
         rotate_left
         · intro wx hSw
           (try dsimp only at hSw)
           go_simp
           (try with_reducible rfl)
         (try simp only [Act.put, List.setIfInBounds_toArray, List.set_cons_zero, List.set_cons_succ])
         refine wpAnyH_take (i := 4) (List.getElem?_toArray.trans rfl) (by kernel_rfl) (by kernel_rfl) (by kernel_rfl) (fun _ _ _ h => h) (Or.inr ⟨by rfl, rfl⟩) hHeld ?_
         (try simp only [Act.put, List.setIfInBounds_toArray, List.set_cons_zero, List.set_cons_succ])
         refine wpAnyH_take (i := 5) (List.getElem?_toArray.trans rfl) (by kernel_rfl) (by kernel_rfl) (by kernel_rfl) (fun _ _ _ h => h) (Or.inr ⟨by rfl, rfl⟩) hHeld ?_
         (try simp only [Act.put, List.setIfInBounds_toArray, List.set_cons_zero, List.set_cons_succ])
         refine wpAnyH_take (i := 6) (List.getElem?_toArray.trans rfl) (by kernel_rfl) (by kernel_rfl) (by kernel_rfl) (fun _ _ _ h => h) (Or.inr ⟨by rfl, rfl⟩) hHeld ?_
         (try simp only [Act.put, List.setIfInBounds_toArray, List.set_cons_zero, List.set_cons_succ])
         refine wpAnyH_take (i := 7) (List.getElem?_toArray.trans rfl) (by kernel_rfl) (by kernel_rfl) (by kernel_rfl) (fun _ _ _ h => h) (Or.inr ⟨by rfl, rfl⟩) hHeld ?_
         (try simp only [Act.put, List.setIfInBounds_toArray, List.set_cons_zero, List.set_cons_succ])
         refine wpAnyH_take (i := 8) (List.getElem?_toArray.trans rfl) (by kernel_rfl) (by kernel_rfl) (by kernel_rfl) (fun _ _ _ h => h) (Or.inr ⟨by rfl, rfl⟩) hHeld ?_
         (try simp only [Act.put, List.setIfInBounds_toArray, List.set_cons_zero, List.set_cons_succ])
         refine wpAnyH_take (i := 9) (List.getElem?_toArray.trans rfl) (by kernel_rfl) (by kernel_rfl) (by kernel_rfl) (fun _ _ _ h => h) (Or.inr ⟨by rfl, rfl⟩) hHeld ?_
         (try simp only [Act.put, List.setIfInBounds_toArray, List.set_cons_zero, List.set_cons_succ])
         refine wpAnyH_take (i := 10) (List.getElem?_toArray.trans rfl) (by kernel_rfl) (by kernel_rfl) (by kernel_rfl) (fun _ _ _ h => h) (Or.inr ⟨by rfl, rfl⟩) hHeld ?_
         (try simp only [Act.put, List.setIfInBounds_toArray, List.set_cons_zero, List.set_cons_succ])
         refine wpAnyH_take (i := 11) (List.getElem?_toArray.trans rfl) (by kernel_rfl) (by kernel_rfl) (by kernel_rfl) (fun _ _ _ h => h) (Or.inr ⟨by rfl, rfl⟩) hHeld ?_
         (try simp only [Act.put, List.setIfInBounds_toArray, List.set_cons_zero, List.set_cons_succ])
         refine wpAnyH_take (i := 12) (List.getElem?_toArray.trans rfl) (by kernel_rfl) (by kernel_rfl) (by kernel_rfl) (fun _ _ _ h => h) (Or.inr ⟨by rfl, rfl⟩) hHeld ?_
         (try simp only [Act.put, List.setIfInBounds_toArray, List.set_cons_zero, List.set_cons_succ])
         refine wpAnyH_take (i := 13) (List.getElem?_toArray.trans rfl) (by kernel_rfl) (by kernel_rfl) (by kernel_rfl) (fun _ _ _ h => h) (Or.inr ⟨by rfl, rfl⟩) hHeld ?_
         (try simp only [Act.put, List.setIfInBounds_toArray, List.set_cons_zero, List.set_cons_succ])
         refine wpAnyH_take (i := 14) (List.getElem?_toArray.trans rfl) (by kernel_rfl) (by kernel_rfl) (by kernel_rfl) (fun _ _ _ h => h) (Or.inr ⟨by rfl, rfl⟩) hHeld ?_
         (try simp only [Act.put, List.setIfInBounds_toArray, List.set_cons_zero, List.set_cons_succ])
         refine wpAnyH_take (i := 15) (List.getElem?_toArray.trans rfl) (by kernel_rfl) (by kernel_rfl) (by kernel_rfl) (fun _ _ _ h => h) (Or.inr ⟨by rfl, rfl⟩) hHeld ?_
         (try simp only [Act.put, List.setIfInBounds_toArray, List.set_cons_zero, List.set_cons_succ])
         refine wpAnyH_take (i := 16) (v := ?_) (List.getElem?_toArray.trans rfl) (by kernel_rfl) (by kernel_rfl) (by kernel_rfl) (fun _ _ _ h => h) (Or.inl ⟨by rfl, ?_⟩) hHeld ?_
         rotate_left
         · intro wx hSw
           (try dsimp only at hSw)
           go_simp
           (try with_reducible rfl)
         (try simp only [Act.put, List.setIfInBounds_toArray, List.set_cons_zero, List.set_cons_succ])
         refine wpAnyH_done (by kernel_rfl) ?_ _
         have HK := Lib.hid (HQ.out.keep hHeld)
         go_wp2_with fail
         go_roundw
         case rel => exact ⟨k + 1, S, by omega, Or.inl (by omega), by go_num, (by rw [HSQ.out]; exact HK), HRN⟩
         case measure => simp [intOf] <;> omega
       | succ j =>
         obtain ⟨hrow, hgrown, hlen⟩ := HQ.out
         obtain ⟨x, hx⟩ : ∃ x, q[j]? = some x := ⟨_, List.getElem?_eq_getElem (by omega)⟩
         obtain ⟨y, hy⟩ : ∃ y, q[j + 1]? = some y := ⟨_, List.getElem?_eq_getElem (by omega)⟩
         have HX := Lib.hid hx
         have HY := Lib.hid hy
         have HROW := Lib.hid hrow
         have hglt := hrow.lt
         have HST2 := Lib.hid (show sinkX (j + 1) q = if ltN y.name x.name then sinkX j (swapX q j) else q by
           conv => lhs; unfold sinkX
           rw [hx, hy])
         have HSW := Lib.hid (fun W (h : SortX w g n q W) => h.swap hx hy)
         obtain ⟨r, hr⟩ : ∃ r, r = cmpN y.name x.name := ⟨_, rfl⟩
         have HLT := Lib.hid (show decide (r < 0) = ltN y.name x.name by rw [hr]; exact cmpN_neg _ _)
         have HOR := Lib.hid (fun W => HOT.out y x W)
         rw [← hr] at HOR
         clear hr hx hy hrow hgrown
         obtain ⟨xn, xt, xa, xl, xc, xr, xx, xs⟩ := x
         obtain ⟨yn, yt, ya, yl, yc, yr, yx, ys⟩ := y
         have HOR := Lib.hid (show ∀ W, Calls Tryz.prog 62 #[.agg #[.string yn, .string yt, .slice ya yl yc, .int .i64 yr, .int .i64 yx, .int .i64 ys], .agg #[.string xn, .string xt, .slice xa xl xc, .int .i64 xr, .int .i64 xx, .int .i64 xs]] W (RetV (.int .i64 r) W) from HOR.out)
         have HSX := Lib.hid (show ∀ wx, Below wi.heap.size wi wx → Below wi.heap.size wi wx ∧ wx.cell? ⟨g, j * 6, none⟩ = some (.string xn) ∧ wx.cell? ⟨g, j * 6 + 1, none⟩ = some (.string xt) ∧ wx.cell? ⟨g, j * 6 + 2, none⟩ = some (.slice xa xl xc) ∧ wx.cell? ⟨g, j * 6 + 3, none⟩ = some (.int .i64 xr) ∧ wx.cell? ⟨g, j * 6 + 4, none⟩ = some (.int .i64 xx) ∧ wx.cell? ⟨g, j * 6 + 5, none⟩ = some (.int .i64 xs) ∧ wx.cell? ⟨g, (j + 1) * 6, none⟩ = some (.string yn) ∧ wx.cell? ⟨g, (j + 1) * 6 + 1, none⟩ = some (.string yt) ∧ wx.cell? ⟨g, (j + 1) * 6 + 2, none⟩ = some (.slice ya yl yc) ∧ wx.cell? ⟨g, (j + 1) * 6 + 3, none⟩ = some (.int .i64 yr) ∧ wx.cell? ⟨g, (j + 1) * 6 + 4, none⟩ = some (.int .i64 yx) ∧ wx.cell? ⟨g, (j + 1) * 6 + 5, none⟩ = some (.int .i64 ys) from fun wx h => by
           have hR : RowX wx g q := HROW.out.keep h
           exact ⟨h, hR.cell HX.out (i := 0) rfl, hR.cell HX.out (i := 1) rfl, hR.cell HX.out (i := 2) rfl, hR.cell HX.out (i := 3) rfl, hR.cell HX.out (i := 4) rfl, hR.cell HX.out (i := 5) rfl, hR.cell HY.out (i := 0) rfl, hR.cell HY.out (i := 1) rfl, hR.cell HY.out (i := 2) rfl, hR.cell HY.out (i := 3) rfl, hR.cell HY.out (i := 4) rfl, hR.cell HY.out (i := 5) rfl⟩)
         have hkk : ((j : Int) + 1).toNat = j + 1 := by omega
         have hjn : (j : Int) + 1 < (n : Int) := by omega
         have hjn2 : j + 1 < n := by omega
         have hjn3 : j < n := by omega
         have hj0 : ((0 : Int) ≤ (j : Int) + 1) = True := eq_true (by omega)
         have hw1 : IntKind.i64.wrap (j : Int) = (j : Int) := IntWalk.i64_in _ (by omega)
         by_cases hneg : r < 0
         · have HE := Lib.hid (show S = sinkX j (swapX q j) by
             have h := HLT.out
             rw [decide_eq_true hneg] at h
             rw [HSQ.out, HST2.out]
             exact if_pos h.symm)
           go_wp2_with fail
           refine wp_region_held_drew (S := (fun wx => Below wi.heap.size wi wx ∧ wx.cell? ⟨g, j * 6, none⟩ = some (.string xn) ∧ wx.cell? ⟨g, j * 6 + 1, none⟩ = some (.string xt) ∧ wx.cell? ⟨g, j * 6 + 2, none⟩ = some (.slice xa xl xc) ∧ wx.cell? ⟨g, j * 6 + 3, none⟩ = some (.int .i64 xr) ∧ wx.cell? ⟨g, j * 6 + 4, none⟩ = some (.int .i64 xx) ∧ wx.cell? ⟨g, j * 6 + 5, none⟩ = some (.int .i64 xs) ∧ wx.cell? ⟨g, (j + 1) * 6, none⟩ = some (.string yn) ∧ wx.cell? ⟨g, (j + 1) * 6 + 1, none⟩ = some (.string yt) ∧ wx.cell? ⟨g, (j + 1) * 6 + 2, none⟩ = some (.slice ya yl yc) ∧ wx.cell? ⟨g, (j + 1) * 6 + 3, none⟩ = some (.int .i64 yr) ∧ wx.cell? ⟨g, (j + 1) * 6 + 4, none⟩ = some (.int .i64 yx) ∧ wx.cell? ⟨g, (j + 1) * 6 + 5, none⟩ = some (.int .i64 ys))) (by kernel_rfl) (HSX.out _ (Below.refl _ _).drew) (fun hHeld => ?_)
           (try dsimp only at hHeld)
           refine wpAnyH_take (i := 0) (v := ?_) (List.getElem?_toArray.trans rfl) (by kernel_rfl) (by kernel_rfl) (by kernel_rfl) (fun _ _ _ h => h) (Or.inl ⟨by rfl, ?_⟩) hHeld ?_
           rotate_left
           · intro wx hSw
             (try dsimp only at hSw)
             go_simp
             (try with_reducible rfl)
           (try simp only [Act.put, List.setIfInBounds_toArray, List.set_cons_zero, List.set_cons_succ])
           refine wpAnyH_take (i := 1) (v := ?_) (List.getElem?_toArray.trans rfl) (by kernel_rfl) (by kernel_rfl) (by kernel_rfl) (fun _ _ _ h => h) (Or.inl ⟨by rfl, ?_⟩) hHeld ?_
           rotate_left
           · intro wx hSw
             (try dsimp only at hSw)
             go_simp
             (try with_reducible rfl)
           (try simp only [Act.put, List.setIfInBounds_toArray, List.set_cons_zero, List.set_cons_succ])
           refine wpAnyH_take (i := 2) (v := ?_) (List.getElem?_toArray.trans rfl) (by kernel_rfl) (by kernel_rfl) (by kernel_rfl) (fun _ _ _ h => h) (Or.inl ⟨by rfl, ?_⟩) hHeld ?_
           rotate_left
           · intro wx hSw
             (try dsimp only at hSw)
             go_simp
             (try with_reducible rfl)
           (try simp only [Act.put, List.setIfInBounds_toArray, List.set_cons_zero, List.set_cons_succ])
           refine wpAnyH_take (i := 3) (v := ?_) (List.getElem?_toArray.trans rfl) (by kernel_rfl) (by kernel_rfl) (by kernel_rfl) (fun _ _ _ h => h) (Or.inl ⟨by rfl, ?_⟩) hHeld ?_
           rotate_left
           · intro wx hSw
             (try dsimp only at hSw)
             go_simp
             (try with_reducible rfl)
           (try simp only [Act.put, List.setIfInBounds_toArray, List.set_cons_zero, List.set_cons_succ])
           refine wpAnyH_take (i := 4) (v := ?_) (List.getElem?_toArray.trans rfl) (by kernel_rfl) (by kernel_rfl) (by kernel_rfl) (fun _ _ _ h => h) (Or.inl ⟨by rfl, ?_⟩) hHeld ?_
           rotate_left
           · intro wx hSw
             (try dsimp only at hSw)
             go_simp
             (try with_reducible rfl)
           (try simp only [Act.put, List.setIfInBounds_toArray, List.set_cons_zero, List.set_cons_succ])
           refine wpAnyH_take (i := 5) (v := ?_) (List.getElem?_toArray.trans rfl) (by kernel_rfl) (by kernel_rfl) (by kernel_rfl) (fun _ _ _ h => h) (Or.inl ⟨by rfl, ?_⟩) hHeld ?_
           rotate_left
           · intro wx hSw
             (try dsimp only at hSw)
             go_simp
             (try with_reducible rfl)
           (try simp only [Act.put, List.setIfInBounds_toArray, List.set_cons_zero, List.set_cons_succ])
           refine wpAnyH_take (i := 6) (v := ?_) (List.getElem?_toArray.trans rfl) (by kernel_rfl) (by kernel_rfl) (by kernel_rfl) (fun _ _ _ h => h) (Or.inl ⟨by rfl, ?_⟩) hHeld ?_
           rotate_left
           · intro wx hSw
             (try dsimp only at hSw)
             go_simp
             (try with_reducible rfl)
           (try simp only [Act.put, List.setIfInBounds_toArray, List.set_cons_zero, List.set_cons_succ])
           refine wpAnyH_take (i := 7) (v := ?_) (List.getElem?_toArray.trans rfl) (by kernel_rfl) (by kernel_rfl) (by kernel_rfl) (fun _ _ _ h => h) (Or.inl ⟨by rfl, ?_⟩) hHeld ?_
           rotate_left
           · intro wx hSw
             (try dsimp only at hSw)
             go_simp
             (try with_reducible rfl)
           (try simp only [Act.put, List.setIfInBounds_toArray, List.set_cons_zero, List.set_cons_succ])
           refine wpAnyH_take (i := 8) (v := ?_) (List.getElem?_toArray.trans rfl) (by kernel_rfl) (by kernel_rfl) (by kernel_rfl) (fun _ _ _ h => h) (Or.inl ⟨by rfl, ?_⟩) hHeld ?_
           rotate_left
           · intro wx hSw
             (try dsimp only at hSw)
             go_simp
             (try with_reducible rfl)
           (try simp only [Act.put, List.setIfInBounds_toArray, List.set_cons_zero, List.set_cons_succ])
           refine wpAnyH_take (i := 9) (v := ?_) (List.getElem?_toArray.trans rfl) (by kernel_rfl) (by kernel_rfl) (by kernel_rfl) (fun _ _ _ h => h) (Or.inl ⟨by rfl, ?_⟩) hHeld ?_
           rotate_left
           · intro wx hSw
             (try dsimp only at hSw)
             go_simp
             (try with_reducible rfl)
           (try simp only [Act.put, List.setIfInBounds_toArray, List.set_cons_zero, List.set_cons_succ])
           refine wpAnyH_take (i := 10) (v := ?_) (List.getElem?_toArray.trans rfl) (by kernel_rfl) (by kernel_rfl) (by kernel_rfl) (fun _ _ _ h => h) (Or.inl ⟨by rfl, ?_⟩) hHeld ?_
           rotate_left
           · intro wx hSw
             (try dsimp only at hSw)
             go_simp
             (try with_reducible rfl)
           (try simp only [Act.put, List.setIfInBounds_toArray, List.set_cons_zero, List.set_cons_succ])
           refine wpAnyH_take (i := 11) (v := ?_) (List.getElem?_toArray.trans rfl) (by kernel_rfl) (by kernel_rfl) (by kernel_rfl) (fun _ _ _ h => h) (Or.inl ⟨by rfl, ?_⟩) hHeld ?_
           rotate_left
           · intro wx hSw
             (try dsimp only at hSw)
             go_simp
             (try with_reducible rfl)
           (try simp only [Act.put, List.setIfInBounds_toArray, List.set_cons_zero, List.set_cons_succ])
           refine wpAnyH_take (i := 12) (v := ?_) (List.getElem?_toArray.trans rfl) (by kernel_rfl) (by kernel_rfl) (by kernel_rfl) (fun _ _ _ h => h) (Or.inl ⟨by rfl, ?_⟩) hHeld ?_
           rotate_left
           · intro wx hSw
             (try dsimp only at hSw)
             go_simp
             (try with_reducible rfl)
           (try simp only [Act.put, List.setIfInBounds_toArray, List.set_cons_zero, List.set_cons_succ])
           refine wpAnyH_take (i := 13) (v := ?_) (List.getElem?_toArray.trans rfl) (by kernel_rfl) (by kernel_rfl) (by kernel_rfl) (fun _ _ _ h => h) (Or.inl ⟨by rfl, ?_⟩) hHeld ?_
           rotate_left
           · intro wx hSw
             (try dsimp only at hSw)
             go_simp
             (try with_reducible rfl)
           (try simp only [Act.put, List.setIfInBounds_toArray, List.set_cons_zero, List.set_cons_succ])
           refine wpAnyH_ready (rs := [14]) (by kernel_rfl) (by simp) ?_
           refine AllReadyH.cons (List.getElem?_toArray.trans rfl) (fun K hK => ?_) AllReadyH.nil
           go_simp
           go_at_call 62
           with_reducible refine Calls.mono (HOR.out _) ?_
           rintro e w5 ⟨rfl, hB5⟩
           have hHeld2 := HSX.out _ (hHeld.1.trans (hB5.mono hHeld.1.size))
           refine hK.out _ _ hHeld2 (fun _ => ?_)
           clear hK K hHeld hB5
           have hHeld := hHeld2
           clear hHeld2
           (try simp only [Act.put, List.setIfInBounds_toArray, List.set_cons_zero, List.set_cons_succ])
           refine wpAnyH_take (i := 15) (v := ?_) (List.getElem?_toArray.trans rfl) (by kernel_rfl) (by kernel_rfl) (by kernel_rfl) (fun _ _ _ h => h) (Or.inl ⟨by rfl, ?_⟩) hHeld ?_
           rotate_left
           · intro wx hSw
             (try dsimp only at hSw)
             go_simp
             (try with_reducible rfl)
           (try simp only [Act.put, List.setIfInBounds_toArray, List.set_cons_zero, List.set_cons_succ])
           refine wpAnyH_take (i := 16) (v := ?_) (List.getElem?_toArray.trans rfl) (by kernel_rfl) (by kernel_rfl) (by kernel_rfl) (fun _ _ _ h => h) (Or.inl ⟨by rfl, ?_⟩) hHeld ?_
           rotate_left
           · intro wx hSw
             (try dsimp only at hSw)
             go_simp
             (try with_reducible rfl)
           (try simp only [Act.put, List.setIfInBounds_toArray, List.set_cons_zero, List.set_cons_succ])
           refine wpAnyH_done (by kernel_rfl) ?_ _
           have HK := Lib.hid (HQ.out.keep hHeld.1)
           have hB5d : Below wi.heap.size wi w5.drew := hHeld.1.trans ((Below.refl _ _).drew)
           obtain ⟨_, a0, a1, a2, a3, a4, a5, b0, b1, b2, b3, b4, b5⟩ := HSX.out _ hB5d
           have hfree : ∀ i, w5.frozen? ⟨g, i, none⟩ = false := fun i => (HROW.out.keep hHeld.1).free i
           have hkd := ((HSW.out _ (HQ.out.keep hHeld.1)).2).drew
           dsimp only [setIdx] at hkd
           have HKD := Lib.hid hkd
           clear hkd
           clear hHeld hB5d
           go_wp2_with fail
           go_region
           go_wp2_with fail
           go_roundw
           case rel => exact ⟨j, swapX q j, by omega, by go_num, HKD, HE⟩
           case measure => simp [intOf] <;> omega
         · have HE := Lib.hid (show S = q by
             have h := HLT.out
             rw [decide_eq_false hneg] at h
             rw [HSQ.out, HST2.out]
             exact if_neg (fun h2 => by rw [h2] at h; cases h))
           go_wp2_with fail
           refine wp_region_held_drew (S := (fun wx => Below wi.heap.size wi wx ∧ wx.cell? ⟨g, j * 6, none⟩ = some (.string xn) ∧ wx.cell? ⟨g, j * 6 + 1, none⟩ = some (.string xt) ∧ wx.cell? ⟨g, j * 6 + 2, none⟩ = some (.slice xa xl xc) ∧ wx.cell? ⟨g, j * 6 + 3, none⟩ = some (.int .i64 xr) ∧ wx.cell? ⟨g, j * 6 + 4, none⟩ = some (.int .i64 xx) ∧ wx.cell? ⟨g, j * 6 + 5, none⟩ = some (.int .i64 xs) ∧ wx.cell? ⟨g, (j + 1) * 6, none⟩ = some (.string yn) ∧ wx.cell? ⟨g, (j + 1) * 6 + 1, none⟩ = some (.string yt) ∧ wx.cell? ⟨g, (j + 1) * 6 + 2, none⟩ = some (.slice ya yl yc) ∧ wx.cell? ⟨g, (j + 1) * 6 + 3, none⟩ = some (.int .i64 yr) ∧ wx.cell? ⟨g, (j + 1) * 6 + 4, none⟩ = some (.int .i64 yx) ∧ wx.cell? ⟨g, (j + 1) * 6 + 5, none⟩ = some (.int .i64 ys))) (by kernel_rfl) (HSX.out _ (Below.refl _ _).drew) (fun hHeld => ?_)
           (try dsimp only at hHeld)
           refine wpAnyH_take (i := 0) (v := ?_) (List.getElem?_toArray.trans rfl) (by kernel_rfl) (by kernel_rfl) (by kernel_rfl) (fun _ _ _ h => h) (Or.inl ⟨by rfl, ?_⟩) hHeld ?_
           rotate_left
           · intro wx hSw
             (try dsimp only at hSw)
             go_simp
             (try with_reducible rfl)
           (try simp only [Act.put, List.setIfInBounds_toArray, List.set_cons_zero, List.set_cons_succ])
           refine wpAnyH_take (i := 1) (v := ?_) (List.getElem?_toArray.trans rfl) (by kernel_rfl) (by kernel_rfl) (by kernel_rfl) (fun _ _ _ h => h) (Or.inl ⟨by rfl, ?_⟩) hHeld ?_
           rotate_left
           · intro wx hSw
             (try dsimp only at hSw)
             go_simp
             (try with_reducible rfl)
           (try simp only [Act.put, List.setIfInBounds_toArray, List.set_cons_zero, List.set_cons_succ])
           refine wpAnyH_take (i := 2) (v := ?_) (List.getElem?_toArray.trans rfl) (by kernel_rfl) (by kernel_rfl) (by kernel_rfl) (fun _ _ _ h => h) (Or.inl ⟨by rfl, ?_⟩) hHeld ?_
           rotate_left
           · intro wx hSw
             (try dsimp only at hSw)
             go_simp
             (try with_reducible rfl)
           (try simp only [Act.put, List.setIfInBounds_toArray, List.set_cons_zero, List.set_cons_succ])
           refine wpAnyH_take (i := 3) (v := ?_) (List.getElem?_toArray.trans rfl) (by kernel_rfl) (by kernel_rfl) (by kernel_rfl) (fun _ _ _ h => h) (Or.inl ⟨by rfl, ?_⟩) hHeld ?_
           rotate_left
           · intro wx hSw
             (try dsimp only at hSw)
             go_simp
             (try with_reducible rfl)
           (try simp only [Act.put, List.setIfInBounds_toArray, List.set_cons_zero, List.set_cons_succ])
           refine wpAnyH_take (i := 4) (v := ?_) (List.getElem?_toArray.trans rfl) (by kernel_rfl) (by kernel_rfl) (by kernel_rfl) (fun _ _ _ h => h) (Or.inl ⟨by rfl, ?_⟩) hHeld ?_
           rotate_left
           · intro wx hSw
             (try dsimp only at hSw)
             go_simp
             (try with_reducible rfl)
           (try simp only [Act.put, List.setIfInBounds_toArray, List.set_cons_zero, List.set_cons_succ])
           refine wpAnyH_take (i := 5) (v := ?_) (List.getElem?_toArray.trans rfl) (by kernel_rfl) (by kernel_rfl) (by kernel_rfl) (fun _ _ _ h => h) (Or.inl ⟨by rfl, ?_⟩) hHeld ?_
           rotate_left
           · intro wx hSw
             (try dsimp only at hSw)
             go_simp
             (try with_reducible rfl)
           (try simp only [Act.put, List.setIfInBounds_toArray, List.set_cons_zero, List.set_cons_succ])
           refine wpAnyH_take (i := 6) (v := ?_) (List.getElem?_toArray.trans rfl) (by kernel_rfl) (by kernel_rfl) (by kernel_rfl) (fun _ _ _ h => h) (Or.inl ⟨by rfl, ?_⟩) hHeld ?_
           rotate_left
           · intro wx hSw
             (try dsimp only at hSw)
             go_simp
             (try with_reducible rfl)
           (try simp only [Act.put, List.setIfInBounds_toArray, List.set_cons_zero, List.set_cons_succ])
           refine wpAnyH_take (i := 7) (v := ?_) (List.getElem?_toArray.trans rfl) (by kernel_rfl) (by kernel_rfl) (by kernel_rfl) (fun _ _ _ h => h) (Or.inl ⟨by rfl, ?_⟩) hHeld ?_
           rotate_left
           · intro wx hSw
             (try dsimp only at hSw)
             go_simp
             (try with_reducible rfl)
           (try simp only [Act.put, List.setIfInBounds_toArray, List.set_cons_zero, List.set_cons_succ])
           refine wpAnyH_take (i := 8) (v := ?_) (List.getElem?_toArray.trans rfl) (by kernel_rfl) (by kernel_rfl) (by kernel_rfl) (fun _ _ _ h => h) (Or.inl ⟨by rfl, ?_⟩) hHeld ?_
           rotate_left
           · intro wx hSw
             (try dsimp only at hSw)
             go_simp
             (try with_reducible rfl)
           (try simp only [Act.put, List.setIfInBounds_toArray, List.set_cons_zero, List.set_cons_succ])
           refine wpAnyH_take (i := 9) (v := ?_) (List.getElem?_toArray.trans rfl) (by kernel_rfl) (by kernel_rfl) (by kernel_rfl) (fun _ _ _ h => h) (Or.inl ⟨by rfl, ?_⟩) hHeld ?_
           rotate_left
           · intro wx hSw
             (try dsimp only at hSw)
             go_simp
             (try with_reducible rfl)
           (try simp only [Act.put, List.setIfInBounds_toArray, List.set_cons_zero, List.set_cons_succ])
           refine wpAnyH_take (i := 10) (v := ?_) (List.getElem?_toArray.trans rfl) (by kernel_rfl) (by kernel_rfl) (by kernel_rfl) (fun _ _ _ h => h) (Or.inl ⟨by rfl, ?_⟩) hHeld ?_
           rotate_left
           · intro wx hSw
             (try dsimp only at hSw)
             go_simp
             (try with_reducible rfl)
           (try simp only [Act.put, List.setIfInBounds_toArray, List.set_cons_zero, List.set_cons_succ])
           refine wpAnyH_take (i := 11) (v := ?_) (List.getElem?_toArray.trans rfl) (by kernel_rfl) (by kernel_rfl) (by kernel_rfl) (fun _ _ _ h => h) (Or.inl ⟨by rfl, ?_⟩) hHeld ?_
           rotate_left
           · intro wx hSw
             (try dsimp only at hSw)
             go_simp
             (try with_reducible rfl)
           (try simp only [Act.put, List.setIfInBounds_toArray, List.set_cons_zero, List.set_cons_succ])
           refine wpAnyH_take (i := 12) (v := ?_) (List.getElem?_toArray.trans rfl) (by kernel_rfl) (by kernel_rfl) (by kernel_rfl) (fun _ _ _ h => h) (Or.inl ⟨by rfl, ?_⟩) hHeld ?_
           rotate_left
           · intro wx hSw
             (try dsimp only at hSw)
             go_simp
             (try with_reducible rfl)
           (try simp only [Act.put, List.setIfInBounds_toArray, List.set_cons_zero, List.set_cons_succ])
           refine wpAnyH_take (i := 13) (v := ?_) (List.getElem?_toArray.trans rfl) (by kernel_rfl) (by kernel_rfl) (by kernel_rfl) (fun _ _ _ h => h) (Or.inl ⟨by rfl, ?_⟩) hHeld ?_
           rotate_left
           · intro wx hSw
             (try dsimp only at hSw)
             go_simp
             (try with_reducible rfl)
           (try simp only [Act.put, List.setIfInBounds_toArray, List.set_cons_zero, List.set_cons_succ])
           refine wpAnyH_ready (rs := [14]) (by kernel_rfl) (by simp) ?_
           refine AllReadyH.cons (List.getElem?_toArray.trans rfl) (fun K hK => ?_) AllReadyH.nil
           go_simp
           go_at_call 62
           with_reducible refine Calls.mono (HOR.out _) ?_
           rintro e w5 ⟨rfl, hB5⟩
           have hHeld2 := HSX.out _ (hHeld.1.trans (hB5.mono hHeld.1.size))
           refine hK.out _ _ hHeld2 (fun _ => ?_)
           clear hK K hHeld hB5
           have hHeld := hHeld2
           clear hHeld2
           (try simp only [Act.put, List.setIfInBounds_toArray, List.set_cons_zero, List.set_cons_succ])
           refine wpAnyH_take (i := 15) (v := ?_) (List.getElem?_toArray.trans rfl) (by kernel_rfl) (by kernel_rfl) (by kernel_rfl) (fun _ _ _ h => h) (Or.inl ⟨by rfl, ?_⟩) hHeld ?_
           rotate_left
           · intro wx hSw
             (try dsimp only at hSw)
             go_simp
             (try with_reducible rfl)
           (try simp only [Act.put, List.setIfInBounds_toArray, List.set_cons_zero, List.set_cons_succ])
           refine wpAnyH_take (i := 16) (v := ?_) (List.getElem?_toArray.trans rfl) (by kernel_rfl) (by kernel_rfl) (by kernel_rfl) (fun _ _ _ h => h) (Or.inl ⟨by rfl, ?_⟩) hHeld ?_
           rotate_left
           · intro wx hSw
             (try dsimp only at hSw)
             go_simp
             (try with_reducible rfl)
           (try simp only [Act.put, List.setIfInBounds_toArray, List.set_cons_zero, List.set_cons_succ])
           refine wpAnyH_done (by kernel_rfl) ?_ _
           have HK := Lib.hid (HQ.out.keep hHeld.1)
           go_wp2_with fail
           go_roundw
           case rel => exact ⟨k + 1, S, by omega, Or.inl (by omega), by go_num, (by rw [HE.out]; exact HK), HRN⟩
           case measure => simp [intOf] <;> omega
   · have HE := Lib.hid (show R = l by
       rw [HRR.out]
       rcases hk with h | h
       · rw [show n - k = 0 by omega]; rfl
       · rw [show n - k = 0 by omega]; rfl)
     go_wp2_with fail
     go_end0
     exact ⟨rfl, by rw [HE.out]; exact HS.out⟩
end Go.Proofs.YtcgpflkaejbkhaaGreatDoor
namespace Go.Proofs.YtcgpflkaejbkhaaGreatDoor
open Go.RowKit

def sortX (l : List Idx) : List Idx := isortX (l.length - 1) 1 l
def SortedX (w : World) (g n : Nat) (l : List Idx) (e : Ending) (w' : World) : Prop := e = .returned (.tuple #[]) ∧ SortX w g n l w'
set_option maxRecDepth 100000 in
set_option maxHeartbeats 4000000 in
theorem istable_any (g cap n : Nat) (l : List Idx) (w : World) (hn : n ≤ 19) (h : RowX w g l) (hl : l.length = n) (hc : n ≤ cap) :
   Calls Tryz.prog 97 #[.slice (some ⟨g, 0, none⟩) n cap, .int .i64 n, .func (.func 62) #[] #[]] w (SortedX w g n (sortX l)) := by
 have HI := Lib.hid (iinsertion_any g cap n l w (by omega) h hl hc)
 rw [← show sortX l = isortX (n - 1) 1 l by unfold sortX; rw [hl]] at HI
 generalize sortX l = R at HI ⊢
 have h20 : ((20 : Int) ≤ (n : Int)) = False := eq_false (by omega)
 have h20b : ((20 : Int) < (n : Int)) = False := eq_false (by omega)
 clear h hl
 go_enter Tryz.func97, Tryz.ntmps97
 go_wp2_with fail
 go_loop [7, 8] (fun a b => a = .int .i64 0 ∧ b = .int .i64 20) (fun _ _ => 0)
 case atStart => exact ⟨rfl, rfl⟩
 case round =>
   obtain ⟨rfl, rfl⟩ := hrel
   go_wp2_with (first
     | (go_at_call 115; (with_reducible refine HI.out.mono ?_); rintro e w5 ⟨rfl, hS⟩; have HS := Lib.hid hS; clear hS)
     | fail)
   go_loop [6] (fun a => a = .int .i64 20) (fun _ => 0)
   case atStart => rfl
   case round =>
     subst hrel
     go_wp2_with fail
     go_end0
     exact ⟨rfl, HS.out⟩
set_option maxRecDepth 100000 in
theorem isort_any (g cap n : Nat) (l : List Idx) (w : World) (hn : n ≤ 19) (h : RowX w g l) (hl : l.length = n) (hc : n ≤ cap) :
   Calls Tryz.prog 61 #[.slice (some ⟨g, 0, none⟩) n cap, .func (.func 62) #[] #[]] w (SortedX w g n (sortX l)) := by
 have HI := Lib.hid (istable_any g cap n l w hn h hl hc)
 clear h hl
 go_enter Tryz.func61, Tryz.ntmps61
 go_wp2_with (first
   | (go_at_call 97; (with_reducible refine HI.out.mono ?_); rintro e w5 ⟨rfl, hS⟩; have HS := Lib.hid hS; clear hS)
   | fail)
 go_end0
 exact ⟨rfl, HS.out⟩
end Go.Proofs.YtcgpflkaejbkhaaGreatDoor
namespace Go.Proofs.YtcgpflkaejbkhaaGreatDoor
open Go.RowKit

structure PutL (w : World) (A : Option Addr) (n c : Nat) (ia : Option Addr) (il ic : Nat) (t : Tab) (W : World) : Prop where
 below : Below w.heap.size w W
 sch : W.heap[w.heap.size]? = some (.cells #[.slice A n c, .slice ia il ic] 36)
 tab : W.heap[w.heap.size + 1]? = some (.cells #[.string t.name, .slice t.ca t.cn t.cc, .int .i64 t.root, .int .i64 t.next, .int .i64 t.rows] 25)
 ans : W.heap[w.heap.size + 1 + 1]? = some (.cells #[.slice none 0 0, .slice none 0 0] 36)
theorem PutL.keep {w : World} {A : Option Addr} {n c : Nat} {ia : Option Addr} {il ic : Nat} {t : Tab} {W W' : World} (h : PutL w A n c ia il ic t W) (hB : Below W.heap.size W W') : PutL w A n c ia il ic t W' :=
 ⟨h.below.trans (hB.mono h.below.size), (hB.block _ (heap_lt h.sch)).trans h.sch, (hB.block _ (heap_lt h.tab)).trans h.tab, (hB.block _ (heap_lt h.ans)).trans h.ans⟩
theorem PutL.start (w : World) (A : Option Addr) (n c : Nat) (ia : Option Addr) (il ic : Nat) (t : Tab) : PutL w A n c ia il ic t (((w.alloc (.cells #[.slice A n c, .slice ia il ic] 36)).alloc (.cells #[.string t.name, .slice t.ca t.cn t.cc, .int .i64 t.root, .int .i64 t.next, .int .i64 t.rows] 25)).alloc (.cells #[.slice none 0 0, .slice none 0 0] 36)) := by
 refine ⟨((below1 w _).alloc (by simp) _).alloc (by simp; omega) _, ?_, ?_, ?_⟩
 · rw [heap_alloc_old _ _ (by simp; omega), heap_alloc_old _ _ (by simp)]; exact heap_alloc_new w _
 · rw [heap_alloc_old _ _ (by simp)]
   have := heap_alloc_new (w.alloc (.cells #[.slice A n c, .slice ia il ic] 36)) (.cells #[.string t.name, .slice t.ca t.cn t.cc, .int .i64 t.root, .int .i64 t.next, .int .i64 t.rows] 25)
   rwa [World.size_alloc] at this
 · have := heap_alloc_new ((w.alloc (.cells #[.slice A n c, .slice ia il ic] 36)).alloc (.cells #[.string t.name, .slice t.ca t.cn t.cc, .int .i64 t.root, .int .i64 t.next, .int .i64 t.rows] 25)) (.cells #[.slice none 0 0, .slice none 0 0] 36)
   rwa [World.size_alloc, World.size_alloc] at this
theorem PutL.done {w : World} {A : Option Addr} {n c : Nat} {ia : Option Addr} {il ic : Nat} {t : Tab} {W : World} (h : PutL w A n c ia il ic t W) (x y : Value) : Below w.heap.size w ((W.setCell ⟨w.heap.size + 1 + 1, 0, none⟩ x).setCell ⟨w.heap.size + 1 + 1, 1, none⟩ y) :=
 (h.below.setCell (p := ⟨w.heap.size + 1 + 1, 0, none⟩) (by show w.heap.size ≤ w.heap.size + 1 + 1; omega) _).setCell (p := ⟨w.heap.size + 1 + 1, 1, none⟩) (by show w.heap.size ≤ w.heap.size + 1 + 1; omega) _
def tabBad (t : Tab) : Bool := !nameB t.name.data.toList || decide (t.root < 1) || decide (1600 < t.root) || decide (t.next < 1) || decide (t.rows < 0)
theorem tabBad_ways {t : Tab} {b : Bool} (hb : b = nameB t.name.data.toList) (h : tabBad t = true) : b = false ∨ (b = true ∧ (t.root < 1) = True) ∨ (b = true ∧ (t.root < 1) = False ∧ (1600 < t.root) = True) ∨ (b = true ∧ (t.root < 1) = False ∧ (1600 < t.root) = False ∧ (t.next < 1) = True) ∨ (b = true ∧ (t.root < 1) = False ∧ (1600 < t.root) = False ∧ (t.next < 1) = False ∧ (t.rows < 0) = True) := by
 unfold tabBad at h
 rw [← hb] at h
 cases b with
 | false => exact Or.inl rfl
 | true =>
   by_cases h1 : t.root < 1
   · exact Or.inr (Or.inl ⟨rfl, eq_true h1⟩)
   · by_cases h2 : 1600 < t.root
     · exact Or.inr (Or.inr (Or.inl ⟨rfl, eq_false h1, eq_true h2⟩))
     · by_cases h3 : t.next < 1
       · exact Or.inr (Or.inr (Or.inr (Or.inl ⟨rfl, eq_false h1, eq_false h2, eq_true h3⟩)))
       · refine Or.inr (Or.inr (Or.inr (Or.inr ⟨rfl, eq_false h1, eq_false h2, eq_false h3, eq_true ?_⟩)))
         simp only [Bool.not_true, Bool.false_or, Bool.or_eq_true, decide_eq_true_iff] at h
         omega
def ErrP (er : Int) (w : World) (e : Ending) (w' : World) : Prop := e = .returned (.tuple #[.agg #[.slice none 0 0, .slice none 0 0], .int .i64 er]) ∧ Below w.heap.size w w'
set_option maxRecDepth 100000 in
set_option maxHeartbeats 16000000 in
theorem put_bad (m : Int) (gt : Nat → Nat) (ht : ∀ j, j < 23 → finD (Ieee.double.read (gt j)) = true) (A : Option Addr) (c : Nat) (l : List Tab) (ia : Option Addr) (il ic : Nat) (t : Tab) (w : World) (hG : Glob m gt w) (hD : TabsAt w A l) (hbad : tabBad t = true) :
   Calls Tryz.prog 27 #[.agg #[.slice A l.length c, .slice ia il ic], .agg #[.string t.name, .slice t.ca t.cn t.cc, .int .i64 t.root, .int .i64 t.next, .int .i64 t.rows]] w (ErrP 7 w) := by
 have HST := Lib.hid (PutL.start w A l.length c ia il ic t)
 have HTA := Lib.hid (show ∀ W, Below w.heap.size w W → Calls Tryz.prog 12 #[.agg #[.slice A l.length c, .slice ia il ic], .string t.name] W (FirstP (nameAt l t.name) l.length W) from fun W hB => table_any A c l ia il ic t.name W (CellsAt.keep hB hD))
 obtain ⟨b, hb⟩ : ∃ b, b = nameB t.name.data.toList := ⟨_, rfl⟩
 have HNA := Lib.hid (show ∀ W, Below w.heap.size w W → Calls Tryz.prog 28 #[.string t.name] W (RetV (.bool b) W) from fun W hB => by rw [hb]; exact name_any m gt ht t.name W (hG.keep hB))
 have hor := tabBad_ways hb hbad
 generalize l.length = n at HST HTA ⊢
 clear hG hD hbad ht hb
 obtain ⟨tn, ta, tl, tc, tr, tx, tw⟩ := t
 dsimp only at HST HTA HNA hor ⊢
 rcases hor with rfl | ⟨rfl, r1⟩ | ⟨rfl, r1, r2⟩ | ⟨rfl, r1, r2, r3⟩ | ⟨rfl, r1, r2, r3, r4⟩
 all_goals
   go_enter Tryz.func27, Tryz.ntmps27
   go_wp2_with (first
     | (go_at_call 12; (with_reducible refine (HTA.out _ HST.out.below).mono ?_); rintro e w3 ⟨r, rfl, hr, hB3⟩
        have HK3 := Lib.hid (HST.out.keep hB3)
        have k0 := cell_of_row _ _ 0 _ _ _ HK3.out.tab
        have k1 := cell_of_row _ _ 1 _ _ _ HK3.out.tab
        have k2 := cell_of_row _ _ 2 _ _ _ HK3.out.tab
        have k3 := cell_of_row _ _ 3 _ _ _ HK3.out.tab
        have k4 := cell_of_row _ _ 4 _ _ _ HK3.out.tab
        have s0 := cell_of_row _ _ 0 _ _ _ HK3.out.sch
        have s1 := cell_of_row _ _ 1 _ _ _ HK3.out.sch
        have a0 := cell_of_row _ _ 0 _ _ _ HK3.out.ans
        have a1 := cell_of_row _ _ 1 _ _ _ HK3.out.ans
        have f0 := frozen_of_row _ _ 0 _ _ HK3.out.ans
        have f1 := frozen_of_row _ _ 1 _ _ HK3.out.ans
        clear hB3 hr)
     | (go_at_call 28; (with_reducible refine (HNA.out _ HK3.out.below).mono ?_); rintro e w5 ⟨rfl, hB5⟩
        have HK5 := Lib.hid (HK3.out.keep hB5)
        clear k0 k1 k2 k3 k4 s0 s1 a0 a1 f0 f1
        have k0 := cell_of_row _ _ 0 _ _ _ HK5.out.tab
        have k1 := cell_of_row _ _ 1 _ _ _ HK5.out.tab
        have k2 := cell_of_row _ _ 2 _ _ _ HK5.out.tab
        have k3 := cell_of_row _ _ 3 _ _ _ HK5.out.tab
        have k4 := cell_of_row _ _ 4 _ _ _ HK5.out.tab
        have s0 := cell_of_row _ _ 0 _ _ _ HK5.out.sch
        have s1 := cell_of_row _ _ 1 _ _ _ HK5.out.sch
        have a0 := cell_of_row _ _ 0 _ _ _ HK5.out.ans
        have a1 := cell_of_row _ _ 1 _ _ _ HK5.out.ans
        have f0 := frozen_of_row _ _ 0 _ _ HK5.out.ans
        have f1 := frozen_of_row _ _ 1 _ _ HK5.out.ans
        clear hB5)
     | fail)
   exact bodyPost_ret (v := .tuple #[.agg #[.slice none 0 0, .slice none 0 0], .int .i64 7]) (by simp [results, Tryz.results27, go_sem, a0, a1]) rfl ⟨rfl, HK5.out.done _ _⟩
theorem tabBad_no {t : Tab} (h : tabBad t = false) : nameB t.name.data.toList = true ∧ (t.root < 1) = False ∧ (1600 < t.root) = False ∧ (t.next < 1) = False ∧ (t.rows < 0) = False := by
 unfold tabBad at h
 simp only [Bool.or_eq_false_iff, Bool.not_eq_false', decide_eq_false_iff_not] at h
 obtain ⟨⟨⟨⟨h1, h2⟩, h3⟩, h4⟩, h5⟩ := h
 exact ⟨h1, eq_false h2, eq_false h3, eq_false h4, eq_false h5⟩
theorem first_none {l : List Tab} {nm : ByteArray} (hnew : ∀ p ∈ l, sameN p.name nm = false) {r : Int} (h : FirstIs (nameAt l nm) l.length r) : r = -1 := by
 rcases h with ⟨k, hk, _, hp, _⟩ | ⟨rfl, _⟩
 · exfalso
   unfold nameAt at hp
   rw [List.getElem?_eq_getElem hk] at hp
   have := hnew _ (List.getElem_mem hk)
   rw [show sameN l[k].name nm = true from hp] at this
   cases this
 · rfl
set_option maxRecDepth 100000 in
set_option maxHeartbeats 16000000 in
theorem put_many (m : Int) (gt : Nat → Nat) (ht : ∀ j, j < 23 → finD (Ieee.double.read (gt j)) = true) (A : Option Addr) (c : Nat) (l : List Tab) (ia : Option Addr) (il ic : Nat) (t : Tab) (w : World) (hG : Glob m gt w) (hD : TabsAt w A l) (hbad : tabBad t = false) (hnew : ∀ p ∈ l, sameN p.name t.name = false) (h8 : 8 ≤ l.length) :
   Calls Tryz.prog 27 #[.agg #[.slice A l.length c, .slice ia il ic], .agg #[.string t.name, .slice t.ca t.cn t.cc, .int .i64 t.root, .int .i64 t.next, .int .i64 t.rows]] w (ErrP 11 w) := by
 have HST := Lib.hid (PutL.start w A l.length c ia il ic t)
 have HTA := Lib.hid (show ∀ W, Below w.heap.size w W → Calls Tryz.prog 12 #[.agg #[.slice A l.length c, .slice ia il ic], .string t.name] W (RetV (.int .i64 (-1)) W) from fun W hB => (table_any A c l ia il ic t.name W (CellsAt.keep hB hD)).mono (fun e w' ⟨r, h1, h2, h3⟩ => by rw [first_none hnew h2] at h1; exact ⟨h1, h3⟩))
 obtain ⟨hn, r1, r2, r3, r4⟩ := tabBad_no hbad
 have HNA := Lib.hid (show ∀ W, Below w.heap.size w W → Calls Tryz.prog 28 #[.string t.name] W (RetV (.bool true) W) from fun W hB => by have h := name_any m gt ht t.name W (hG.keep hB); rwa [hn] at h)
 have r5 : ((8 : Int) ≤ (l.length : Int)) = True := eq_true (by omega)
 generalize l.length = n at HST HTA r5 ⊢
 clear hG hD hbad ht hn hnew h8
 obtain ⟨tn, ta, tl, tc, tr, tx, tw⟩ := t
 dsimp only at HST HTA HNA r1 r2 r3 r4 ⊢
 go_enter Tryz.func27, Tryz.ntmps27
 go_wp2_with (first
   | (go_at_call 12; (with_reducible refine (HTA.out _ HST.out.below).mono ?_); rintro e w3 ⟨rfl, hB3⟩
      have HK3 := Lib.hid (HST.out.keep hB3)
      have k0 := cell_of_row _ _ 0 _ _ _ HK3.out.tab
      have k1 := cell_of_row _ _ 1 _ _ _ HK3.out.tab
      have k2 := cell_of_row _ _ 2 _ _ _ HK3.out.tab
      have k3 := cell_of_row _ _ 3 _ _ _ HK3.out.tab
      have k4 := cell_of_row _ _ 4 _ _ _ HK3.out.tab
      have s0 := cell_of_row _ _ 0 _ _ _ HK3.out.sch
      have s1 := cell_of_row _ _ 1 _ _ _ HK3.out.sch
      have a0 := cell_of_row _ _ 0 _ _ _ HK3.out.ans
      have a1 := cell_of_row _ _ 1 _ _ _ HK3.out.ans
      have f0 := frozen_of_row _ _ 0 _ _ HK3.out.ans
      have f1 := frozen_of_row _ _ 1 _ _ HK3.out.ans
      clear hB3)
   | (go_at_call 28; (with_reducible refine (HNA.out _ HK3.out.below).mono ?_); rintro e w5 ⟨rfl, hB5⟩
      have HK5 := Lib.hid (HK3.out.keep hB5)
      clear k0 k1 k2 k3 k4 s0 s1 a0 a1 f0 f1
      have k0 := cell_of_row _ _ 0 _ _ _ HK5.out.tab
      have k1 := cell_of_row _ _ 1 _ _ _ HK5.out.tab
      have k2 := cell_of_row _ _ 2 _ _ _ HK5.out.tab
      have k3 := cell_of_row _ _ 3 _ _ _ HK5.out.tab
      have k4 := cell_of_row _ _ 4 _ _ _ HK5.out.tab
      have s0 := cell_of_row _ _ 0 _ _ _ HK5.out.sch
      have s1 := cell_of_row _ _ 1 _ _ _ HK5.out.sch
      have a0 := cell_of_row _ _ 0 _ _ _ HK5.out.ans
      have a1 := cell_of_row _ _ 1 _ _ _ HK5.out.ans
      have f0 := frozen_of_row _ _ 0 _ _ HK5.out.ans
      have f1 := frozen_of_row _ _ 1 _ _ HK5.out.ans
      clear hB5)
   | fail)
 exact bodyPost_ret (v := .tuple #[.agg #[.slice none 0 0, .slice none 0 0], .int .i64 11]) (by simp [results, Tryz.results27, go_sem, a0, a1]) rfl ⟨rfl, HK5.out.done _ _⟩
set_option maxRecDepth 100000 in
set_option maxHeartbeats 16000000 in
theorem put_cols (m : Int) (gt : Nat → Nat) (ht : ∀ j, j < 23 → finD (Ieee.double.read (gt j)) = true) (A : Option Addr) (c : Nat) (l : List Tab) (ia : Option Addr) (il ic : Nat) (t : Tab) (cl : List Col) (w : World) (hG : Glob m gt w) (hD : TabsAt w A l) (hcol : ColsAt w t.ca cl) (hcn : t.cn = cl.length) (hcc : cl.length ≤ t.cc) (hbad : tabBad t = false) (hmany : (∃ p ∈ l, sameN p.name t.name = true) ∨ l.length < 8) (hcr : colsR cl ≠ 0) :
   Calls Tryz.prog 27 #[.agg #[.slice A l.length c, .slice ia il ic], .agg #[.string t.name, .slice t.ca t.cn t.cc, .int .i64 t.root, .int .i64 t.next, .int .i64 t.rows]] w (ErrP (colsR cl) w) := by
 have HST := Lib.hid (PutL.start w A l.length c ia il ic t)
 have HTA := Lib.hid (show ∀ W, Below w.heap.size w W → Calls Tryz.prog 12 #[.agg #[.slice A l.length c, .slice ia il ic], .string t.name] W fun e w' => ∃ r : Int, e = .returned (.int .i64 r) ∧ ((r < 0) = False ∨ ((8 : Int) ≤ (l.length : Int)) = False) ∧ Below W.heap.size W w' from fun W hB => (table_any A c l ia il ic t.name W (CellsAt.keep hB hD)).mono (fun e w' ⟨r, h1, h2, h3⟩ => ⟨r, h1, by
   rcases hmany with ⟨p, hp, hs⟩ | h8
   · left
     rcases h2 with ⟨k, hk, rfl, _, _⟩ | ⟨rfl, hq⟩
     · exact eq_false (by omega)
     · exfalso
       obtain ⟨k, hk, rfl⟩ := List.mem_iff_getElem.1 hp
       have := hq k hk
       unfold nameAt at this
       rw [List.getElem?_eq_getElem hk] at this
       rw [show sameN l[k].name t.name = false from this] at hs
       cases hs
   · right; exact eq_false (by omega), h3⟩))
 obtain ⟨hn, r1, r2, r3, r4⟩ := tabBad_no hbad
 have HNA := Lib.hid (show ∀ W, Below w.heap.size w W → Calls Tryz.prog 28 #[.string t.name] W (RetV (.bool true) W) from fun W hB => by have h := name_any m gt ht t.name W (hG.keep hB); rwa [hn] at h)
 have HCO := Lib.hid (show ∀ W, Below w.heap.size w W → Calls Tryz.prog 20 #[.slice t.ca t.cn t.cc] W (RetV (.int .i64 (colsR cl)) W) from fun W hB => by
   have h := columns_any m gt ht t.ca t.cc cl W (hG.keep hB) (CellsAt.keep hB hcol) hcc
   rw [← hcn] at h
   exact h)
 have r6 : (colsR cl == 0) = false := beq_eq_false_iff_ne.2 hcr
 generalize colsR cl = ce at HCO r6 ⊢
 generalize l.length = n at HST HTA ⊢
 clear hG hD hbad ht hn hmany hcol hcn hcc hcr
 obtain ⟨tn, ta, tl, tc, tr, tx, tw⟩ := t
 dsimp only at HST HTA HNA HCO r1 r2 r3 r4 ⊢
 go_enter Tryz.func27, Tryz.ntmps27
 go_wp2_with (first
   | (go_at_call 12; (with_reducible refine (HTA.out _ HST.out.below).mono ?_); rintro e w3 ⟨r, rfl, hr, hB3⟩
      have HK3 := Lib.hid (HST.out.keep hB3)
      have k0 := cell_of_row _ _ 0 _ _ _ HK3.out.tab
      have k1 := cell_of_row _ _ 1 _ _ _ HK3.out.tab
      have k2 := cell_of_row _ _ 2 _ _ _ HK3.out.tab
      have k3 := cell_of_row _ _ 3 _ _ _ HK3.out.tab
      have k4 := cell_of_row _ _ 4 _ _ _ HK3.out.tab
      have s0 := cell_of_row _ _ 0 _ _ _ HK3.out.sch
      have s1 := cell_of_row _ _ 1 _ _ _ HK3.out.sch
      have a0 := cell_of_row _ _ 0 _ _ _ HK3.out.ans
      have a1 := cell_of_row _ _ 1 _ _ _ HK3.out.ans
      have f0 := frozen_of_row _ _ 0 _ _ HK3.out.ans
      have f1 := frozen_of_row _ _ 1 _ _ HK3.out.ans
      clear hB3
      rcases hr with hr | hr)
   | (go_at_call 28; (with_reducible refine (HNA.out _ HK3.out.below).mono ?_); rintro e w5 ⟨rfl, hB5⟩
      have HK5 := Lib.hid (HK3.out.keep hB5)
      clear k0 k1 k2 k3 k4 s0 s1 a0 a1 f0 f1
      have k0 := cell_of_row _ _ 0 _ _ _ HK5.out.tab
      have k1 := cell_of_row _ _ 1 _ _ _ HK5.out.tab
      have k2 := cell_of_row _ _ 2 _ _ _ HK5.out.tab
      have k3 := cell_of_row _ _ 3 _ _ _ HK5.out.tab
      have k4 := cell_of_row _ _ 4 _ _ _ HK5.out.tab
      have s0 := cell_of_row _ _ 0 _ _ _ HK5.out.sch
      have s1 := cell_of_row _ _ 1 _ _ _ HK5.out.sch
      have a0 := cell_of_row _ _ 0 _ _ _ HK5.out.ans
      have a1 := cell_of_row _ _ 1 _ _ _ HK5.out.ans
      have f0 := frozen_of_row _ _ 0 _ _ HK5.out.ans
      have f1 := frozen_of_row _ _ 1 _ _ HK5.out.ans
      clear hB5)
   | (go_at_call 20; (with_reducible refine (HCO.out _ HK5.out.below).mono ?_); rintro e w6 ⟨rfl, hB6⟩
      have HK6 := Lib.hid (HK5.out.keep hB6)
      clear k0 k1 k2 k3 k4 s0 s1 a0 a1 f0 f1
      have k0 := cell_of_row _ _ 0 _ _ _ HK6.out.tab
      have k1 := cell_of_row _ _ 1 _ _ _ HK6.out.tab
      have k2 := cell_of_row _ _ 2 _ _ _ HK6.out.tab
      have k3 := cell_of_row _ _ 3 _ _ _ HK6.out.tab
      have k4 := cell_of_row _ _ 4 _ _ _ HK6.out.tab
      have s0 := cell_of_row _ _ 0 _ _ _ HK6.out.sch
      have s1 := cell_of_row _ _ 1 _ _ _ HK6.out.sch
      have a0 := cell_of_row _ _ 0 _ _ _ HK6.out.ans
      have a1 := cell_of_row _ _ 1 _ _ _ HK6.out.ans
      have f0 := frozen_of_row _ _ 0 _ _ HK6.out.ans
      have f1 := frozen_of_row _ _ 1 _ _ HK6.out.ans
      clear hB6)
   | fail)
 all_goals exact bodyPost_ret (v := .tuple #[.agg #[.slice none 0 0, .slice none 0 0], .int .i64 ce]) (by simp [results, Tryz.results27, go_sem, a0, a1]) rfl ⟨rfl, HK6.out.done _ _⟩
end Go.Proofs.YtcgpflkaejbkhaaGreatDoor
namespace Go.Proofs.YtcgpflkaejbkhaaGreatDoor
open Go.RowKit

theorem info3 : (Tryz.prog.info? 3).map (fun i => (i.zero, i.size, i.bytes)) = some (some (.int .i64 0), 1, 8) := by kernel_rfl
end Go.Proofs.YtcgpflkaejbkhaaGreatDoor
