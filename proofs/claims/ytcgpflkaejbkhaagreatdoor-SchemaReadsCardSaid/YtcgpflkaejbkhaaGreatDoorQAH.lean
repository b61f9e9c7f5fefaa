/- The walk of the stable sort of at most twenty tables. -/
import Derived.Test.YtcgpflkaejbkhaaGreatDoorQAG
import Derived.IntWalk
namespace Go.Proofs.YtcgpflkaejbkhaaGreatDoor
open Go.RowKit

def sinkT : Nat → List Tab → List Tab
 | 0, l => l
 | j + 1, l => match l[j]?, l[j + 1]? with
   | some x, some y => if ltN y.name x.name then sinkT j (swapT l j) else l
   | _, _ => l
def isortT : Nat → Nat → List Tab → List Tab
 | 0, _, l => l
 | f + 1, i, l => isortT f (i + 1) (sinkT i l)
def SortW (w : World) (g n : Nat) (l : List Tab) (W : World) : Prop := RowT W g l ∧ w.grownBy W (some g) ∧ l.length = n
theorem SortW.keep {w W W' : World} {g n : Nat} {l : List Tab} (h : SortW w g n l W) (hB : Below W.heap.size W W') : SortW w g n l W' :=
 ⟨h.1.keep hB, h.2.1.trans ⟨hB.os, hB.tape, hB.output, hB.size, fun k hk _ => hB.block k hk⟩, h.2.2⟩
theorem SortW.drew {w W : World} {g n : Nat} {l : List Tab} (h : SortW w g n l W) : SortW w g n l W.drew := h.keep (Below.refl _ _).drew
theorem SortW.swap {w W : World} {g n : Nat} {l : List Tab} (h : SortW w g n l W) {j : Nat} {x y : Tab} (hx : l[j]? = some x) (hy : l[j + 1]? = some y) :
   SortW w g n (swapT l j) (setTab (setTab W g (j * 5) y) g ((j + 1) * 5) x) ∧ SortW w g n (swapT l j) (setTab (setTab W g ((j + 1) * 5) x) g (j * 5) y) :=
 ⟨⟨(h.1.swap hx hy).1, (h.2.1.trans (setTab_grown _ _ _ _)).trans (setTab_grown _ _ _ _), by rw [swapT_len]; exact h.2.2⟩,
  ⟨(h.1.swap hx hy).2, (h.2.1.trans (setTab_grown _ _ _ _)).trans (setTab_grown _ _ _ _), by rw [swapT_len]; exact h.2.2⟩⟩
set_option maxRecDepth 100000 in
set_option maxHeartbeats 16000000 in
theorem insertion_any (g cap n : Nat) (l0 : List Tab) (w : World) (hn : n ≤ 20) (h : RowT w g l0) (hl : l0.length = n) (_ : n ≤ cap) :
   Calls Tryz.prog 105 #[.slice (some ⟨g, 0, none⟩) n cap, .int .i64 0, .int .i64 n, .func (.func 57) #[] #[]] w fun e w' => e = .returned (.tuple #[]) ∧ SortW w g n (isortT (n - 1) 1 l0) w' := by
 have HST := Lib.hid (show SortW w g n l0 w from ⟨h, World.grownBy.refl _ _, hl⟩)
 have HOT := Lib.hid order_tab
 obtain ⟨R, hR⟩ : ∃ R, R = isortT (n - 1) 1 l0 := ⟨_, rfl⟩
 rw [← hR]
 have HR := Lib.hid hR
 clear h hl hR
 go_enter Tryz.func105, Tryz.ntmps105
 go_wp2_with fail
 go_loopw [8] (fun i wr => ∃ (k : Nat) (l : List Tab), 1 ≤ k ∧ (k ≤ n ∨ k = 1) ∧ i = .int .i64 k ∧ Hid (SortW w g n l wr) ∧ Hid (R = isortT (n - k) k l)) (fun i _ => n - (intOf i).toNat)
 case atStart => exact ⟨1, l0, Nat.le_refl _, Or.inr rfl, by go_num, HST, HR⟩
 case round =>
   obtain ⟨k, l, hk1, hk, rfl, HS, HRR⟩ := hrel
   obtain ⟨wo, rfl⟩ : ∃ wo : World, wo = wr := ⟨_, rfl⟩
   by_cases hlt : k < n
   · obtain ⟨S, hS⟩ : ∃ S, S = sinkT k l := ⟨_, rfl⟩
     have HSS := Lib.hid hS
     have HRN := Lib.hid (show R = isortT (n - (k + 1)) (k + 1) S by rw [HRR.out, show n - k = (n - (k + 1)) + 1 by omega, hS]; rfl)
     clear hS
     go_wp2_with fail
     go_loopw [9] (fun i wr => ∃ (j : Nat) (q : List Tab), j ≤ k ∧ i = .int .i64 j ∧ Hid (SortW w g n q wr) ∧ Hid (S = sinkT j q)) (fun i _ => (intOf i).toNat)
     case atStart => exact ⟨k, l, Nat.le_refl _, rfl, HS, HSS⟩
     case round =>
       obtain ⟨j, q, hj, rfl, HQ, HSQ⟩ := hrel
       obtain ⟨wi, rfl⟩ : ∃ wi : World, wi = wr := ⟨_, rfl⟩
       cases j with
       | zero =>
         go_wp2_with fail
         refine wp_region_held_drew (S := (fun wx => Below wi.heap.size wi wx)) (by kernel_rfl) ((Below.refl _ _).drew) (fun hHeld => ?_)
         (try dsimp only at hHeld)
         refine wpAnyH_take (i := 0) (v := ?_) (List.getElem?_toArray.trans rfl) (by kernel_rfl) (by kernel_rfl) (by kernel_rfl) (fun _ _ _ h => h) (Or.inl ⟨by rfl, ?_⟩) hHeld ?_
         rotate_left
         · intro wx hSw
           (try dsimp only at hSw)
           go_simp
           (try with_reducible rfl)
         (try simp only [Act.put, List.setIfInBounds_toArray, List.set_cons_zero, List.set_cons_succ])
         refine wpAnyH_take (i := 1) (v := ?_) (List.getElem?_toArray.trans rfl) (by kernel_rfl) (by kernel_rfl) (by kernel_rfl) (fun _ _ _ h => h) (Or.inl ⟨by rfl, ?_⟩) hHeld ?_
         rotate_left
         · intro wx hSw
           (try dsimp only at hSw)
           go_simp
           (try with_reducible rfl)
         (try simp only [Act.put, List.setIfInBounds_toArray, List.set_cons_zero, List.set_cons_succ])
         refine wpAnyH_take (i := 2) (v := ?_) (List.getElem?_toArray.trans rfl) (by kernel_rfl) (by kernel_rfl) (by kernel_rfl) (fun _ _ _ h => h) (Or.inl ⟨by rfl, ?_⟩) hHeld ?_
         rotate_left
         · intro wx hSw
           (try dsimp only at hSw)
           go_simp
           (try with_reducible rfl)
         (try simp only [Act.put, List.setIfInBounds_toArray, List.set_cons_zero, List.set_cons_succ])
         refine wpAnyH_take (i := 3) (v := ?_) (List.getElem?_toArray.trans rfl) (by kernel_rfl) (by kernel_rfl) (by kernel_rfl) (fun _ _ _ h => h) (Or.inl ⟨by rfl, ?_⟩) hHeld ?_
         rotate_left
         · intro wx hSw
           (try dsimp only at hSw)
           go_simp
           (try with_reducible rfl)
         (try simp only [Act.put, List.setIfInBounds_toArray, List.set_cons_zero, List.set_cons_succ])
         refine wpAnyH_take (i := 4) (List.getElem?_toArray.trans rfl) (by kernel_rfl) (by kernel_rfl) (by kernel_rfl) (fun _ _ _ h => h) (Or.inr ⟨by rfl, rfl⟩) hHeld ?_
         (try simp only [Act.put, List.setIfInBounds_toArray, List.set_cons_zero, List.set_cons_succ])
         refine wpAnyH_take (i := 5) (List.getElem?_toArray.trans rfl) (by kernel_rfl) (by kernel_rfl) (by kernel_rfl) (fun _ _ _ h => h) (Or.inr ⟨by rfl, rfl⟩) hHeld ?_
         (try simp only [Act.put, List.setIfInBounds_toArray, List.set_cons_zero, List.set_cons_succ])
         refine wpAnyH_take (i := 6) (List.getElem?_toArray.trans rfl) (by kernel_rfl) (by kernel_rfl) (by kernel_rfl) (fun _ _ _ h => h) (Or.inr ⟨by rfl, rfl⟩) hHeld ?_
         (try simp only [Act.put, List.setIfInBounds_toArray, List.set_cons_zero, List.set_cons_succ])
         refine wpAnyH_take (i := 7) (List.getElem?_toArray.trans rfl) (by kernel_rfl) (by kernel_rfl) (by kernel_rfl) (fun _ _ _ h => h) (Or.inr ⟨by rfl, rfl⟩) hHeld ?_
         (try simp only [Act.put, List.setIfInBounds_toArray, List.set_cons_zero, List.set_cons_succ])
         refine wpAnyH_take (i := 8) (List.getElem?_toArray.trans rfl) (by kernel_rfl) (by kernel_rfl) (by kernel_rfl) (fun _ _ _ h => h) (Or.inr ⟨by rfl, rfl⟩) hHeld ?_
         (try simp only [Act.put, List.setIfInBounds_toArray, List.set_cons_zero, List.set_cons_succ])
         refine wpAnyH_take (i := 9) (List.getElem?_toArray.trans rfl) (by kernel_rfl) (by kernel_rfl) (by kernel_rfl) (fun _ _ _ h => h) (Or.inr ⟨by rfl, rfl⟩) hHeld ?_
         (try simp only [Act.put, List.setIfInBounds_toArray, List.set_cons_zero, List.set_cons_succ])
         refine wpAnyH_take (i := 10) (List.getElem?_toArray.trans rfl) (by kernel_rfl) (by kernel_rfl) (by kernel_rfl) (fun _ _ _ h => h) (Or.inr ⟨by rfl, rfl⟩) hHeld ?_
         (try simp only [Act.put, List.setIfInBounds_toArray, List.set_cons_zero, List.set_cons_succ])
         refine wpAnyH_take (i := 11) (List.getElem?_toArray.trans rfl) (by kernel_rfl) (by kernel_rfl) (by kernel_rfl) (fun _ _ _ h => h) (Or.inr ⟨by rfl, rfl⟩) hHeld ?_
         (try simp only [Act.put, List.setIfInBounds_toArray, List.set_cons_zero, List.set_cons_succ])
         refine wpAnyH_take (i := 12) (List.getElem?_toArray.trans rfl) (by kernel_rfl) (by kernel_rfl) (by kernel_rfl) (fun _ _ _ h => h) (Or.inr ⟨by rfl, rfl⟩) hHeld ?_
         (try simp only [Act.put, List.setIfInBounds_toArray, List.set_cons_zero, List.set_cons_succ])
         refine wpAnyH_take (i := 13) (List.getElem?_toArray.trans rfl) (by kernel_rfl) (by kernel_rfl) (by kernel_rfl) (fun _ _ _ h => h) (Or.inr ⟨by rfl, rfl⟩) hHeld ?_
         (try simp only [Act.put, List.setIfInBounds_toArray, List.set_cons_zero, List.set_cons_succ])
         refine wpAnyH_take (i := 14) (List.getElem?_toArray.trans rfl) (by kernel_rfl) (by kernel_rfl) (by kernel_rfl) (fun _ _ _ h => h) (Or.inr ⟨by rfl, rfl⟩) hHeld ?_
         (try simp only [Act.put, List.setIfInBounds_toArray, List.set_cons_zero, List.set_cons_succ])
         refine wpAnyH_take (i := 15) (List.getElem?_toArray.trans rfl) (by kernel_rfl) (by kernel_rfl) (by kernel_rfl) (fun _ _ _ h => h) (Or.inr ⟨by rfl, rfl⟩) hHeld ?_
         (try simp only [Act.put, List.setIfInBounds_toArray, List.set_cons_zero, List.set_cons_succ])
         refine wpAnyH_take (i := 16) (v := ?_) (List.getElem?_toArray.trans rfl) (by kernel_rfl) (by kernel_rfl) (by kernel_rfl) (fun _ _ _ h => h) (Or.inl ⟨by rfl, ?_⟩) hHeld ?_
         rotate_left
         · intro wx hSw
           (try dsimp only at hSw)
           go_simp
           (try with_reducible rfl)
         (try simp only [Act.put, List.setIfInBounds_toArray, List.set_cons_zero, List.set_cons_succ])
         refine wpAnyH_done (by kernel_rfl) ?_ _
         have HK := Lib.hid (HQ.out.keep hHeld)
         go_wp2_with fail
         go_roundw
         case rel => exact ⟨k + 1, S, by omega, Or.inl (by omega), by go_num, (by rw [HSQ.out]; exact HK), HRN⟩
         case measure => simp [intOf] <;> omega
       | succ j =>
         obtain ⟨hrow, hgrown, hlen⟩ := HQ.out
         obtain ⟨x, hx⟩ : ∃ x, q[j]? = some x := ⟨_, List.getElem?_eq_getElem (by omega)⟩
         obtain ⟨y, hy⟩ : ∃ y, q[j + 1]? = some y := ⟨_, List.getElem?_eq_getElem (by omega)⟩
         have HX := Lib.hid hx
         have HY := Lib.hid hy
         have HROW := Lib.hid hrow
         have hglt := hrow.lt
         have HST2 := Lib.hid (show sinkT (j + 1) q = if ltN y.name x.name then sinkT j (swapT q j) else q by
           conv => lhs; unfold sinkT
           rw [hx, hy])
         have HSW := Lib.hid (fun W (h : SortW w g n q W) => h.swap hx hy)
         obtain ⟨r, hr⟩ : ∃ r, r = cmpN y.name x.name := ⟨_, rfl⟩
         have HLT := Lib.hid (show decide (r < 0) = ltN y.name x.name by rw [hr]; exact cmpN_neg _ _)
         have HOR := Lib.hid (fun W => HOT.out y x W)
         rw [← hr] at HOR
         clear hr hx hy hrow hgrown
         obtain ⟨xn, xa, xl, xc, xr, xx, xs⟩ := x
         obtain ⟨yn, ya, yl, yc, yr, yx, ys⟩ := y
         have HOR := Lib.hid (show ∀ W, Calls Tryz.prog 57 #[.agg #[.string yn, .slice ya yl yc, .int .i64 yr, .int .i64 yx, .int .i64 ys], .agg #[.string xn, .slice xa xl xc, .int .i64 xr, .int .i64 xx, .int .i64 xs]] W (RetV (.int .i64 r) W) from HOR.out)
         have HSX := Lib.hid (show ∀ wx, Below wi.heap.size wi wx → Below wi.heap.size wi wx ∧ wx.cell? ⟨g, j * 5, none⟩ = some ((.string xn)) ∧ wx.cell? ⟨g, j * 5 + 1, none⟩ = some ((.slice xa xl xc)) ∧ wx.cell? ⟨g, j * 5 + 2, none⟩ = some ((.int .i64 xr)) ∧ wx.cell? ⟨g, j * 5 + 3, none⟩ = some ((.int .i64 xx)) ∧ wx.cell? ⟨g, j * 5 + 4, none⟩ = some ((.int .i64 xs)) ∧ wx.cell? ⟨g, (j + 1) * 5, none⟩ = some ((.string yn)) ∧ wx.cell? ⟨g, (j + 1) * 5 + 1, none⟩ = some ((.slice ya yl yc)) ∧ wx.cell? ⟨g, (j + 1) * 5 + 2, none⟩ = some ((.int .i64 yr)) ∧ wx.cell? ⟨g, (j + 1) * 5 + 3, none⟩ = some ((.int .i64 yx)) ∧ wx.cell? ⟨g, (j + 1) * 5 + 4, none⟩ = some ((.int .i64 ys)) from fun wx h => by
           have hR : RowT wx g q := HROW.out.keep h
           exact ⟨h, hR.cell HX.out (i := 0) rfl, hR.cell HX.out (i := 1) rfl, hR.cell HX.out (i := 2) rfl, hR.cell HX.out (i := 3) rfl, hR.cell HX.out (i := 4) rfl, hR.cell HY.out (i := 0) rfl, hR.cell HY.out (i := 1) rfl, hR.cell HY.out (i := 2) rfl, hR.cell HY.out (i := 3) rfl, hR.cell HY.out (i := 4) rfl⟩)
         have hkk : ((j : Int) + 1).toNat = j + 1 := by omega
         have hjn : (j : Int) + 1 < (n : Int) := by omega
         have hjn2 : j + 1 < n := by omega
         have hjn3 : j < n := by omega
         have hj0 : ((0 : Int) ≤ (j : Int) + 1) = True := eq_true (by omega)
         have hw1 : IntKind.i64.wrap (j : Int) = (j : Int) := IntWalk.i64_in _ (by omega)
         by_cases hneg : r < 0
         · have HE := Lib.hid (show S = sinkT j (swapT q j) by
             have h := HLT.out
             rw [decide_eq_true hneg] at h
             rw [HSQ.out, HST2.out]
             exact if_pos h.symm)
           go_wp2_with fail
           refine wp_region_held_drew (S := (fun wx => Below wi.heap.size wi wx ∧ wx.cell? ⟨g, j * 5, none⟩ = some ((.string xn)) ∧ wx.cell? ⟨g, j * 5 + 1, none⟩ = some ((.slice xa xl xc)) ∧ wx.cell? ⟨g, j * 5 + 2, none⟩ = some ((.int .i64 xr)) ∧ wx.cell? ⟨g, j * 5 + 3, none⟩ = some ((.int .i64 xx)) ∧ wx.cell? ⟨g, j * 5 + 4, none⟩ = some ((.int .i64 xs)) ∧ wx.cell? ⟨g, (j + 1) * 5, none⟩ = some ((.string yn)) ∧ wx.cell? ⟨g, (j + 1) * 5 + 1, none⟩ = some ((.slice ya yl yc)) ∧ wx.cell? ⟨g, (j + 1) * 5 + 2, none⟩ = some ((.int .i64 yr)) ∧ wx.cell? ⟨g, (j + 1) * 5 + 3, none⟩ = some ((.int .i64 yx)) ∧ wx.cell? ⟨g, (j + 1) * 5 + 4, none⟩ = some ((.int .i64 ys)))) (by kernel_rfl) (HSX.out _ (Below.refl _ _).drew) (fun hHeld => ?_)
           (try dsimp only at hHeld)
           refine wpAnyH_take (i := 0) (v := ?_) (List.getElem?_toArray.trans rfl) (by kernel_rfl) (by kernel_rfl) (by kernel_rfl) (fun _ _ _ h => h) (Or.inl ⟨by rfl, ?_⟩) hHeld ?_
           rotate_left
           · intro wx hSw
             (try dsimp only at hSw)
             go_simp
             (try with_reducible rfl)
           (try simp only [Act.put, List.setIfInBounds_toArray, List.set_cons_zero, List.set_cons_succ])
           refine wpAnyH_take (i := 1) (v := ?_) (List.getElem?_toArray.trans rfl) (by kernel_rfl) (by kernel_rfl) (by kernel_rfl) (fun _ _ _ h => h) (Or.inl ⟨by rfl, ?_⟩) hHeld ?_
           rotate_left
           · intro wx hSw
             (try dsimp only at hSw)
             go_simp
             (try with_reducible rfl)
           (try simp only [Act.put, List.setIfInBounds_toArray, List.set_cons_zero, List.set_cons_succ])
           refine wpAnyH_take (i := 2) (v := ?_) (List.getElem?_toArray.trans rfl) (by kernel_rfl) (by kernel_rfl) (by kernel_rfl) (fun _ _ _ h => h) (Or.inl ⟨by rfl, ?_⟩) hHeld ?_
           rotate_left
           · intro wx hSw
             (try dsimp only at hSw)
             go_simp
             (try with_reducible rfl)
           (try simp only [Act.put, List.setIfInBounds_toArray, List.set_cons_zero, List.set_cons_succ])
           refine wpAnyH_take (i := 3) (v := ?_) (List.getElem?_toArray.trans rfl) (by kernel_rfl) (by kernel_rfl) (by kernel_rfl) (fun _ _ _ h => h) (Or.inl ⟨by rfl, ?_⟩) hHeld ?_
           rotate_left
           · intro wx hSw
             (try dsimp only at hSw)
             go_simp
             (try with_reducible rfl)
           (try simp only [Act.put, List.setIfInBounds_toArray, List.set_cons_zero, List.set_cons_succ])
           refine wpAnyH_take (i := 4) (v := ?_) (List.getElem?_toArray.trans rfl) (by kernel_rfl) (by kernel_rfl) (by kernel_rfl) (fun _ _ _ h => h) (Or.inl ⟨by rfl, ?_⟩) hHeld ?_
           rotate_left
           · intro wx hSw
             (try dsimp only at hSw)
             go_simp
             (try with_reducible rfl)
           (try simp only [Act.put, List.setIfInBounds_toArray, List.set_cons_zero, List.set_cons_succ])
           refine wpAnyH_take (i := 5) (v := ?_) (List.getElem?_toArray.trans rfl) (by kernel_rfl) (by kernel_rfl) (by kernel_rfl) (fun _ _ _ h => h) (Or.inl ⟨by rfl, ?_⟩) hHeld ?_
           rotate_left
           · intro wx hSw
             (try dsimp only at hSw)
             go_simp
             (try with_reducible rfl)
           (try simp only [Act.put, List.setIfInBounds_toArray, List.set_cons_zero, List.set_cons_succ])
           refine wpAnyH_take (i := 6) (v := ?_) (List.getElem?_toArray.trans rfl) (by kernel_rfl) (by kernel_rfl) (by kernel_rfl) (fun _ _ _ h => h) (Or.inl ⟨by rfl, ?_⟩) hHeld ?_
           rotate_left
           · intro wx hSw
             (try dsimp only at hSw)
             go_simp
             (try with_reducible rfl)
           (try simp only [Act.put, List.setIfInBounds_toArray, List.set_cons_zero, List.set_cons_succ])
           refine wpAnyH_take (i := 7) (v := ?_) (List.getElem?_toArray.trans rfl) (by kernel_rfl) (by kernel_rfl) (by kernel_rfl) (fun _ _ _ h => h) (Or.inl ⟨by rfl, ?_⟩) hHeld ?_
           rotate_left
           · intro wx hSw
             (try dsimp only at hSw)
             go_simp
             (try with_reducible rfl)
           (try simp only [Act.put, List.setIfInBounds_toArray, List.set_cons_zero, List.set_cons_succ])
           refine wpAnyH_take (i := 8) (v := ?_) (List.getElem?_toArray.trans rfl) (by kernel_rfl) (by kernel_rfl) (by kernel_rfl) (fun _ _ _ h => h) (Or.inl ⟨by rfl, ?_⟩) hHeld ?_
           rotate_left
           · intro wx hSw
             (try dsimp only at hSw)
             go_simp
             (try with_reducible rfl)
           (try simp only [Act.put, List.setIfInBounds_toArray, List.set_cons_zero, List.set_cons_succ])
           refine wpAnyH_take (i := 9) (v := ?_) (List.getElem?_toArray.trans rfl) (by kernel_rfl) (by kernel_rfl) (by kernel_rfl) (fun _ _ _ h => h) (Or.inl ⟨by rfl, ?_⟩) hHeld ?_
           rotate_left
           · intro wx hSw
             (try dsimp only at hSw)
             go_simp
             (try with_reducible rfl)
           (try simp only [Act.put, List.setIfInBounds_toArray, List.set_cons_zero, List.set_cons_succ])
           refine wpAnyH_take (i := 10) (v := ?_) (List.getElem?_toArray.trans rfl) (by kernel_rfl) (by kernel_rfl) (by kernel_rfl) (fun _ _ _ h => h) (Or.inl ⟨by rfl, ?_⟩) hHeld ?_
           rotate_left
           · intro wx hSw
             (try dsimp only at hSw)
             go_simp
             (try with_reducible rfl)
           (try simp only [Act.put, List.setIfInBounds_toArray, List.set_cons_zero, List.set_cons_succ])
           refine wpAnyH_take (i := 11) (v := ?_) (List.getElem?_toArray.trans rfl) (by kernel_rfl) (by kernel_rfl) (by kernel_rfl) (fun _ _ _ h => h) (Or.inl ⟨by rfl, ?_⟩) hHeld ?_
           rotate_left
           · intro wx hSw
             (try dsimp only at hSw)
             go_simp
             (try with_reducible rfl)
           (try simp only [Act.put, List.setIfInBounds_toArray, List.set_cons_zero, List.set_cons_succ])
           refine wpAnyH_take (i := 12) (v := ?_) (List.getElem?_toArray.trans rfl) (by kernel_rfl) (by kernel_rfl) (by kernel_rfl) (fun _ _ _ h => h) (Or.inl ⟨by rfl, ?_⟩) hHeld ?_
           rotate_left
           · intro wx hSw
             (try dsimp only at hSw)
             go_simp
             (try with_reducible rfl)
           (try simp only [Act.put, List.setIfInBounds_toArray, List.set_cons_zero, List.set_cons_succ])
           refine wpAnyH_take (i := 13) (v := ?_) (List.getElem?_toArray.trans rfl) (by kernel_rfl) (by kernel_rfl) (by kernel_rfl) (fun _ _ _ h => h) (Or.inl ⟨by rfl, ?_⟩) hHeld ?_
           rotate_left
           · intro wx hSw
             (try dsimp only at hSw)
             go_simp
             (try with_reducible rfl)
           (try simp only [Act.put, List.setIfInBounds_toArray, List.set_cons_zero, List.set_cons_succ])
           refine wpAnyH_ready (rs := [14]) (by kernel_rfl) (by simp) ?_
           refine AllReadyH.cons (List.getElem?_toArray.trans rfl) (fun K hK => ?_) AllReadyH.nil
           go_simp
           go_at_call 57
           with_reducible refine Calls.mono (HOR.out _) ?_
           rintro e w5 ⟨rfl, hB5⟩
           have hHeld2 := HSX.out _ (hHeld.1.trans (hB5.mono hHeld.1.size))
           refine hK.out _ _ hHeld2 (fun _ => ?_)
           clear hK K hHeld hB5
           have hHeld := hHeld2
           clear hHeld2
           (try simp only [Act.put, List.setIfInBounds_toArray, List.set_cons_zero, List.set_cons_succ])
           refine wpAnyH_take (i := 15) (v := ?_) (List.getElem?_toArray.trans rfl) (by kernel_rfl) (by kernel_rfl) (by kernel_rfl) (fun _ _ _ h => h) (Or.inl ⟨by rfl, ?_⟩) hHeld ?_
           rotate_left
           · intro wx hSw
             (try dsimp only at hSw)
             go_simp
             (try with_reducible rfl)
           (try simp only [Act.put, List.setIfInBounds_toArray, List.set_cons_zero, List.set_cons_succ])
           refine wpAnyH_take (i := 16) (v := ?_) (List.getElem?_toArray.trans rfl) (by kernel_rfl) (by kernel_rfl) (by kernel_rfl) (fun _ _ _ h => h) (Or.inl ⟨by rfl, ?_⟩) hHeld ?_
           rotate_left
           · intro wx hSw
             (try dsimp only at hSw)
             go_simp
             (try with_reducible rfl)
           (try simp only [Act.put, List.setIfInBounds_toArray, List.set_cons_zero, List.set_cons_succ])
           refine wpAnyH_done (by kernel_rfl) ?_ _
           have HK := Lib.hid (HQ.out.keep hHeld.1)
           have hB5d : Below wi.heap.size wi w5.drew := hHeld.1.trans ((Below.refl _ _).drew)
           obtain ⟨_, a0, a1, a2, a3, a4, b0, b1, b2, b3, b4⟩ := HSX.out _ hB5d
           have hfree : ∀ i, w5.frozen? ⟨g, i, none⟩ = false := fun i => (HROW.out.keep hHeld.1).free i
           have hkd := ((HSW.out _ (HQ.out.keep hHeld.1)).2).drew
           dsimp only [setTab] at hkd
           have HKD := Lib.hid hkd
           clear hkd
           clear hHeld hB5d
           go_wp2_with fail
           go_region
           go_wp2_with fail
           go_roundw
           case rel => exact ⟨j, swapT q j, by omega, by go_num, HKD, HE⟩
           case measure => simp [intOf] <;> omega
         · have HE := Lib.hid (show S = q by
             have h := HLT.out
             rw [decide_eq_false hneg] at h
             rw [HSQ.out, HST2.out]
             exact if_neg (fun h2 => by rw [h2] at h; cases h))
           go_wp2_with fail
           refine wp_region_held_drew (S := (fun wx => Below wi.heap.size wi wx ∧ wx.cell? ⟨g, j * 5, none⟩ = some ((.string xn)) ∧ wx.cell? ⟨g, j * 5 + 1, none⟩ = some ((.slice xa xl xc)) ∧ wx.cell? ⟨g, j * 5 + 2, none⟩ = some ((.int .i64 xr)) ∧ wx.cell? ⟨g, j * 5 + 3, none⟩ = some ((.int .i64 xx)) ∧ wx.cell? ⟨g, j * 5 + 4, none⟩ = some ((.int .i64 xs)) ∧ wx.cell? ⟨g, (j + 1) * 5, none⟩ = some ((.string yn)) ∧ wx.cell? ⟨g, (j + 1) * 5 + 1, none⟩ = some ((.slice ya yl yc)) ∧ wx.cell? ⟨g, (j + 1) * 5 + 2, none⟩ = some ((.int .i64 yr)) ∧ wx.cell? ⟨g, (j + 1) * 5 + 3, none⟩ = some ((.int .i64 yx)) ∧ wx.cell? ⟨g, (j + 1) * 5 + 4, none⟩ = some ((.int .i64 ys)))) (by kernel_rfl) (HSX.out _ (Below.refl _ _).drew) (fun hHeld => ?_)
           (try dsimp only at hHeld)
           refine wpAnyH_take (i := 0) (v := ?_) (List.getElem?_toArray.trans rfl) (by kernel_rfl) (by kernel_rfl) (by kernel_rfl) (fun _ _ _ h => h) (Or.inl ⟨by rfl, ?_⟩) hHeld ?_
           rotate_left
           · intro wx hSw
             (try dsimp only at hSw)
             go_simp
             (try with_reducible rfl)
           (try simp only [Act.put, List.setIfInBounds_toArray, List.set_cons_zero, List.set_cons_succ])
           refine wpAnyH_take (i := 1) (v := ?_) (List.getElem?_toArray.trans rfl) (by kernel_rfl) (by kernel_rfl) (by kernel_rfl) (fun _ _ _ h => h) (Or.inl ⟨by rfl, ?_⟩) hHeld ?_
           rotate_left
           · intro wx hSw
             (try dsimp only at hSw)
             go_simp
             (try with_reducible rfl)
           (try simp only [Act.put, List.setIfInBounds_toArray, List.set_cons_zero, List.set_cons_succ])
           refine wpAnyH_take (i := 2) (v := ?_) (List.getElem?_toArray.trans rfl) (by kernel_rfl) (by kernel_rfl) (by kernel_rfl) (fun _ _ _ h => h) (Or.inl ⟨by rfl, ?_⟩) hHeld ?_
           rotate_left
           · intro wx hSw
             (try dsimp only at hSw)
             go_simp
             (try with_reducible rfl)
           (try simp only [Act.put, List.setIfInBounds_toArray, List.set_cons_zero, List.set_cons_succ])
           refine wpAnyH_take (i := 3) (v := ?_) (List.getElem?_toArray.trans rfl) (by kernel_rfl) (by kernel_rfl) (by kernel_rfl) (fun _ _ _ h => h) (Or.inl ⟨by rfl, ?_⟩) hHeld ?_
           rotate_left
           · intro wx hSw
             (try dsimp only at hSw)
             go_simp
             (try with_reducible rfl)
           (try simp only [Act.put, List.setIfInBounds_toArray, List.set_cons_zero, List.set_cons_succ])
           refine wpAnyH_take (i := 4) (v := ?_) (List.getElem?_toArray.trans rfl) (by kernel_rfl) (by kernel_rfl) (by kernel_rfl) (fun _ _ _ h => h) (Or.inl ⟨by rfl, ?_⟩) hHeld ?_
           rotate_left
           · intro wx hSw
             (try dsimp only at hSw)
             go_simp
             (try with_reducible rfl)
           (try simp only [Act.put, List.setIfInBounds_toArray, List.set_cons_zero, List.set_cons_succ])
           refine wpAnyH_take (i := 5) (v := ?_) (List.getElem?_toArray.trans rfl) (by kernel_rfl) (by kernel_rfl) (by kernel_rfl) (fun _ _ _ h => h) (Or.inl ⟨by rfl, ?_⟩) hHeld ?_
           rotate_left
           · intro wx hSw
             (try dsimp only at hSw)
             go_simp
             (try with_reducible rfl)
           (try simp only [Act.put, List.setIfInBounds_toArray, List.set_cons_zero, List.set_cons_succ])
           refine wpAnyH_take (i := 6) (v := ?_) (List.getElem?_toArray.trans rfl) (by kernel_rfl) (by kernel_rfl) (by kernel_rfl) (fun _ _ _ h => h) (Or.inl ⟨by rfl, ?_⟩) hHeld ?_
           rotate_left
           · intro wx hSw
             (try dsimp only at hSw)
             go_simp
             (try with_reducible rfl)
           (try simp only [Act.put, List.setIfInBounds_toArray, List.set_cons_zero, List.set_cons_succ])
           refine wpAnyH_take (i := 7) (v := ?_) (List.getElem?_toArray.trans rfl) (by kernel_rfl) (by kernel_rfl) (by kernel_rfl) (fun _ _ _ h => h) (Or.inl ⟨by rfl, ?_⟩) hHeld ?_
           rotate_left
           · intro wx hSw
             (try dsimp only at hSw)
             go_simp
             (try with_reducible rfl)
           (try simp only [Act.put, List.setIfInBounds_toArray, List.set_cons_zero, List.set_cons_succ])
           refine wpAnyH_take (i := 8) (v := ?_) (List.getElem?_toArray.trans rfl) (by kernel_rfl) (by kernel_rfl) (by kernel_rfl) (fun _ _ _ h => h) (Or.inl ⟨by rfl, ?_⟩) hHeld ?_
           rotate_left
           · intro wx hSw
             (try dsimp only at hSw)
             go_simp
             (try with_reducible rfl)
           (try simp only [Act.put, List.setIfInBounds_toArray, List.set_cons_zero, List.set_cons_succ])
           refine wpAnyH_take (i := 9) (v := ?_) (List.getElem?_toArray.trans rfl) (by kernel_rfl) (by kernel_rfl) (by kernel_rfl) (fun _ _ _ h => h) (Or.inl ⟨by rfl, ?_⟩) hHeld ?_
           rotate_left
           · intro wx hSw
             (try dsimp only at hSw)
             go_simp
             (try with_reducible rfl)
           (try simp only [Act.put, List.setIfInBounds_toArray, List.set_cons_zero, List.set_cons_succ])
           refine wpAnyH_take (i := 10) (v := ?_) (List.getElem?_toArray.trans rfl) (by kernel_rfl) (by kernel_rfl) (by kernel_rfl) (fun _ _ _ h => h) (Or.inl ⟨by rfl, ?_⟩) hHeld ?_
           rotate_left
           · intro wx hSw
             (try dsimp only at hSw)
             go_simp
             (try with_reducible rfl)
           (try simp only [Act.put, List.setIfInBounds_toArray, List.set_cons_zero, List.set_cons_succ])
           refine wpAnyH_take (i := 11) (v := ?_) (List.getElem?_toArray.trans rfl) (by kernel_rfl) (by kernel_rfl) (by kernel_rfl) (fun _ _ _ h => h) (Or.inl ⟨by rfl, ?_⟩) hHeld ?_
           rotate_left
           · intro wx hSw
             (try dsimp only at hSw)
             go_simp
             (try with_reducible rfl)
           (try simp only [Act.put, List.setIfInBounds_toArray, List.set_cons_zero, List.set_cons_succ])
           refine wpAnyH_take (i := 12) (v := ?_) (List.getElem?_toArray.trans rfl) (by kernel_rfl) (by kernel_rfl) (by kernel_rfl) (fun _ _ _ h => h) (Or.inl ⟨by rfl, ?_⟩) hHeld ?_
           rotate_left
           · intro wx hSw
             (try dsimp only at hSw)
             go_simp
             (try with_reducible rfl)
           (try simp only [Act.put, List.setIfInBounds_toArray, List.set_cons_zero, List.set_cons_succ])
           refine wpAnyH_take (i := 13) (v := ?_) (List.getElem?_toArray.trans rfl) (by kernel_rfl) (by kernel_rfl) (by kernel_rfl) (fun _ _ _ h => h) (Or.inl ⟨by rfl, ?_⟩) hHeld ?_
           rotate_left
           · intro wx hSw
             (try dsimp only at hSw)
             go_simp
             (try with_reducible rfl)
           (try simp only [Act.put, List.setIfInBounds_toArray, List.set_cons_zero, List.set_cons_succ])
           refine wpAnyH_ready (rs := [14]) (by kernel_rfl) (by simp) ?_
           refine AllReadyH.cons (List.getElem?_toArray.trans rfl) (fun K hK => ?_) AllReadyH.nil
           go_simp
           go_at_call 57
           with_reducible refine Calls.mono (HOR.out _) ?_
           rintro e w5 ⟨rfl, hB5⟩
           have hHeld2 := HSX.out _ (hHeld.1.trans (hB5.mono hHeld.1.size))
           refine hK.out _ _ hHeld2 (fun _ => ?_)
           clear hK K hHeld hB5
           have hHeld := hHeld2
           clear hHeld2
           (try simp only [Act.put, List.setIfInBounds_toArray, List.set_cons_zero, List.set_cons_succ])
           refine wpAnyH_take (i := 15) (v := ?_) (List.getElem?_toArray.trans rfl) (by kernel_rfl) (by kernel_rfl) (by kernel_rfl) (fun _ _ _ h => h) (Or.inl ⟨by rfl, ?_⟩) hHeld ?_
           rotate_left
           · intro wx hSw
             (try dsimp only at hSw)
             go_simp
             (try with_reducible rfl)
           (try simp only [Act.put, List.setIfInBounds_toArray, List.set_cons_zero, List.set_cons_succ])
           refine wpAnyH_take (i := 16) (v := ?_) (List.getElem?_toArray.trans rfl) (by kernel_rfl) (by kernel_rfl) (by kernel_rfl) (fun _ _ _ h => h) (Or.inl ⟨by rfl, ?_⟩) hHeld ?_
           rotate_left
           · intro wx hSw
             (try dsimp only at hSw)
             go_simp
             (try with_reducible rfl)
           (try simp only [Act.put, List.setIfInBounds_toArray, List.set_cons_zero, List.set_cons_succ])
           refine wpAnyH_done (by kernel_rfl) ?_ _
           have HK := Lib.hid (HQ.out.keep hHeld.1)
           go_wp2_with fail
           go_roundw
           case rel => exact ⟨k + 1, S, by omega, Or.inl (by omega), by go_num, (by rw [HE.out]; exact HK), HRN⟩
           case measure => simp [intOf] <;> omega
   · have HE := Lib.hid (show R = l by
       rw [HRR.out]
       rcases hk with h | h
       · rw [show n - k = 0 by omega]; rfl
       · rw [show n - k = 0 by omega]; rfl)
     go_wp2_with fail
     go_end0
     exact ⟨rfl, by rw [HE.out]; exact HS.out⟩
end Go.Proofs.YtcgpflkaejbkhaaGreatDoor
namespace Go.Proofs.YtcgpflkaejbkhaaGreatDoor
open Go.RowKit

def sortT (l : List Tab) : List Tab := isortT (l.length - 1) 1 l
def SortedP (w : World) (g n : Nat) (l : List Tab) (e : Ending) (w' : World) : Prop := e = .returned (.tuple #[]) ∧ SortW w g n l w'
set_option maxRecDepth 100000 in
set_option maxHeartbeats 4000000 in
theorem stable_any (g cap n : Nat) (l : List Tab) (w : World) (hn : n ≤ 19) (h : RowT w g l) (hl : l.length = n) (hc : n ≤ cap) :
   Calls Tryz.prog 92 #[.slice (some ⟨g, 0, none⟩) n cap, .int .i64 n, .func (.func 57) #[] #[]] w (SortedP w g n (sortT l)) := by
 have HI := Lib.hid (insertion_any g cap n l w (by omega) h hl hc)
 rw [← show sortT l = isortT (n - 1) 1 l by unfold sortT; rw [hl]] at HI
 generalize sortT l = R at HI ⊢
 have h20 : ((20 : Int) ≤ (n : Int)) = False := eq_false (by omega)
 have h20b : ((20 : Int) < (n : Int)) = False := eq_false (by omega)
 clear h hl
 go_enter Tryz.func92, Tryz.ntmps92
 go_wp2_with fail
 go_loop [7, 8] (fun a b => a = .int .i64 0 ∧ b = .int .i64 20) (fun _ _ => 0)
 case atStart => exact ⟨rfl, rfl⟩
 case round =>
   obtain ⟨rfl, rfl⟩ := hrel
   go_wp2_with (first
     | (go_at_call 105; (with_reducible refine HI.out.mono ?_); rintro e w5 ⟨rfl, hS⟩; have HS := Lib.hid hS; clear hS)
     | fail)
   go_loop [6] (fun a => a = .int .i64 20) (fun _ => 0)
   case atStart => rfl
   case round =>
     subst hrel
     go_wp2_with fail
     go_end0
     exact ⟨rfl, HS.out⟩
set_option maxRecDepth 100000 in
theorem sort_any (g cap n : Nat) (l : List Tab) (w : World) (hn : n ≤ 19) (h : RowT w g l) (hl : l.length = n) (hc : n ≤ cap) :
   Calls Tryz.prog 56 #[.slice (some ⟨g, 0, none⟩) n cap, .func (.func 57) #[] #[]] w (SortedP w g n (sortT l)) := by
 have HI := Lib.hid (stable_any g cap n l w hn h hl hc)
 clear h hl
 go_enter Tryz.func56, Tryz.ntmps56
 go_wp2_with (first
   | (go_at_call 92; (with_reducible refine HI.out.mono ?_); rintro e w5 ⟨rfl, hS⟩; have HS := Lib.hid hS; clear hS)
   | fail)
 go_end0
 exact ⟨rfl, HS.out⟩
end Go.Proofs.YtcgpflkaejbkhaaGreatDoor
