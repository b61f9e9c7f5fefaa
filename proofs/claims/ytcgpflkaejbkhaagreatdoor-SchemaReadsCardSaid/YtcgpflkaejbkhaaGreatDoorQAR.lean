/- The walks of the document's PutIndex where it answers an error. -/
import Derived.Test.YtcgpflkaejbkhaaGreatDoorQAO
import Derived.Deep.RegionLaw
import Derived.Deep.RegionHeld3
namespace Go.Proofs.YtcgpflkaejbkhaaGreatDoor
open Go.RowKit

set_option maxRecDepth 100000 in
set_option maxHeartbeats 16000000 in
theorem rputx_bad (m : Int) (gt : Nat → Nat) (ht : ∀ j, j < 23 → finD (Ieee.double.read (gt j)) = true) (A : Option Addr) (c : Nat) (ts : List (Tab × List Col)) (ia : Option Addr) (ic : Nat) (xs : List (Idx × List Int)) (t : Idx) (w : World) (hG : Glob m gt w) (hD : DeepAt w A ts) (hX : DeepIx w ia xs) (hbad : idxBad t = true) :
   Calls Tryz.prog 31 #[.agg #[.slice A ts.length c, .slice ia xs.length ic], .agg #[.string t.name, .string t.table, .slice t.pa t.pn t.pc, .int .i64 t.state, .int .i64 t.root, .int .i64 t.cursor]] w (ErrP 7 w) := by
 have HST := Lib.hid (PutXL.start w A ts.length c ia xs.length ic t)
 have HTI := Lib.hid (show ∀ W, Below w.heap.size w W → Calls Tryz.prog 15 #[.agg #[.slice A ts.length c, .slice ia xs.length ic], .string t.name] W (RetV (.int .i64 (placeI (findN PX.name (xs.map pxOf) t.name))) W) from fun W hB => rindex_at ia ic xs A ts.length c t.name W (DeepIx.keep hB hX))
 have HTT := Lib.hid (show ∀ W, Below w.heap.size w W → Calls Tryz.prog 13 #[.agg #[.slice A ts.length c, .slice ia xs.length ic], .string t.table] W (RetV (.int .i64 (placeI (findN PT.name (ts.map ptOf) t.table))) W) from fun W hB => rtable_at A c ts ia xs.length ic t.table W (DeepAt.keep hB hD))
 obtain ⟨bn, hb⟩ : ∃ b, b = nameB t.name.data.toList := ⟨_, rfl⟩
 have HNA := Lib.hid (show ∀ W, Below w.heap.size w W → Calls Tryz.prog 47 #[.string t.name] W (RetV (.bool bn) W) from fun W hB => by rw [hb]; exact rname_any m gt ht t.name W (hG.keep hB))
 have hor := idxBad_ways hb hbad
 generalize placeI (findN PX.name (xs.map pxOf) t.name) = ri at HTI
 generalize placeI (findN PT.name (ts.map ptOf) t.table) = rt at HTT
 obtain ⟨n, hnn⟩ : ∃ n, n = ts.length := ⟨_, rfl⟩
 obtain ⟨mx, hmm⟩ : ∃ mx, mx = xs.length := ⟨_, rfl⟩
 have HN := Lib.hid hnn
 have HM := Lib.hid hmm
 rw [← hnn] at HST HTI HTT 
 rw [← hmm] at HST HTI HTT 
 obtain ⟨tn, tt, ta, tl, tc, tr, tx, tw⟩ := t
 dsimp only at HST HTI HTT HNA hor ⊢
 rw [← hnn, ← hmm]
 clear hG hD hX ht hnn hmm hbad hb
 rcases hor with rfl | ⟨rfl, r1⟩ | ⟨rfl, r1, r2⟩ | ⟨rfl, r1, r2, r3⟩ | ⟨rfl, r1, r2, r3, r4⟩ | ⟨rfl, r1, r2, r3, r4, r5⟩
 all_goals
   go_enter Tryz.func31, Tryz.ntmps31
   go_wp2_with fail
   obtain ⟨w0, hw0⟩ : ∃ w0, w0 = (((w.alloc (.cells #[.slice A n c, .slice ia mx ic] 36)).alloc (.cells #[.string tn, .string tt, .slice ta tl tc, .int .i64 tr, .int .i64 tx, .int .i64 tw] 28)).alloc (.cells #[.slice none 0 0, .slice none 0 0] 36)) := ⟨_, rfl⟩
   rw [← hw0] at HST ⊢
   have HKS := Lib.hid (show PutXL w A n c ia mx ic ⟨tn, tt, ta, tl, tc, tr, tx, tw⟩ w0.drew from HST.out.keep ((Below.refl _ _).drew))
   have k0 := cell_of_row w0.drew _ 0 _ _ _ HKS.out.tab
   have k1 := cell_of_row w0.drew _ 1 _ _ _ HKS.out.tab
   have k2 := cell_of_row w0.drew _ 2 _ _ _ HKS.out.tab
   have k3 := cell_of_row w0.drew _ 3 _ _ _ HKS.out.tab
   have k4 := cell_of_row w0.drew _ 4 _ _ _ HKS.out.tab
   have k5 := cell_of_row w0.drew _ 5 _ _ _ HKS.out.tab
   have s0 := cell_of_row w0.drew _ 0 _ _ _ HKS.out.sch
   have s1 := cell_of_row w0.drew _ 1 _ _ _ HKS.out.sch
   have a0 := cell_of_row w0.drew _ 0 _ _ _ HKS.out.ans
   have a1 := cell_of_row w0.drew _ 1 _ _ _ HKS.out.ans
   have f0 := frozen_of_row w0.drew _ 0 _ _ HKS.out.ans
   have f1 := frozen_of_row w0.drew _ 1 _ _ HKS.out.ans
   clear hw0
   have HSX := Lib.hid (show ∀ wx, PutXL w A n c ia mx ic ⟨tn, tt, ta, tl, tc, tr, tx, tw⟩ wx → PutXL w A n c ia mx ic ⟨tn, tt, ta, tl, tc, tr, tx, tw⟩ wx ∧ wx.cell? ⟨w.heap.size, 0, none⟩ = some (.slice A n c) ∧ wx.cell? ⟨w.heap.size, 1, none⟩ = some (.slice ia mx ic) ∧ wx.cell? ⟨w.heap.size + 1, 0, none⟩ = some (.string tn) ∧ wx.cell? ⟨w.heap.size + 1, 1, none⟩ = some (.string tt) from fun wx h => ⟨h, cell_of_row _ _ 0 _ _ _ h.sch, cell_of_row _ _ 1 _ _ _ h.sch, cell_of_row _ _ 0 _ _ _ h.tab, cell_of_row _ _ 1 _ _ _ h.tab⟩)
   refine wp_region_held_drew (S := (fun wx => PutXL w A n c ia mx ic ⟨tn, tt, ta, tl, tc, tr, tx, tw⟩ wx ∧ wx.cell? ⟨w.heap.size, 0, none⟩ = some (.slice A n c) ∧ wx.cell? ⟨w.heap.size, 1, none⟩ = some (.slice ia mx ic) ∧ wx.cell? ⟨w.heap.size + 1, 0, none⟩ = some (.string tn) ∧ wx.cell? ⟨w.heap.size + 1, 1, none⟩ = some (.string tt))) (by kernel_rfl) (HSX.out _ HKS.out) (fun hHeld => ?_)
   (try dsimp only at hHeld)
   refine wpAnyH_take (i := 0) (v := ?_) (List.getElem?_toArray.trans rfl) (by kernel_rfl) (by kernel_rfl) (by kernel_rfl) (fun _ _ _ h => h) (Or.inl ⟨by rfl, ?_⟩) hHeld ?_
   rotate_left
   · intro wx hSw
     (try dsimp only at hSw)
     obtain ⟨_, e0, e1, e2, e3⟩ := hSw
     go_simp
     (try with_reducible rfl)
   (try simp only [Act.put, List.setIfInBounds_toArray, List.set_cons_zero, List.set_cons_succ])
   refine wpAnyH_take (i := 1) (v := ?_) (List.getElem?_toArray.trans rfl) (by kernel_rfl) (by kernel_rfl) (by kernel_rfl) (fun _ _ _ h => h) (Or.inl ⟨by rfl, ?_⟩) hHeld ?_
   rotate_left
   · intro wx hSw
     (try dsimp only at hSw)
     obtain ⟨_, e0, e1, e2, e3⟩ := hSw
     go_simp
     (try with_reducible rfl)
   (try simp only [Act.put, List.setIfInBounds_toArray, List.set_cons_zero, List.set_cons_succ])
   refine wpAnyH_take (i := 2) (v := ?_) (List.getElem?_toArray.trans rfl) (by kernel_rfl) (by kernel_rfl) (by kernel_rfl) (fun _ _ _ h => h) (Or.inl ⟨by rfl, ?_⟩) hHeld ?_
   rotate_left
   · intro wx hSw
     (try dsimp only at hSw)
     obtain ⟨_, e0, e1, e2, e3⟩ := hSw
     go_simp
     (try with_reducible rfl)
   (try simp only [Act.put, List.setIfInBounds_toArray, List.set_cons_zero, List.set_cons_succ])
   refine wpAnyH_take (i := 4) (v := ?_) (List.getElem?_toArray.trans rfl) (by kernel_rfl) (by kernel_rfl) (by kernel_rfl) (fun _ _ _ h => h) (Or.inl ⟨by rfl, ?_⟩) hHeld ?_
   rotate_left
   · intro wx hSw
     (try dsimp only at hSw)
     obtain ⟨_, e0, e1, e2, e3⟩ := hSw
     go_simp
     (try with_reducible rfl)
   (try simp only [Act.put, List.setIfInBounds_toArray, List.set_cons_zero, List.set_cons_succ])
   refine wpAnyH_take (i := 5) (v := ?_) (List.getElem?_toArray.trans rfl) (by kernel_rfl) (by kernel_rfl) (by kernel_rfl) (fun _ _ _ h => h) (Or.inl ⟨by rfl, ?_⟩) hHeld ?_
   rotate_left
   · intro wx hSw
     (try dsimp only at hSw)
     obtain ⟨_, e0, e1, e2, e3⟩ := hSw
     go_simp
     (try with_reducible rfl)
   (try simp only [Act.put, List.setIfInBounds_toArray, List.set_cons_zero, List.set_cons_succ])
   refine wpAnyH_take (i := 6) (v := ?_) (List.getElem?_toArray.trans rfl) (by kernel_rfl) (by kernel_rfl) (by kernel_rfl) (fun _ _ _ h => h) (Or.inl ⟨by rfl, ?_⟩) hHeld ?_
   rotate_left
   · intro wx hSw
     (try dsimp only at hSw)
     obtain ⟨_, e0, e1, e2, e3⟩ := hSw
     go_simp
     (try with_reducible rfl)
   (try simp only [Act.put, List.setIfInBounds_toArray, List.set_cons_zero, List.set_cons_succ])
   refine wpAnyH_ready (rs := [3]) (by kernel_rfl) (by simp) ?_
   refine AllReadyH.cons (List.getElem?_toArray.trans rfl) (fun K hK => ?_) AllReadyH.nil
   go_simp
   go_at_call 15
   with_reducible refine Calls.mono (HTI.out _ hHeld.1.below) ?_
   rintro e w2 ⟨rfl, hB5⟩
   have hHeld2 := HSX.out _ (hHeld.1.keep hB5)
   refine hK.out _ _ hHeld2 (fun _ => ?_)
   clear hK K hHeld hB5
   have hHeld := hHeld2
   clear hHeld2
   (try simp only [Act.put, List.setIfInBounds_toArray, List.set_cons_zero, List.set_cons_succ])
   refine wpAnyH_ready (rs := [7]) (by kernel_rfl) (by simp) ?_
   refine AllReadyH.cons (List.getElem?_toArray.trans rfl) (fun K hK => ?_) AllReadyH.nil
   go_simp
   go_at_call 13
   with_reducible refine Calls.mono (HTT.out _ hHeld.1.below) ?_
   rintro e w3 ⟨rfl, hB5⟩
   have hHeld2 := HSX.out _ (hHeld.1.keep hB5)
   refine hK.out _ _ hHeld2 (fun _ => ?_)
   clear hK K hHeld hB5
   have hHeld := hHeld2
   clear hHeld2
   (try simp only [Act.put, List.setIfInBounds_toArray, List.set_cons_zero, List.set_cons_succ])
   refine wpAnyH_take (i := 8) (v := ?_) (List.getElem?_toArray.trans rfl) (by kernel_rfl) (by kernel_rfl) (by kernel_rfl) (fun _ _ _ h => h) (Or.inl ⟨by rfl, ?_⟩) hHeld ?_
   rotate_left
   · intro wx hSw
     (try dsimp only at hSw)
     obtain ⟨_, e0, e1, e2, e3⟩ := hSw
     go_simp
     (try with_reducible rfl)
   (try simp only [Act.put, List.setIfInBounds_toArray, List.set_cons_zero, List.set_cons_succ])
   refine wpAnyH_take (i := 9) (v := ?_) (List.getElem?_toArray.trans rfl) (by kernel_rfl) (by kernel_rfl) (by kernel_rfl) (fun _ _ _ h => h) (Or.inl ⟨by rfl, ?_⟩) hHeld ?_
   rotate_left
   · intro wx hSw
     (try dsimp only at hSw)
     obtain ⟨_, e0, e1, e2, e3⟩ := hSw
     go_simp
     (try with_reducible rfl)
   (try simp only [Act.put, List.setIfInBounds_toArray, List.set_cons_zero, List.set_cons_succ])
   refine wpAnyH_done (by kernel_rfl) ?_ _
   have HK3 := Lib.hid hHeld.1
   clear hHeld HSX
   all_goals
     clear k0 k1 k2 k3 k4 k5 s0 s1 a0 a1 f0 f1
     have k0 := cell_of_row _ _ 0 _ _ _ HK3.out.tab
     have k1 := cell_of_row _ _ 1 _ _ _ HK3.out.tab
     have k2 := cell_of_row _ _ 2 _ _ _ HK3.out.tab
     have k3 := cell_of_row _ _ 3 _ _ _ HK3.out.tab
     have k4 := cell_of_row _ _ 4 _ _ _ HK3.out.tab
     have k5 := cell_of_row _ _ 5 _ _ _ HK3.out.tab
     have s0 := cell_of_row _ _ 0 _ _ _ HK3.out.sch
     have s1 := cell_of_row _ _ 1 _ _ _ HK3.out.sch
     have a0 := cell_of_row _ _ 0 _ _ _ HK3.out.ans
     have a1 := cell_of_row _ _ 1 _ _ _ HK3.out.ans
     have f0 := frozen_of_row _ _ 0 _ _ HK3.out.ans
     have f1 := frozen_of_row _ _ 1 _ _ HK3.out.ans
     clear HKS HST
     go_wp2_with (first
       | (go_at_call 47; (with_reducible refine (HNA.out _ HK3.out.below).mono ?_); rintro e w5 ⟨rfl, hB5⟩
          have HK5 := Lib.hid (HK3.out.keep hB5)
          clear k0 k1 k2 k3 k4 k5 s0 s1 a0 a1 f0 f1
          have k0 := cell_of_row _ _ 0 _ _ _ HK5.out.tab
          have k1 := cell_of_row _ _ 1 _ _ _ HK5.out.tab
          have k2 := cell_of_row _ _ 2 _ _ _ HK5.out.tab
          have k3 := cell_of_row _ _ 3 _ _ _ HK5.out.tab
          have k4 := cell_of_row _ _ 4 _ _ _ HK5.out.tab
          have k5 := cell_of_row _ _ 5 _ _ _ HK5.out.tab
          have s0 := cell_of_row _ _ 0 _ _ _ HK5.out.sch
          have s1 := cell_of_row _ _ 1 _ _ _ HK5.out.sch
          have a0 := cell_of_row _ _ 0 _ _ _ HK5.out.ans
          have a1 := cell_of_row _ _ 1 _ _ _ HK5.out.ans
          have f0 := frozen_of_row _ _ 0 _ _ HK5.out.ans
          have f1 := frozen_of_row _ _ 1 _ _ HK5.out.ans
          clear hB5)
       | fail)
     exact bodyPost_ret (v := .tuple #[.agg #[.slice none 0 0, .slice none 0 0], .int .i64 7]) (by simp [results, Tryz.results31, go_sem, a0, a1]) rfl ⟨rfl, HK5.out.done _ _⟩
set_option maxRecDepth 100000 in
set_option maxHeartbeats 16000000 in
theorem rputx_none (m : Int) (gt : Nat → Nat) (ht : ∀ j, j < 23 → finD (Ieee.double.read (gt j)) = true) (A : Option Addr) (c : Nat) (ts : List (Tab × List Col)) (ia : Option Addr) (ic : Nat) (xs : List (Idx × List Int)) (t : Idx) (w : World) (hG : Glob m gt w) (hD : DeepAt w A ts) (hX : DeepIx w ia xs) (hbad : idxBad t = false) (hof : findN PT.name (ts.map ptOf) t.table = none) :
   Calls Tryz.prog 31 #[.agg #[.slice A ts.length c, .slice ia xs.length ic], .agg #[.string t.name, .string t.table, .slice t.pa t.pn t.pc, .int .i64 t.state, .int .i64 t.root, .int .i64 t.cursor]] w (ErrP 130 w) := by
 have HST := Lib.hid (PutXL.start w A ts.length c ia xs.length ic t)
 have HTI := Lib.hid (show ∀ W, Below w.heap.size w W → Calls Tryz.prog 15 #[.agg #[.slice A ts.length c, .slice ia xs.length ic], .string t.name] W (RetV (.int .i64 (placeI (findN PX.name (xs.map pxOf) t.name))) W) from fun W hB => rindex_at ia ic xs A ts.length c t.name W (DeepIx.keep hB hX))
 have HTT := Lib.hid (show ∀ W, Below w.heap.size w W → Calls Tryz.prog 13 #[.agg #[.slice A ts.length c, .slice ia xs.length ic], .string t.table] W (RetV (.int .i64 (placeI (findN PT.name (ts.map ptOf) t.table))) W) from fun W hB => rtable_at A c ts ia xs.length ic t.table W (DeepAt.keep hB hD))
 obtain ⟨hname, r1, r2, r3, r4, r5⟩ := idxBad_no hbad
 have HNA := Lib.hid (show ∀ W, Below w.heap.size w W → Calls Tryz.prog 47 #[.string t.name] W (RetV (.bool true) W) from fun W hB => by have h := rname_any m gt ht t.name W (hG.keep hB); rwa [hname] at h)
 rw [hof] at HTT
 simp only [placeI] at HTT
 have r6 : ((-1 : Int) < 0) = True := eq_true (by omega)
 generalize placeI (findN PX.name (xs.map pxOf) t.name) = ri at HTI
 obtain ⟨n, hnn⟩ : ∃ n, n = ts.length := ⟨_, rfl⟩
 obtain ⟨mx, hmm⟩ : ∃ mx, mx = xs.length := ⟨_, rfl⟩
 have HN := Lib.hid hnn
 have HM := Lib.hid hmm
 rw [← hnn] at HST HTI HTT 
 rw [← hmm] at HST HTI HTT 
 obtain ⟨tn, tt, ta, tl, tc, tr, tx, tw⟩ := t
 dsimp only at HST HTI HTT HNA r1 r2 r3 r4 r5 ⊢
 rw [← hnn, ← hmm]
 clear hG hD hX ht hnn hmm hbad hname hof
 go_enter Tryz.func31, Tryz.ntmps31
 go_wp2_with fail
 obtain ⟨w0, hw0⟩ : ∃ w0, w0 = (((w.alloc (.cells #[.slice A n c, .slice ia mx ic] 36)).alloc (.cells #[.string tn, .string tt, .slice ta tl tc, .int .i64 tr, .int .i64 tx, .int .i64 tw] 28)).alloc (.cells #[.slice none 0 0, .slice none 0 0] 36)) := ⟨_, rfl⟩
 rw [← hw0] at HST ⊢
 have HKS := Lib.hid (show PutXL w A n c ia mx ic ⟨tn, tt, ta, tl, tc, tr, tx, tw⟩ w0.drew from HST.out.keep ((Below.refl _ _).drew))
 have k0 := cell_of_row w0.drew _ 0 _ _ _ HKS.out.tab
 have k1 := cell_of_row w0.drew _ 1 _ _ _ HKS.out.tab
 have k2 := cell_of_row w0.drew _ 2 _ _ _ HKS.out.tab
 have k3 := cell_of_row w0.drew _ 3 _ _ _ HKS.out.tab
 have k4 := cell_of_row w0.drew _ 4 _ _ _ HKS.out.tab
 have k5 := cell_of_row w0.drew _ 5 _ _ _ HKS.out.tab
 have s0 := cell_of_row w0.drew _ 0 _ _ _ HKS.out.sch
 have s1 := cell_of_row w0.drew _ 1 _ _ _ HKS.out.sch
 have a0 := cell_of_row w0.drew _ 0 _ _ _ HKS.out.ans
 have a1 := cell_of_row w0.drew _ 1 _ _ _ HKS.out.ans
 have f0 := frozen_of_row w0.drew _ 0 _ _ HKS.out.ans
 have f1 := frozen_of_row w0.drew _ 1 _ _ HKS.out.ans
 clear hw0
 have HSX := Lib.hid (show ∀ wx, PutXL w A n c ia mx ic ⟨tn, tt, ta, tl, tc, tr, tx, tw⟩ wx → PutXL w A n c ia mx ic ⟨tn, tt, ta, tl, tc, tr, tx, tw⟩ wx ∧ wx.cell? ⟨w.heap.size, 0, none⟩ = some (.slice A n c) ∧ wx.cell? ⟨w.heap.size, 1, none⟩ = some (.slice ia mx ic) ∧ wx.cell? ⟨w.heap.size + 1, 0, none⟩ = some (.string tn) ∧ wx.cell? ⟨w.heap.size + 1, 1, none⟩ = some (.string tt) from fun wx h => ⟨h, cell_of_row _ _ 0 _ _ _ h.sch, cell_of_row _ _ 1 _ _ _ h.sch, cell_of_row _ _ 0 _ _ _ h.tab, cell_of_row _ _ 1 _ _ _ h.tab⟩)
 refine wp_region_held_drew (S := (fun wx => PutXL w A n c ia mx ic ⟨tn, tt, ta, tl, tc, tr, tx, tw⟩ wx ∧ wx.cell? ⟨w.heap.size, 0, none⟩ = some (.slice A n c) ∧ wx.cell? ⟨w.heap.size, 1, none⟩ = some (.slice ia mx ic) ∧ wx.cell? ⟨w.heap.size + 1, 0, none⟩ = some (.string tn) ∧ wx.cell? ⟨w.heap.size + 1, 1, none⟩ = some (.string tt))) (by kernel_rfl) (HSX.out _ HKS.out) (fun hHeld => ?_)
 (try dsimp only at hHeld)
 refine wpAnyH_take (i := 0) (v := ?_) (List.getElem?_toArray.trans rfl) (by kernel_rfl) (by kernel_rfl) (by kernel_rfl) (fun _ _ _ h => h) (Or.inl ⟨by rfl, ?_⟩) hHeld ?_
 rotate_left
 · intro wx hSw
   (try dsimp only at hSw)
   obtain ⟨_, e0, e1, e2, e3⟩ := hSw
   go_simp
   (try with_reducible rfl)
 (try simp only [Act.put, List.setIfInBounds_toArray, List.set_cons_zero, List.set_cons_succ])
 refine wpAnyH_take (i := 1) (v := ?_) (List.getElem?_toArray.trans rfl) (by kernel_rfl) (by kernel_rfl) (by kernel_rfl) (fun _ _ _ h => h) (Or.inl ⟨by rfl, ?_⟩) hHeld ?_
 rotate_left
 · intro wx hSw
   (try dsimp only at hSw)
   obtain ⟨_, e0, e1, e2, e3⟩ := hSw
   go_simp
   (try with_reducible rfl)
 (try simp only [Act.put, List.setIfInBounds_toArray, List.set_cons_zero, List.set_cons_succ])
 refine wpAnyH_take (i := 2) (v := ?_) (List.getElem?_toArray.trans rfl) (by kernel_rfl) (by kernel_rfl) (by kernel_rfl) (fun _ _ _ h => h) (Or.inl ⟨by rfl, ?_⟩) hHeld ?_
 rotate_left
 · intro wx hSw
   (try dsimp only at hSw)
   obtain ⟨_, e0, e1, e2, e3⟩ := hSw
   go_simp
   (try with_reducible rfl)
 (try simp only [Act.put, List.setIfInBounds_toArray, List.set_cons_zero, List.set_cons_succ])
 refine wpAnyH_take (i := 4) (v := ?_) (List.getElem?_toArray.trans rfl) (by kernel_rfl) (by kernel_rfl) (by kernel_rfl) (fun _ _ _ h => h) (Or.inl ⟨by rfl, ?_⟩) hHeld ?_
 rotate_left
 · intro wx hSw
   (try dsimp only at hSw)
   obtain ⟨_, e0, e1, e2, e3⟩ := hSw
   go_simp
   (try with_reducible rfl)
 (try simp only [Act.put, List.setIfInBounds_toArray, List.set_cons_zero, List.set_cons_succ])
 refine wpAnyH_take (i := 5) (v := ?_) (List.getElem?_toArray.trans rfl) (by kernel_rfl) (by kernel_rfl) (by kernel_rfl) (fun _ _ _ h => h) (Or.inl ⟨by rfl, ?_⟩) hHeld ?_
 rotate_left
 · intro wx hSw
   (try dsimp only at hSw)
   obtain ⟨_, e0, e1, e2, e3⟩ := hSw
   go_simp
   (try with_reducible rfl)
 (try simp only [Act.put, List.setIfInBounds_toArray, List.set_cons_zero, List.set_cons_succ])
 refine wpAnyH_take (i := 6) (v := ?_) (List.getElem?_toArray.trans rfl) (by kernel_rfl) (by kernel_rfl) (by kernel_rfl) (fun _ _ _ h => h) (Or.inl ⟨by rfl, ?_⟩) hHeld ?_
 rotate_left
 · intro wx hSw
   (try dsimp only at hSw)
   obtain ⟨_, e0, e1, e2, e3⟩ := hSw
   go_simp
   (try with_reducible rfl)
 (try simp only [Act.put, List.setIfInBounds_toArray, List.set_cons_zero, List.set_cons_succ])
 refine wpAnyH_ready (rs := [3]) (by kernel_rfl) (by simp) ?_
 refine AllReadyH.cons (List.getElem?_toArray.trans rfl) (fun K hK => ?_) AllReadyH.nil
 go_simp
 go_at_call 15
 with_reducible refine Calls.mono (HTI.out _ hHeld.1.below) ?_
 rintro e w2 ⟨rfl, hB5⟩
 have hHeld2 := HSX.out _ (hHeld.1.keep hB5)
 refine hK.out _ _ hHeld2 (fun _ => ?_)
 clear hK K hHeld hB5
 have hHeld := hHeld2
 clear hHeld2
 (try simp only [Act.put, List.setIfInBounds_toArray, List.set_cons_zero, List.set_cons_succ])
 refine wpAnyH_ready (rs := [7]) (by kernel_rfl) (by simp) ?_
 refine AllReadyH.cons (List.getElem?_toArray.trans rfl) (fun K hK => ?_) AllReadyH.nil
 go_simp
 go_at_call 13
 with_reducible refine Calls.mono (HTT.out _ hHeld.1.below) ?_
 rintro e w3 ⟨rfl, hB5⟩
 have hHeld2 := HSX.out _ (hHeld.1.keep hB5)
 refine hK.out _ _ hHeld2 (fun _ => ?_)
 clear hK K hHeld hB5
 have hHeld := hHeld2
 clear hHeld2
 (try simp only [Act.put, List.setIfInBounds_toArray, List.set_cons_zero, List.set_cons_succ])
 refine wpAnyH_take (i := 8) (v := ?_) (List.getElem?_toArray.trans rfl) (by kernel_rfl) (by kernel_rfl) (by kernel_rfl) (fun _ _ _ h => h) (Or.inl ⟨by rfl, ?_⟩) hHeld ?_
 rotate_left
 · intro wx hSw
   (try dsimp only at hSw)
   obtain ⟨_, e0, e1, e2, e3⟩ := hSw
   go_simp
   (try with_reducible rfl)
 (try simp only [Act.put, List.setIfInBounds_toArray, List.set_cons_zero, List.set_cons_succ])
 refine wpAnyH_take (i := 9) (v := ?_) (List.getElem?_toArray.trans rfl) (by kernel_rfl) (by kernel_rfl) (by kernel_rfl) (fun _ _ _ h => h) (Or.inl ⟨by rfl, ?_⟩) hHeld ?_
 rotate_left
 · intro wx hSw
   (try dsimp only at hSw)
   obtain ⟨_, e0, e1, e2, e3⟩ := hSw
   go_simp
   (try with_reducible rfl)
 (try simp only [Act.put, List.setIfInBounds_toArray, List.set_cons_zero, List.set_cons_succ])
 refine wpAnyH_done (by kernel_rfl) ?_ _
 have HK3 := Lib.hid hHeld.1
 clear hHeld HSX
 all_goals
   clear k0 k1 k2 k3 k4 k5 s0 s1 a0 a1 f0 f1
   have k0 := cell_of_row _ _ 0 _ _ _ HK3.out.tab
   have k1 := cell_of_row _ _ 1 _ _ _ HK3.out.tab
   have k2 := cell_of_row _ _ 2 _ _ _ HK3.out.tab
   have k3 := cell_of_row _ _ 3 _ _ _ HK3.out.tab
   have k4 := cell_of_row _ _ 4 _ _ _ HK3.out.tab
   have k5 := cell_of_row _ _ 5 _ _ _ HK3.out.tab
   have s0 := cell_of_row _ _ 0 _ _ _ HK3.out.sch
   have s1 := cell_of_row _ _ 1 _ _ _ HK3.out.sch
   have a0 := cell_of_row _ _ 0 _ _ _ HK3.out.ans
   have a1 := cell_of_row _ _ 1 _ _ _ HK3.out.ans
   have f0 := frozen_of_row _ _ 0 _ _ HK3.out.ans
   have f1 := frozen_of_row _ _ 1 _ _ HK3.out.ans
   clear HKS HST
   go_wp2_with (first
     | (go_at_call 47; (with_reducible refine (HNA.out _ HK3.out.below).mono ?_); rintro e w5 ⟨rfl, hB5⟩
        have HK5 := Lib.hid (HK3.out.keep hB5)
        clear k0 k1 k2 k3 k4 k5 s0 s1 a0 a1 f0 f1
        have k0 := cell_of_row _ _ 0 _ _ _ HK5.out.tab
        have k1 := cell_of_row _ _ 1 _ _ _ HK5.out.tab
        have k2 := cell_of_row _ _ 2 _ _ _ HK5.out.tab
        have k3 := cell_of_row _ _ 3 _ _ _ HK5.out.tab
        have k4 := cell_of_row _ _ 4 _ _ _ HK5.out.tab
        have k5 := cell_of_row _ _ 5 _ _ _ HK5.out.tab
        have s0 := cell_of_row _ _ 0 _ _ _ HK5.out.sch
        have s1 := cell_of_row _ _ 1 _ _ _ HK5.out.sch
        have a0 := cell_of_row _ _ 0 _ _ _ HK5.out.ans
        have a1 := cell_of_row _ _ 1 _ _ _ HK5.out.ans
        have f0 := frozen_of_row _ _ 0 _ _ HK5.out.ans
        have f1 := frozen_of_row _ _ 1 _ _ HK5.out.ans
        clear hB5)
     | fail)
   exact bodyPost_ret (v := .tuple #[.agg #[.slice none 0 0, .slice none 0 0], .int .i64 130]) (by simp [results, Tryz.results31, go_sem, a0, a1]) rfl ⟨rfl, HK5.out.done _ _⟩
set_option maxRecDepth 100000 in
set_option maxHeartbeats 16000000 in
theorem rputx_many (m : Int) (gt : Nat → Nat) (ht : ∀ j, j < 23 → finD (Ieee.double.read (gt j)) = true) (A : Option Addr) (c : Nat) (ts : List (Tab × List Col)) (ia : Option Addr) (ic : Nat) (xs : List (Idx × List Int)) (t : Idx) (w : World) (hG : Glob m gt w) (hD : DeepAt w A ts) (hX : DeepIx w ia xs) (hbad : idxBad t = false) (kt : Nat) (hof : findN PT.name (ts.map ptOf) t.table = some kt) (hat : findN PX.name (xs.map pxOf) t.name = none) (hm : 12 ≤ xs.length) :
   Calls Tryz.prog 31 #[.agg #[.slice A ts.length c, .slice ia xs.length ic], .agg #[.string t.name, .string t.table, .slice t.pa t.pn t.pc, .int .i64 t.state, .int .i64 t.root, .int .i64 t.cursor]] w (ErrP 11 w) := by
 have HST := Lib.hid (PutXL.start w A ts.length c ia xs.length ic t)
 have HTI := Lib.hid (show ∀ W, Below w.heap.size w W → Calls Tryz.prog 15 #[.agg #[.slice A ts.length c, .slice ia xs.length ic], .string t.name] W (RetV (.int .i64 (placeI (findN PX.name (xs.map pxOf) t.name))) W) from fun W hB => rindex_at ia ic xs A ts.length c t.name W (DeepIx.keep hB hX))
 have HTT := Lib.hid (show ∀ W, Below w.heap.size w W → Calls Tryz.prog 13 #[.agg #[.slice A ts.length c, .slice ia xs.length ic], .string t.table] W (RetV (.int .i64 (placeI (findN PT.name (ts.map ptOf) t.table))) W) from fun W hB => rtable_at A c ts ia xs.length ic t.table W (DeepAt.keep hB hD))
 obtain ⟨hname, r1, r2, r3, r4, r5⟩ := idxBad_no hbad
 have HNA := Lib.hid (show ∀ W, Below w.heap.size w W → Calls Tryz.prog 47 #[.string t.name] W (RetV (.bool true) W) from fun W hB => by have h := rname_any m gt ht t.name W (hG.keep hB); rwa [hname] at h)
 rw [hof] at HTT
 simp only [placeI] at HTT
 have r6 : ((kt : Int) < 0) = False := eq_false (by omega)
 rw [hat] at HTI
 simp only [placeI] at HTI
 have r7 : ((12 : Int) ≤ (xs.length : Int)) = True := eq_true (by omega)
 obtain ⟨n, hnn⟩ : ∃ n, n = ts.length := ⟨_, rfl⟩
 obtain ⟨mx, hmm⟩ : ∃ mx, mx = xs.length := ⟨_, rfl⟩
 have HN := Lib.hid hnn
 have HM := Lib.hid hmm
 rw [← hnn] at HST HTI HTT 
 rw [← hmm] at HST HTI HTT r7
 obtain ⟨tn, tt, ta, tl, tc, tr, tx, tw⟩ := t
 dsimp only at HST HTI HTT HNA r1 r2 r3 r4 r5 ⊢
 rw [← hnn, ← hmm]
 clear hG hD hX ht hnn hmm hbad hname hof hat hm
 go_enter Tryz.func31, Tryz.ntmps31
 go_wp2_with fail
 obtain ⟨w0, hw0⟩ : ∃ w0, w0 = (((w.alloc (.cells #[.slice A n c, .slice ia mx ic] 36)).alloc (.cells #[.string tn, .string tt, .slice ta tl tc, .int .i64 tr, .int .i64 tx, .int .i64 tw] 28)).alloc (.cells #[.slice none 0 0, .slice none 0 0] 36)) := ⟨_, rfl⟩
 rw [← hw0] at HST ⊢
 have HKS := Lib.hid (show PutXL w A n c ia mx ic ⟨tn, tt, ta, tl, tc, tr, tx, tw⟩ w0.drew from HST.out.keep ((Below.refl _ _).drew))
 have k0 := cell_of_row w0.drew _ 0 _ _ _ HKS.out.tab
 have k1 := cell_of_row w0.drew _ 1 _ _ _ HKS.out.tab
 have k2 := cell_of_row w0.drew _ 2 _ _ _ HKS.out.tab
 have k3 := cell_of_row w0.drew _ 3 _ _ _ HKS.out.tab
 have k4 := cell_of_row w0.drew _ 4 _ _ _ HKS.out.tab
 have k5 := cell_of_row w0.drew _ 5 _ _ _ HKS.out.tab
 have s0 := cell_of_row w0.drew _ 0 _ _ _ HKS.out.sch
 have s1 := cell_of_row w0.drew _ 1 _ _ _ HKS.out.sch
 have a0 := cell_of_row w0.drew _ 0 _ _ _ HKS.out.ans
 have a1 := cell_of_row w0.drew _ 1 _ _ _ HKS.out.ans
 have f0 := frozen_of_row w0.drew _ 0 _ _ HKS.out.ans
 have f1 := frozen_of_row w0.drew _ 1 _ _ HKS.out.ans
 clear hw0
 have HSX := Lib.hid (show ∀ wx, PutXL w A n c ia mx ic ⟨tn, tt, ta, tl, tc, tr, tx, tw⟩ wx → PutXL w A n c ia mx ic ⟨tn, tt, ta, tl, tc, tr, tx, tw⟩ wx ∧ wx.cell? ⟨w.heap.size, 0, none⟩ = some (.slice A n c) ∧ wx.cell? ⟨w.heap.size, 1, none⟩ = some (.slice ia mx ic) ∧ wx.cell? ⟨w.heap.size + 1, 0, none⟩ = some (.string tn) ∧ wx.cell? ⟨w.heap.size + 1, 1, none⟩ = some (.string tt) from fun wx h => ⟨h, cell_of_row _ _ 0 _ _ _ h.sch, cell_of_row _ _ 1 _ _ _ h.sch, cell_of_row _ _ 0 _ _ _ h.tab, cell_of_row _ _ 1 _ _ _ h.tab⟩)
 refine wp_region_held_drew (S := (fun wx => PutXL w A n c ia mx ic ⟨tn, tt, ta, tl, tc, tr, tx, tw⟩ wx ∧ wx.cell? ⟨w.heap.size, 0, none⟩ = some (.slice A n c) ∧ wx.cell? ⟨w.heap.size, 1, none⟩ = some (.slice ia mx ic) ∧ wx.cell? ⟨w.heap.size + 1, 0, none⟩ = some (.string tn) ∧ wx.cell? ⟨w.heap.size + 1, 1, none⟩ = some (.string tt))) (by kernel_rfl) (HSX.out _ HKS.out) (fun hHeld => ?_)
 (try dsimp only at hHeld)
 refine wpAnyH_take (i := 0) (v := ?_) (List.getElem?_toArray.trans rfl) (by kernel_rfl) (by kernel_rfl) (by kernel_rfl) (fun _ _ _ h => h) (Or.inl ⟨by rfl, ?_⟩) hHeld ?_
 rotate_left
 · intro wx hSw
   (try dsimp only at hSw)
   obtain ⟨_, e0, e1, e2, e3⟩ := hSw
   go_simp
   (try with_reducible rfl)
 (try simp only [Act.put, List.setIfInBounds_toArray, List.set_cons_zero, List.set_cons_succ])
 refine wpAnyH_take (i := 1) (v := ?_) (List.getElem?_toArray.trans rfl) (by kernel_rfl) (by kernel_rfl) (by kernel_rfl) (fun _ _ _ h => h) (Or.inl ⟨by rfl, ?_⟩) hHeld ?_
 rotate_left
 · intro wx hSw
   (try dsimp only at hSw)
   obtain ⟨_, e0, e1, e2, e3⟩ := hSw
   go_simp
   (try with_reducible rfl)
 (try simp only [Act.put, List.setIfInBounds_toArray, List.set_cons_zero, List.set_cons_succ])
 refine wpAnyH_take (i := 2) (v := ?_) (List.getElem?_toArray.trans rfl) (by kernel_rfl) (by kernel_rfl) (by kernel_rfl) (fun _ _ _ h => h) (Or.inl ⟨by rfl, ?_⟩) hHeld ?_
 rotate_left
 · intro wx hSw
   (try dsimp only at hSw)
   obtain ⟨_, e0, e1, e2, e3⟩ := hSw
   go_simp
   (try with_reducible rfl)
 (try simp only [Act.put, List.setIfInBounds_toArray, List.set_cons_zero, List.set_cons_succ])
 refine wpAnyH_take (i := 4) (v := ?_) (List.getElem?_toArray.trans rfl) (by kernel_rfl) (by kernel_rfl) (by kernel_rfl) (fun _ _ _ h => h) (Or.inl ⟨by rfl, ?_⟩) hHeld ?_
 rotate_left
 · intro wx hSw
   (try dsimp only at hSw)
   obtain ⟨_, e0, e1, e2, e3⟩ := hSw
   go_simp
   (try with_reducible rfl)
 (try simp only [Act.put, List.setIfInBounds_toArray, List.set_cons_zero, List.set_cons_succ])
 refine wpAnyH_take (i := 5) (v := ?_) (List.getElem?_toArray.trans rfl) (by kernel_rfl) (by kernel_rfl) (by kernel_rfl) (fun _ _ _ h => h) (Or.inl ⟨by rfl, ?_⟩) hHeld ?_
 rotate_left
 · intro wx hSw
   (try dsimp only at hSw)
   obtain ⟨_, e0, e1, e2, e3⟩ := hSw
   go_simp
   (try with_reducible rfl)
 (try simp only [Act.put, List.setIfInBounds_toArray, List.set_cons_zero, List.set_cons_succ])
 refine wpAnyH_take (i := 6) (v := ?_) (List.getElem?_toArray.trans rfl) (by kernel_rfl) (by kernel_rfl) (by kernel_rfl) (fun _ _ _ h => h) (Or.inl ⟨by rfl, ?_⟩) hHeld ?_
 rotate_left
 · intro wx hSw
   (try dsimp only at hSw)
   obtain ⟨_, e0, e1, e2, e3⟩ := hSw
   go_simp
   (try with_reducible rfl)
 (try simp only [Act.put, List.setIfInBounds_toArray, List.set_cons_zero, List.set_cons_succ])
 refine wpAnyH_ready (rs := [3]) (by kernel_rfl) (by simp) ?_
 refine AllReadyH.cons (List.getElem?_toArray.trans rfl) (fun K hK => ?_) AllReadyH.nil
 go_simp
 go_at_call 15
 with_reducible refine Calls.mono (HTI.out _ hHeld.1.below) ?_
 rintro e w2 ⟨rfl, hB5⟩
 have hHeld2 := HSX.out _ (hHeld.1.keep hB5)
 refine hK.out _ _ hHeld2 (fun _ => ?_)
 clear hK K hHeld hB5
 have hHeld := hHeld2
 clear hHeld2
 (try simp only [Act.put, List.setIfInBounds_toArray, List.set_cons_zero, List.set_cons_succ])
 refine wpAnyH_ready (rs := [7]) (by kernel_rfl) (by simp) ?_
 refine AllReadyH.cons (List.getElem?_toArray.trans rfl) (fun K hK => ?_) AllReadyH.nil
 go_simp
 go_at_call 13
 with_reducible refine Calls.mono (HTT.out _ hHeld.1.below) ?_
 rintro e w3 ⟨rfl, hB5⟩
 have hHeld2 := HSX.out _ (hHeld.1.keep hB5)
 refine hK.out _ _ hHeld2 (fun _ => ?_)
 clear hK K hHeld hB5
 have hHeld := hHeld2
 clear hHeld2
 (try simp only [Act.put, List.setIfInBounds_toArray, List.set_cons_zero, List.set_cons_succ])
 refine wpAnyH_take (i := 8) (v := ?_) (List.getElem?_toArray.trans rfl) (by kernel_rfl) (by kernel_rfl) (by kernel_rfl) (fun _ _ _ h => h) (Or.inl ⟨by rfl, ?_⟩) hHeld ?_
 rotate_left
 · intro wx hSw
   (try dsimp only at hSw)
   obtain ⟨_, e0, e1, e2, e3⟩ := hSw
   go_simp
   (try with_reducible rfl)
 (try simp only [Act.put, List.setIfInBounds_toArray, List.set_cons_zero, List.set_cons_succ])
 refine wpAnyH_take (i := 9) (v := ?_) (List.getElem?_toArray.trans rfl) (by kernel_rfl) (by kernel_rfl) (by kernel_rfl) (fun _ _ _ h => h) (Or.inl ⟨by rfl, ?_⟩) hHeld ?_
 rotate_left
 · intro wx hSw
   (try dsimp only at hSw)
   obtain ⟨_, e0, e1, e2, e3⟩ := hSw
   go_simp
   (try with_reducible rfl)
 (try simp only [Act.put, List.setIfInBounds_toArray, List.set_cons_zero, List.set_cons_succ])
 refine wpAnyH_done (by kernel_rfl) ?_ _
 have HK3 := Lib.hid hHeld.1
 clear hHeld HSX
 all_goals
   clear k0 k1 k2 k3 k4 k5 s0 s1 a0 a1 f0 f1
   have k0 := cell_of_row _ _ 0 _ _ _ HK3.out.tab
   have k1 := cell_of_row _ _ 1 _ _ _ HK3.out.tab
   have k2 := cell_of_row _ _ 2 _ _ _ HK3.out.tab
   have k3 := cell_of_row _ _ 3 _ _ _ HK3.out.tab
   have k4 := cell_of_row _ _ 4 _ _ _ HK3.out.tab
   have k5 := cell_of_row _ _ 5 _ _ _ HK3.out.tab
   have s0 := cell_of_row _ _ 0 _ _ _ HK3.out.sch
   have s1 := cell_of_row _ _ 1 _ _ _ HK3.out.sch
   have a0 := cell_of_row _ _ 0 _ _ _ HK3.out.ans
   have a1 := cell_of_row _ _ 1 _ _ _ HK3.out.ans
   have f0 := frozen_of_row _ _ 0 _ _ HK3.out.ans
   have f1 := frozen_of_row _ _ 1 _ _ HK3.out.ans
   clear HKS HST
   go_wp2_with (first
     | (go_at_call 47; (with_reducible refine (HNA.out _ HK3.out.below).mono ?_); rintro e w5 ⟨rfl, hB5⟩
        have HK5 := Lib.hid (HK3.out.keep hB5)
        clear k0 k1 k2 k3 k4 k5 s0 s1 a0 a1 f0 f1
        have k0 := cell_of_row _ _ 0 _ _ _ HK5.out.tab
        have k1 := cell_of_row _ _ 1 _ _ _ HK5.out.tab
        have k2 := cell_of_row _ _ 2 _ _ _ HK5.out.tab
        have k3 := cell_of_row _ _ 3 _ _ _ HK5.out.tab
        have k4 := cell_of_row _ _ 4 _ _ _ HK5.out.tab
        have k5 := cell_of_row _ _ 5 _ _ _ HK5.out.tab
        have s0 := cell_of_row _ _ 0 _ _ _ HK5.out.sch
        have s1 := cell_of_row _ _ 1 _ _ _ HK5.out.sch
        have a0 := cell_of_row _ _ 0 _ _ _ HK5.out.ans
        have a1 := cell_of_row _ _ 1 _ _ _ HK5.out.ans
        have f0 := frozen_of_row _ _ 0 _ _ HK5.out.ans
        have f1 := frozen_of_row _ _ 1 _ _ HK5.out.ans
        clear hB5)
     | fail)
   exact bodyPost_ret (v := .tuple #[.agg #[.slice none 0 0, .slice none 0 0], .int .i64 11]) (by simp [results, Tryz.results31, go_sem, a0, a1]) rfl ⟨rfl, HK5.out.done _ _⟩
set_option maxRecDepth 100000 in
set_option maxHeartbeats 16000000 in
theorem rputx_places (m : Int) (gt : Nat → Nat) (ht : ∀ j, j < 23 → finD (Ieee.double.read (gt j)) = true) (A : Option Addr) (c : Nat) (ts : List (Tab × List Col)) (ia : Option Addr) (ic : Nat) (xs : List (Idx × List Int)) (t : Idx) (w : World) (hG : Glob m gt w) (hD : DeepAt w A ts) (hX : DeepIx w ia xs) (hbad : idxBad t = false) (kt : Nat) (t0 : Tab) (l0 : List Col) (hof : findN PT.name (ts.map ptOf) t.table = some kt) (ht0 : ts[kt]? = some (t0, l0)) (cl : List Int) (hcol : IntsAt w t.pa cl) (hcn : t.pn = cl.length) (hcc : cl.length ≤ t.pc) (hat : (∃ k, findN PX.name (xs.map pxOf) t.name = some k) ∨ (findN PX.name (xs.map pxOf) t.name = none ∧ xs.length < 12)) (hcr : placesR l0.length cl ≠ 0) :
   Calls Tryz.prog 31 #[.agg #[.slice A ts.length c, .slice ia xs.length ic], .agg #[.string t.name, .string t.table, .slice t.pa t.pn t.pc, .int .i64 t.state, .int .i64 t.root, .int .i64 t.cursor]] w (ErrP (placesR l0.length cl) w) := by
 rcases hat with ⟨k, hat⟩ | ⟨hat, hm12⟩
 all_goals
   have HST := Lib.hid (PutXL.start w A ts.length c ia xs.length ic t)
   have HTI := Lib.hid (show ∀ W, Below w.heap.size w W → Calls Tryz.prog 15 #[.agg #[.slice A ts.length c, .slice ia xs.length ic], .string t.name] W (RetV (.int .i64 (placeI (findN PX.name (xs.map pxOf) t.name))) W) from fun W hB => rindex_at ia ic xs A ts.length c t.name W (DeepIx.keep hB hX))
   have HTT := Lib.hid (show ∀ W, Below w.heap.size w W → Calls Tryz.prog 13 #[.agg #[.slice A ts.length c, .slice ia xs.length ic], .string t.table] W (RetV (.int .i64 (placeI (findN PT.name (ts.map ptOf) t.table))) W) from fun W hB => rtable_at A c ts ia xs.length ic t.table W (DeepAt.keep hB hD))
   obtain ⟨hname, r1, r2, r3, r4, r5⟩ := idxBad_no hbad
   have HNA := Lib.hid (show ∀ W, Below w.heap.size w W → Calls Tryz.prog 47 #[.string t.name] W (RetV (.bool true) W) from fun W hB => by have h := rname_any m gt ht t.name W (hG.keep hB); rwa [hname] at h)
   rw [hof] at HTT
   simp only [placeI] at HTT
   have r6 : ((kt : Int) < 0) = False := eq_false (by omega)
   rw [hat] at HTI
   simp only [placeI] at HTI
   first
     | (have r7 : ((12 : Int) ≤ (xs.length : Int)) = False := eq_false (by omega))
     | (have r7 : ((k : Int) < 0) = False := eq_false (by omega))
   have hkt : kt < ts.length := (List.getElem?_eq_some_iff.1 ht0).1
   have HKT := Lib.hid hkt
   obtain ⟨b, off, rfl, HTC⟩ : ∃ b off, A = some ⟨b, off, none⟩ ∧ Hid (∀ W, Below w.heap.size w W → ∀ (i : Nat) (u : Value), (tabL t0)[i]? = some u → W.cell? ⟨b, off + kt * 5 + i, none⟩ = some u) := by
     rcases hD.1.2 with h0 | ⟨b, off, h1, h2, h3⟩
     · exfalso
       rw [List.map_eq_nil_iff, List.map_eq_nil_iff] at h0
       subst h0
       simp at hkt
     · refine ⟨b, off, h1, fun W hB i u hi => (hB.cell (p := ⟨b, off + kt * 5 + i, none⟩) h2).trans ((h3 kt (tabL t0) ?_).2 i u hi)⟩
       rw [List.getElem?_map, List.getElem?_map, ht0]
       rfl
   have hcn0 : t0.cn = l0.length := (hD.2 (t0, l0) (List.mem_of_getElem? ht0)).2.1
   have HPL := Lib.hid (show ∀ W, Below w.heap.size w W → Calls Tryz.prog 23 #[.agg #[.string t0.name, .slice t0.ca t0.cn t0.cc, .int .i64 t0.root, .int .i64 t0.next, .int .i64 t0.rows], .slice t.pa t.pn t.pc] W (RetV (.int .i64 (placesR l0.length cl)) W) from fun W hB => by
     have h := rplaces_any t0.name t0.ca t0.cn t0.cc t0.root t0.next t0.rows t.pa t.pc cl W (IntsAt.keep hB hcol)
     rw [show (t0.cn : Int) = (l0.length : Int) by rw [hcn0], ← hcn] at h
     exact h)
   have r9 : ((kt : Int) < (ts.length : Int)) = True := eq_true (by omega)
   have r10 : (placesR l0.length cl == 0) = false := beq_eq_false_iff_ne.2 hcr
   generalize placesR l0.length cl = ce at HPL r10 ⊢
   obtain ⟨n, hnn⟩ : ∃ n, n = ts.length := ⟨_, rfl⟩
   obtain ⟨mx, hmm⟩ : ∃ mx, mx = xs.length := ⟨_, rfl⟩
   have HN := Lib.hid hnn
   have HM := Lib.hid hmm
   rw [← hnn] at HST HTI HTT r9 HKT
   rw [← hmm] at HST HTI HTT 
   try rw [← hmm] at r7
   obtain ⟨tn, tt, ta, tl, tc, tr, tx, tw⟩ := t
   dsimp only at HST HTI HTT HNA r1 r2 r3 r4 r5 HPL ⊢
   rw [← hnn, ← hmm]
   clear hG hD hX ht hnn hmm hbad hname hof hat hcr hcol hcn hcc ht0 hcn0 hkt
   obtain ⟨t0n, t0a, t0l, t0c, t0r, t0x, t0w⟩ := t0
   dsimp only at HPL HTC
   go_enter Tryz.func31, Tryz.ntmps31
   go_wp2_with fail
   obtain ⟨w0, hw0⟩ : ∃ w0, w0 = (((w.alloc (.cells #[.slice (some ⟨b, off, none⟩) n c, .slice ia mx ic] 36)).alloc (.cells #[.string tn, .string tt, .slice ta tl tc, .int .i64 tr, .int .i64 tx, .int .i64 tw] 28)).alloc (.cells #[.slice none 0 0, .slice none 0 0] 36)) := ⟨_, rfl⟩
   rw [← hw0] at HST ⊢
   have HKS := Lib.hid (show PutXL w (some ⟨b, off, none⟩) n c ia mx ic ⟨tn, tt, ta, tl, tc, tr, tx, tw⟩ w0.drew from HST.out.keep ((Below.refl _ _).drew))
   have k0 := cell_of_row w0.drew _ 0 _ _ _ HKS.out.tab
   have k1 := cell_of_row w0.drew _ 1 _ _ _ HKS.out.tab
   have k2 := cell_of_row w0.drew _ 2 _ _ _ HKS.out.tab
   have k3 := cell_of_row w0.drew _ 3 _ _ _ HKS.out.tab
   have k4 := cell_of_row w0.drew _ 4 _ _ _ HKS.out.tab
   have k5 := cell_of_row w0.drew _ 5 _ _ _ HKS.out.tab
   have s0 := cell_of_row w0.drew _ 0 _ _ _ HKS.out.sch
   have s1 := cell_of_row w0.drew _ 1 _ _ _ HKS.out.sch
   have a0 := cell_of_row w0.drew _ 0 _ _ _ HKS.out.ans
   have a1 := cell_of_row w0.drew _ 1 _ _ _ HKS.out.ans
   have f0 := frozen_of_row w0.drew _ 0 _ _ HKS.out.ans
   have f1 := frozen_of_row w0.drew _ 1 _ _ HKS.out.ans
   clear hw0
   have HSX := Lib.hid (show ∀ wx, PutXL w (some ⟨b, off, none⟩) n c ia mx ic ⟨tn, tt, ta, tl, tc, tr, tx, tw⟩ wx → PutXL w (some ⟨b, off, none⟩) n c ia mx ic ⟨tn, tt, ta, tl, tc, tr, tx, tw⟩ wx ∧ wx.cell? ⟨w.heap.size, 0, none⟩ = some (.slice (some ⟨b, off, none⟩) n c) ∧ wx.cell? ⟨w.heap.size, 1, none⟩ = some (.slice ia mx ic) ∧ wx.cell? ⟨w.heap.size + 1, 0, none⟩ = some (.string tn) ∧ wx.cell? ⟨w.heap.size + 1, 1, none⟩ = some (.string tt) from fun wx h => ⟨h, cell_of_row _ _ 0 _ _ _ h.sch, cell_of_row _ _ 1 _ _ _ h.sch, cell_of_row _ _ 0 _ _ _ h.tab, cell_of_row _ _ 1 _ _ _ h.tab⟩)
   refine wp_region_held_drew (S := (fun wx => PutXL w (some ⟨b, off, none⟩) n c ia mx ic ⟨tn, tt, ta, tl, tc, tr, tx, tw⟩ wx ∧ wx.cell? ⟨w.heap.size, 0, none⟩ = some (.slice (some ⟨b, off, none⟩) n c) ∧ wx.cell? ⟨w.heap.size, 1, none⟩ = some (.slice ia mx ic) ∧ wx.cell? ⟨w.heap.size + 1, 0, none⟩ = some (.string tn) ∧ wx.cell? ⟨w.heap.size + 1, 1, none⟩ = some (.string tt))) (by kernel_rfl) (HSX.out _ HKS.out) (fun hHeld => ?_)
   (try dsimp only at hHeld)
   refine wpAnyH_take (i := 0) (v := ?_) (List.getElem?_toArray.trans rfl) (by kernel_rfl) (by kernel_rfl) (by kernel_rfl) (fun _ _ _ h => h) (Or.inl ⟨by rfl, ?_⟩) hHeld ?_
   rotate_left
   · intro wx hSw
     (try dsimp only at hSw)
     obtain ⟨_, e0, e1, e2, e3⟩ := hSw
     go_simp
     (try with_reducible rfl)
   (try simp only [Act.put, List.setIfInBounds_toArray, List.set_cons_zero, List.set_cons_succ])
   refine wpAnyH_take (i := 1) (v := ?_) (List.getElem?_toArray.trans rfl) (by kernel_rfl) (by kernel_rfl) (by kernel_rfl) (fun _ _ _ h => h) (Or.inl ⟨by rfl, ?_⟩) hHeld ?_
   rotate_left
   · intro wx hSw
     (try dsimp only at hSw)
     obtain ⟨_, e0, e1, e2, e3⟩ := hSw
     go_simp
     (try with_reducible rfl)
   (try simp only [Act.put, List.setIfInBounds_toArray, List.set_cons_zero, List.set_cons_succ])
   refine wpAnyH_take (i := 2) (v := ?_) (List.getElem?_toArray.trans rfl) (by kernel_rfl) (by kernel_rfl) (by kernel_rfl) (fun _ _ _ h => h) (Or.inl ⟨by rfl, ?_⟩) hHeld ?_
   rotate_left
   · intro wx hSw
     (try dsimp only at hSw)
     obtain ⟨_, e0, e1, e2, e3⟩ := hSw
     go_simp
     (try with_reducible rfl)
   (try simp only [Act.put, List.setIfInBounds_toArray, List.set_cons_zero, List.set_cons_succ])
   refine wpAnyH_take (i := 4) (v := ?_) (List.getElem?_toArray.trans rfl) (by kernel_rfl) (by kernel_rfl) (by kernel_rfl) (fun _ _ _ h => h) (Or.inl ⟨by rfl, ?_⟩) hHeld ?_
   rotate_left
   · intro wx hSw
     (try dsimp only at hSw)
     obtain ⟨_, e0, e1, e2, e3⟩ := hSw
     go_simp
     (try with_reducible rfl)
   (try simp only [Act.put, List.setIfInBounds_toArray, List.set_cons_zero, List.set_cons_succ])
   refine wpAnyH_take (i := 5) (v := ?_) (List.getElem?_toArray.trans rfl) (by kernel_rfl) (by kernel_rfl) (by kernel_rfl) (fun _ _ _ h => h) (Or.inl ⟨by rfl, ?_⟩) hHeld ?_
   rotate_left
   · intro wx hSw
     (try dsimp only at hSw)
     obtain ⟨_, e0, e1, e2, e3⟩ := hSw
     go_simp
     (try with_reducible rfl)
   (try simp only [Act.put, List.setIfInBounds_toArray, List.set_cons_zero, List.set_cons_succ])
   refine wpAnyH_take (i := 6) (v := ?_) (List.getElem?_toArray.trans rfl) (by kernel_rfl) (by kernel_rfl) (by kernel_rfl) (fun _ _ _ h => h) (Or.inl ⟨by rfl, ?_⟩) hHeld ?_
   rotate_left
   · intro wx hSw
     (try dsimp only at hSw)
     obtain ⟨_, e0, e1, e2, e3⟩ := hSw
     go_simp
     (try with_reducible rfl)
   (try simp only [Act.put, List.setIfInBounds_toArray, List.set_cons_zero, List.set_cons_succ])
   refine wpAnyH_ready (rs := [3]) (by kernel_rfl) (by simp) ?_
   refine AllReadyH.cons (List.getElem?_toArray.trans rfl) (fun K hK => ?_) AllReadyH.nil
   go_simp
   go_at_call 15
   with_reducible refine Calls.mono (HTI.out _ hHeld.1.below) ?_
   rintro e w2 ⟨rfl, hB5⟩
   have hHeld2 := HSX.out _ (hHeld.1.keep hB5)
   refine hK.out _ _ hHeld2 (fun _ => ?_)
   clear hK K hHeld hB5
   have hHeld := hHeld2
   clear hHeld2
   (try simp only [Act.put, List.setIfInBounds_toArray, List.set_cons_zero, List.set_cons_succ])
   refine wpAnyH_ready (rs := [7]) (by kernel_rfl) (by simp) ?_
   refine AllReadyH.cons (List.getElem?_toArray.trans rfl) (fun K hK => ?_) AllReadyH.nil
   go_simp
   go_at_call 13
   with_reducible refine Calls.mono (HTT.out _ hHeld.1.below) ?_
   rintro e w3 ⟨rfl, hB5⟩
   have hHeld2 := HSX.out _ (hHeld.1.keep hB5)
   refine hK.out _ _ hHeld2 (fun _ => ?_)
   clear hK K hHeld hB5
   have hHeld := hHeld2
   clear hHeld2
   (try simp only [Act.put, List.setIfInBounds_toArray, List.set_cons_zero, List.set_cons_succ])
   refine wpAnyH_take (i := 8) (v := ?_) (List.getElem?_toArray.trans rfl) (by kernel_rfl) (by kernel_rfl) (by kernel_rfl) (fun _ _ _ h => h) (Or.inl ⟨by rfl, ?_⟩) hHeld ?_
   rotate_left
   · intro wx hSw
     (try dsimp only at hSw)
     obtain ⟨_, e0, e1, e2, e3⟩ := hSw
     go_simp
     (try with_reducible rfl)
   (try simp only [Act.put, List.setIfInBounds_toArray, List.set_cons_zero, List.set_cons_succ])
   refine wpAnyH_take (i := 9) (v := ?_) (List.getElem?_toArray.trans rfl) (by kernel_rfl) (by kernel_rfl) (by kernel_rfl) (fun _ _ _ h => h) (Or.inl ⟨by rfl, ?_⟩) hHeld ?_
   rotate_left
   · intro wx hSw
     (try dsimp only at hSw)
     obtain ⟨_, e0, e1, e2, e3⟩ := hSw
     go_simp
     (try with_reducible rfl)
   (try simp only [Act.put, List.setIfInBounds_toArray, List.set_cons_zero, List.set_cons_succ])
   refine wpAnyH_done (by kernel_rfl) ?_ _
   have HK3 := Lib.hid hHeld.1
   clear hHeld HSX
   all_goals
     clear k0 k1 k2 k3 k4 k5 s0 s1 a0 a1 f0 f1
     have k0 := cell_of_row _ _ 0 _ _ _ HK3.out.tab
     have k1 := cell_of_row _ _ 1 _ _ _ HK3.out.tab
     have k2 := cell_of_row _ _ 2 _ _ _ HK3.out.tab
     have k3 := cell_of_row _ _ 3 _ _ _ HK3.out.tab
     have k4 := cell_of_row _ _ 4 _ _ _ HK3.out.tab
     have k5 := cell_of_row _ _ 5 _ _ _ HK3.out.tab
     have s0 := cell_of_row _ _ 0 _ _ _ HK3.out.sch
     have s1 := cell_of_row _ _ 1 _ _ _ HK3.out.sch
     have a0 := cell_of_row _ _ 0 _ _ _ HK3.out.ans
     have a1 := cell_of_row _ _ 1 _ _ _ HK3.out.ans
     have f0 := frozen_of_row _ _ 0 _ _ HK3.out.ans
     have f1 := frozen_of_row _ _ 1 _ _ HK3.out.ans
     clear HKS HST
     go_wp2_with (first
       | (go_at_call 47; (with_reducible refine (HNA.out _ HK3.out.below).mono ?_); rintro e w5 ⟨rfl, hB5⟩
          have HK5 := Lib.hid (HK3.out.keep hB5)
          clear k0 k1 k2 k3 k4 k5 s0 s1 a0 a1 f0 f1
          have k0 := cell_of_row _ _ 0 _ _ _ HK5.out.tab
          have k1 := cell_of_row _ _ 1 _ _ _ HK5.out.tab
          have k2 := cell_of_row _ _ 2 _ _ _ HK5.out.tab
          have k3 := cell_of_row _ _ 3 _ _ _ HK5.out.tab
          have k4 := cell_of_row _ _ 4 _ _ _ HK5.out.tab
          have k5 := cell_of_row _ _ 5 _ _ _ HK5.out.tab
          have s0 := cell_of_row _ _ 0 _ _ _ HK5.out.sch
          have s1 := cell_of_row _ _ 1 _ _ _ HK5.out.sch
          have a0 := cell_of_row _ _ 0 _ _ _ HK5.out.ans
          have a1 := cell_of_row _ _ 1 _ _ _ HK5.out.ans
          have f0 := frozen_of_row _ _ 0 _ _ HK5.out.ans
          have f1 := frozen_of_row _ _ 1 _ _ HK5.out.ans
          clear hB5)
       | fail)
     have HK5d := Lib.hid (show PutXL w (some ⟨b, off, none⟩) n c ia mx ic ⟨tn, tt, ta, tl, tc, tr, tx, tw⟩ w5.drew from HK5.out.keep ((Below.refl _ _).drew))
     clear k0 k1 k2 k3 k4 k5 s0 s1 a0 a1 f0 f1
     have k0 := cell_of_row w5.drew _ 0 _ _ _ HK5d.out.tab
     have k1 := cell_of_row w5.drew _ 1 _ _ _ HK5d.out.tab
     have k2 := cell_of_row w5.drew _ 2 _ _ _ HK5d.out.tab
     have k3 := cell_of_row w5.drew _ 3 _ _ _ HK5d.out.tab
     have k4 := cell_of_row w5.drew _ 4 _ _ _ HK5d.out.tab
     have k5 := cell_of_row w5.drew _ 5 _ _ _ HK5d.out.tab
     have s0 := cell_of_row w5.drew _ 0 _ _ _ HK5d.out.sch
     have s1 := cell_of_row w5.drew _ 1 _ _ _ HK5d.out.sch
     have a0 := cell_of_row w5.drew _ 0 _ _ _ HK5d.out.ans
     have a1 := cell_of_row w5.drew _ 1 _ _ _ HK5d.out.ans
     have f0 := frozen_of_row w5.drew _ 0 _ _ HK5d.out.ans
     have f1 := frozen_of_row w5.drew _ 1 _ _ HK5d.out.ans
     have j0 : w5.drew.cell? ⟨b, off + kt * 5, none⟩ = some (.string t0n) := HTC.out _ HK5d.out.below 0 _ rfl
     have j1 : w5.drew.cell? ⟨b, off + kt * 5 + 1, none⟩ = some (.slice t0a t0l t0c) := HTC.out _ HK5d.out.below 1 _ rfl
     have j2 : w5.drew.cell? ⟨b, off + kt * 5 + 2, none⟩ = some (.int .i64 t0r) := HTC.out _ HK5d.out.below 2 _ rfl
     have j3 : w5.drew.cell? ⟨b, off + kt * 5 + 3, none⟩ = some (.int .i64 t0x) := HTC.out _ HK5d.out.below 3 _ rfl
     have j4 : w5.drew.cell? ⟨b, off + kt * 5 + 4, none⟩ = some (.int .i64 t0w) := HTC.out _ HK5d.out.below 4 _ rfl
     go_region_law (first
       | (go_simp; go_at_call 23; (with_reducible refine (HPL.out _ HK5d.out.below).mono ?_); rintro e w6 ⟨rfl, hB6⟩
          have HK6 := Lib.hid (HK5d.out.keep hB6)
          clear k0 k1 k2 k3 k4 k5 s0 s1 a0 a1 f0 f1
          have k0 := cell_of_row _ _ 0 _ _ _ HK6.out.tab
          have k1 := cell_of_row _ _ 1 _ _ _ HK6.out.tab
          have k2 := cell_of_row _ _ 2 _ _ _ HK6.out.tab
          have k3 := cell_of_row _ _ 3 _ _ _ HK6.out.tab
          have k4 := cell_of_row _ _ 4 _ _ _ HK6.out.tab
          have k5 := cell_of_row _ _ 5 _ _ _ HK6.out.tab
          have s0 := cell_of_row _ _ 0 _ _ _ HK6.out.sch
          have s1 := cell_of_row _ _ 1 _ _ _ HK6.out.sch
          have a0 := cell_of_row _ _ 0 _ _ _ HK6.out.ans
          have a1 := cell_of_row _ _ 1 _ _ _ HK6.out.ans
          have f0 := frozen_of_row _ _ 0 _ _ HK6.out.ans
          have f1 := frozen_of_row _ _ 1 _ _ HK6.out.ans
          clear hB6 j0 j1 j2 j3 j4)
       | fail)
     all_goals
       go_wp2_with fail
       exact bodyPost_ret (v := .tuple #[.agg #[.slice none 0 0, .slice none 0 0], .int .i64 ce]) (by simp [results, Tryz.results31, go_sem, a0, a1]) rfl ⟨rfl, HK6.out.done _ _⟩
end Go.Proofs.YtcgpflkaejbkhaaGreatDoor
