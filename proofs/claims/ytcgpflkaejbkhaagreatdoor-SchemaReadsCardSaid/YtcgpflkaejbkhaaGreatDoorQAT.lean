/- The walks of Put where it answers a schema: over any schema, a new table, or one in the place of its name. -/
import Derived.Test.YtcgpflkaejbkhaaGreatDoorQAO
import Derived.Deep.RegionLaw
import Derived.Deep.RegionHeld3
namespace Go.Proofs.YtcgpflkaejbkhaaGreatDoor
open Go.RowKit

theorem OwnTab.of_copy0 {w : World} {q base b : Nat} {v u : Value} {ts : List (Tab × List Col)} {xs : List (Idx × List Int)} {W w9 : World} {t y : Tab} {cl : List Col} (_h1 : Below W.heap.size W w9) (h2 : TabCopy W t cl y w9) (hcl : cl.length ≤ 1000) (hM : MidS w q base b v u ts xs W) (hb : b < W.heap.size) : OwnTab base b v u w9 (y, cl) := by
 obtain ⟨e1, e2, e3, e4, e5, e6, e7, e8, e9, e10⟩ := h2
 have hf := hM.far
 refine ⟨e7, e5, e6, e9, hcl, fun a ha => ?_⟩
 have h8 := e8 a ha
 refine ⟨by omega, by omega, h8.2, fun e => ?_, fun e => ?_⟩
 · have := (hM.own.tab.block e).2.1; omega
 · have := (hM.own.idx.block e).2.1; omega
theorem OwnTab.of_copy {w : World} {q base b : Nat} {v u : Value} {ts : List (Tab × List Col)} {xs : List (Idx × List Int)} {W w9 : World} {t y : Tab} {cl : List Col} {O9 : Obj} (h1 : Below W.heap.size W w9) (h2 : TabCopy W t cl y w9) (hcl : cl.length ≤ 1000) (hM : MidS w q base b v u ts xs W) (hb : b < W.heap.size) : OwnTab base b v u (w9.alloc O9) (y, cl) :=
 (OwnTab.of_copy0 h1 h2 hcl hM hb).grown (grown_of_below (below1 w9 O9) none) (fun k _ e => by cases e)
theorem RowT.set {W : World} {g k : Nat} {l : List Tab} (h : RowT W g l) (hk : k < l.length) (y : Tab) : RowT (setTab W g (k * 5) y) g (l.set k y) := by
 obtain ⟨rest, hr⟩ := h
 have e : l = l.take k ++ l[k] :: l.drop (k + 1) := by rw [← List.drop_eq_getElem_cons hk, List.take_append_drop]
 have e1 : (l.map tabL).flatten ++ rest = ((l.take k).map tabL).flatten ++ tabL l[k] ++ (((l.drop (k + 1)).map tabL).flatten ++ rest) := by
   conv => lhs; rw [e]
   rw [List.map_append, List.map_cons, List.flatten_append, List.flatten_cons]
   simp only [List.append_assoc]
 have e2 : l.set k y = l.take k ++ y :: l.drop (k + 1) := by
   rw [List.set_eq_take_append_cons_drop, if_pos hk]
 rw [e1] at hr
 have h2 := setTab_list y hr
 rw [flat_take l k (by omega)] at h2
 refine ⟨rest, ?_⟩
 rw [h2, e2]
 simp
set_option maxRecDepth 100000 in
set_option maxHeartbeats 16000000 in
theorem put_fresh (m : Int) (gt : Nat → Nat) (ht : ∀ j, j < 23 → finD (Ieee.double.read (gt j)) = true) (A : Option Addr) (c : Nat) (ts : List (Tab × List Col)) (ia : Option Addr) (ic : Nat) (xs : List (Idx × List Int)) (t : Tab) (cl : List Col) (w : World) (hG : Glob m gt w)
   (hD : DeepAt w A ts) (hX : DeepIx w ia xs) (hn : ts.length ≤ 7) (hnew : findN (fun p => p.1.name) ts t.name = none) (hm : xs.length ≤ 1000) (hl : ∀ p ∈ ts, p.2.length ≤ 1000) (hlx : ∀ p ∈ xs, p.2.length ≤ 1000) (hcol : ColsAt w t.ca cl) (hcn : t.cn = cl.length) (hcc : cl.length ≤ t.cc) (hnone : t.ca = none → t.cc = 0)
   (hbad : tabBad t = false) (hcr : colsR cl = 0) (hcl : cl.length ≤ 1000) :
   Calls Tryz.prog 27 #[.agg #[.slice A ts.length c, .slice ia xs.length ic], .agg #[.string t.name, .slice t.ca t.cn t.cc, .int .i64 t.root, .int .i64 t.next, .int .i64 t.rows]] w (OutP w 0 (sortG PT.name (ts.map ptOf ++ [ptOf (t, cl)])) (xs.map pxOf)) := by
 have HST := Lib.hid (PutL.start w A ts.length c ia xs.length ic t)
 have HG := Lib.hid hG
 have hfind : ∀ r : Int, FirstIs (nameAt (ts.map Prod.fst) t.name) (ts.map Prod.fst).length r → (∃ k : Nat, k < ts.length ∧ findN (fun p : Tab × List Col => p.1.name) ts t.name = some k ∧ r = k) ∨ (findN (fun p : Tab × List Col => p.1.name) ts t.name = none ∧ r = -1) := fun r hr => by
   rw [List.length_map] at hr
   exact first_find (P := nameAt (ts.map Prod.fst) t.name) (nm := fun p : Tab × List Col => p.1.name) (fun j y hj => by unfold nameAt; rw [List.getElem?_map, hj]; rfl) hr
 have HTA := Lib.hid (show ∀ W, Below w.heap.size w W → Calls Tryz.prog 12 #[.agg #[.slice A ts.length c, .slice ia xs.length ic], .string t.name] W (RetV (.int .i64 (-1)) W) from fun W hB => by
   have h := table_any A c (ts.map Prod.fst) ia xs.length ic t.name W (CellsAt.keep hB hD.1)
   rw [List.length_map] at h
   refine h.mono fun e w' ⟨r, h1, h2, h3⟩ => ?_
   rcases hfind r (by rw [List.length_map]; exact h2) with ⟨k, _, hk, _⟩ | ⟨_, rfl⟩
   · rw [hnew] at hk; cases hk
   · exact ⟨h1, h3⟩)
 have r5 : ((8 : Int) ≤ (ts.length : Int)) = False := eq_false (by omega)
 obtain ⟨hname, r1, r2, r3, r4⟩ := tabBad_no hbad
 have HNA := Lib.hid (show ∀ W, Below w.heap.size w W → Calls Tryz.prog 28 #[.string t.name] W (RetV (.bool true) W) from fun W hB => by
   have h := name_any m gt ht t.name W (hG.keep hB)
   rwa [hname] at h)
 have HCO := Lib.hid (show ∀ W, Below w.heap.size w W → Calls Tryz.prog 20 #[.slice t.ca t.cn t.cc] W (RetV (.int .i64 0) W) from fun W hB => by
   have h := columns_any m gt ht t.ca t.cc cl W (hG.keep hB) (CellsAt.keep hB hcol) hcc
   rw [hcr, ← hcn] at h
   exact h)
 have HCL := Lib.hid (show ∀ W, Below w.heap.size w W → Calls Tryz.prog 10 #[.agg #[.slice A ts.length c, .slice ia xs.length ic]] W (CloneO W ts xs) from fun W hB =>
   clones_own A c ts ia ic xs W (DeepAt.keep hB hD) (DeepIx.keep hB hX) (by omega) hm hl hlx)
 have HCT := Lib.hid (show ∀ W, Below w.heap.size w W → Calls Tryz.prog 36 #[.agg #[.string t.name, .slice t.ca t.cn t.cc, .int .i64 t.root, .int .i64 t.next, .int .i64 t.rows]] W fun e w' => ∃ (yn : ByteArray) (ya : Option Addr) (yl yc : Nat) (yr yx yw : Int), e = .returned (.agg #[.string yn, .slice ya yl yc, .int .i64 yr, .int .i64 yx, .int .i64 yw]) ∧ Below W.heap.size W w' ∧ TabCopy W t cl ⟨yn, ya, yl, yc, yr, yx, yw⟩ w' from fun W hW =>
   (clone_tab t cl W (CellsAt.keep hW hcol) hcn (fun h => by have h2 := hnone h; exact ⟨List.length_eq_zero_iff.1 (by omega), h2⟩) (by omega)).mono (fun e w' ⟨⟨yn, ya, yl, yc, yr, yx, yw⟩, h1, h2, h3⟩ => ⟨yn, ya, yl, yc, yr, yx, yw, h1, h2, h3⟩))
 have HSO := Lib.hid (show ∀ g cap n l W, n ≤ 19 → RowT W g l → l.length = n → n ≤ cap → Calls Tryz.prog 56 #[.slice (some ⟨g, 0, none⟩) n cap, .func (.func 57) #[] #[]] W (SortedP W g n (sortT l)) from fun g cap n l W => sort_any g cap n l W)
 have HCLL := Lib.hid hcl
 obtain ⟨T, hT⟩ : ∃ T, T = ts.map ptOf := ⟨_, rfl⟩
 obtain ⟨X, hXX⟩ : ∃ X, X = xs.map pxOf := ⟨_, rfl⟩
 have HT := Lib.hid hT
 have HXX := Lib.hid hXX
 rw [← hT, ← hXX]
 obtain ⟨n, hnn⟩ : ∃ n, n = ts.length := ⟨_, rfl⟩
 obtain ⟨mx, hmm⟩ : ∃ mx, mx = xs.length := ⟨_, rfl⟩
 have HN := Lib.hid hnn
 have HM := Lib.hid hmm
 rw [← hnn] at HST HTA HCL r5 hn
 rw [← hmm] at HST HTA HCL
 obtain ⟨tn, ta, tl, tc, tr, tx, tw⟩ := t
 dsimp only at HST HTA HNA HCO HCL HCT r1 r2 r3 r4 ⊢
 rw [← hnn, ← hmm]
 clear hG hD hX hl hlx hcol hcn hcc hnone hname hbad hcr hcl ht hnn hmm hT hXX hfind hnew
 go_enter Tryz.func27, Tryz.ntmps27
 go_wp2_with (first
   | (go_at_call 12; (with_reducible refine (HTA.out _ HST.out.below).mono ?_); rintro e w3 ⟨rfl, hB3⟩
      have HK3 := Lib.hid (HST.out.keep hB3)
      have k0 := cell_of_row _ _ 0 _ _ _ HK3.out.tab
      have k1 := cell_of_row _ _ 1 _ _ _ HK3.out.tab
      have k2 := cell_of_row _ _ 2 _ _ _ HK3.out.tab
      have k3 := cell_of_row _ _ 3 _ _ _ HK3.out.tab
      have k4 := cell_of_row _ _ 4 _ _ _ HK3.out.tab
      have s0 := cell_of_row _ _ 0 _ _ _ HK3.out.sch
      have s1 := cell_of_row _ _ 1 _ _ _ HK3.out.sch
      have a0 := cell_of_row _ _ 0 _ _ _ HK3.out.ans
      have a1 := cell_of_row _ _ 1 _ _ _ HK3.out.ans
      clear hB3)
   | (go_at_call 28; (with_reducible refine (HNA.out _ HK3.out.below).mono ?_); rintro e w5 ⟨rfl, hB5⟩
      have HK5 := Lib.hid (HK3.out.keep hB5)
      clear k0 k1 k2 k3 k4 s0 s1 a0 a1
      have k0 := cell_of_row _ _ 0 _ _ _ HK5.out.tab
      have k1 := cell_of_row _ _ 1 _ _ _ HK5.out.tab
      have k2 := cell_of_row _ _ 2 _ _ _ HK5.out.tab
      have k3 := cell_of_row _ _ 3 _ _ _ HK5.out.tab
      have k4 := cell_of_row _ _ 4 _ _ _ HK5.out.tab
      have s0 := cell_of_row _ _ 0 _ _ _ HK5.out.sch
      have s1 := cell_of_row _ _ 1 _ _ _ HK5.out.sch
      have a0 := cell_of_row _ _ 0 _ _ _ HK5.out.ans
      have a1 := cell_of_row _ _ 1 _ _ _ HK5.out.ans
      clear hB5)
   | (go_at_call 20; (with_reducible refine (HCO.out _ HK5.out.below).mono ?_); rintro e w6 ⟨rfl, hB6⟩
      have HK6 := Lib.hid (HK5.out.keep hB6)
      clear k0 k1 k2 k3 k4 s0 s1 a0 a1
      have k0 := cell_of_row _ _ 0 _ _ _ HK6.out.tab
      have k1 := cell_of_row _ _ 1 _ _ _ HK6.out.tab
      have k2 := cell_of_row _ _ 2 _ _ _ HK6.out.tab
      have k3 := cell_of_row _ _ 3 _ _ _ HK6.out.tab
      have k4 := cell_of_row _ _ 4 _ _ _ HK6.out.tab
      have s0 := cell_of_row _ _ 0 _ _ _ HK6.out.sch
      have s1 := cell_of_row _ _ 1 _ _ _ HK6.out.sch
      have a0 := cell_of_row _ _ 0 _ _ _ HK6.out.ans
      have a1 := cell_of_row _ _ 1 _ _ _ HK6.out.ans
      clear hB6)
   | (go_at_call 10; (with_reducible refine (HCL.out _ HK6.out.below).mono ?_); rintro e w7 ⟨va, ua, vc, uc, ts', xs', rfl, hB7, hO, hp1, hp2, hown, _, h63⟩
      have HK7 := Lib.hid (HK6.out.keep hB7)
      rw [← HN.out, ← HM.out] at hO
      rw [← HN.out] at hown
      have HOWN := Lib.hid hown
      have HO := Lib.hid hO
      have HS7 := Lib.hid hB7.size
      have HB3 := Lib.hid h63
      have HP1 := Lib.hid hp1
      have HP2 := Lib.hid hp2
      clear k0 k1 k2 k3 k4 s0 s1 a0 a1
      have k0 := cell_of_row _ _ 0 _ _ _ HK7.out.tab
      have k1 := cell_of_row _ _ 1 _ _ _ HK7.out.tab
      have k2 := cell_of_row _ _ 2 _ _ _ HK7.out.tab
      have k3 := cell_of_row _ _ 3 _ _ _ HK7.out.tab
      have k4 := cell_of_row _ _ 4 _ _ _ HK7.out.tab
      have s0 := cell_of_row _ _ 0 _ _ _ HK7.out.sch
      have s1 := cell_of_row _ _ 1 _ _ _ HK7.out.sch
      have a0 := cell_of_row _ _ 0 _ _ _ HK7.out.ans
      have a1 := cell_of_row _ _ 1 _ _ _ HK7.out.ans
      rw [← HN.out, ← HM.out]
      clear hB7 hown hO hp1 hp2 h63)
   | fail)
 obtain ⟨w8, hw8⟩ : ∃ w8, w8 = w7.alloc (.cells #[.slice va n vc, .slice ua mx uc] 36) := ⟨_, rfl⟩
 have HK8 := Lib.hid (show PutL w A n c ia mx ic ⟨tn, ta, tl, tc, tr, tx, tw⟩ w8 by rw [hw8]; exact HK7.out.keep (below1 w7 _))
 have hW0 : Below w8.heap.size w8 w8.drew := (Below.refl _ _).drew
 have HL1 := Lib.hid (show ts'.length = n ∧ xs'.length = mx by
   have h1 := congrArg List.length HP1.out
   have h2 := congrArg List.length HP2.out
   rw [List.length_map, List.length_map] at h1 h2
   exact ⟨h1.trans HN.out.symm, h2.trans HM.out.symm⟩)
 have HMID := Lib.hid (show MidS w (w.heap.size + 1 + 1) (w6.heap.size + 3) w7.heap.size (.slice va n vc) (.slice ua mx uc) ts' xs' w8.drew from by
   rw [hw8]
   have h6 := heap_lt HK6.out.ans
   have h7 := HS7.out
   have h9 := heap_lt HK7.out.ans
   have hb0 := HO.out w7.heap.size (Nat.le_refl _)
   refine ⟨HK7.out.below.trans (((below1 w7 _).drew).mono HK7.out.below.size), ?_, ?_, hb0.keep ((below1 w7 _).drew), by omega, by omega, ?_⟩
   · exact ((below1 w7 _).block _ h9).trans HK7.out.ans
   · exact heap_alloc_new w7 _
   · exact HB3.out)
 have HY := Lib.hid (show w8.drew.heap.size = w7.heap.size + 1 by rw [hw8]; exact World.size_alloc _ _)
 have o0 : w8.drew.cell? ⟨w7.heap.size, 0, none⟩ = some (.slice va n vc) := by rw [hw8]; exact cell_of_row _ _ 0 _ _ _ (heap_alloc_new w7 _)
 have j0 : w8.drew.cell? ⟨w.heap.size + 1, 0, none⟩ = some (.string tn) := cell_of_row w8.drew _ 0 _ _ _ HK8.out.tab
 have j1 : w8.drew.cell? ⟨w.heap.size + 1, 1, none⟩ = some (.slice ta tl tc) := cell_of_row w8.drew _ 1 _ _ _ HK8.out.tab
 have j2 : w8.drew.cell? ⟨w.heap.size + 1, 2, none⟩ = some (.int .i64 tr) := cell_of_row w8.drew _ 2 _ _ _ HK8.out.tab
 have j3 : w8.drew.cell? ⟨w.heap.size + 1, 3, none⟩ = some (.int .i64 tx) := cell_of_row w8.drew _ 3 _ _ _ HK8.out.tab
 have j4 : w8.drew.cell? ⟨w.heap.size + 1, 4, none⟩ = some (.int .i64 tw) := cell_of_row w8.drew _ 4 _ _ _ HK8.out.tab
 have HX := Lib.hid (show ∀ (w9 : World) (O : Obj), Below w8.drew.heap.size w8.drew w9 → (w9.alloc O).ownsRow (w6.heap.size + 3) 25 5 (.slice va n vc) n ((ts'.map Prod.fst).map tabL).flatten from fun w9 O hB9 => by
   have h8 : Below w7.heap.size w7 w8.drew := by rw [hw8]; exact (below1 w7 _).drew
   have h9 := h8.trans (hB9.mono h8.size)
   exact own_kept HOWN.out (h9.trans ((below1 w9 O).mono h9.size)) (Nat.le_refl _))
 have HZ := Lib.hid (show ∀ (w9 w10 : World) (yn : ByteArray) (ya : Option Addr) (yl yc : Nat) (yr yx yw : Int) (g cap : Nat) (O9 : Obj), Below w8.drew.heap.size w8.drew w9 → TabCopy w8.drew ⟨tn, ta, tl, tc, tr, tx, tw⟩ cl ⟨yn, ya, yl, yc, yr, yx, yw⟩ w9 → w10.ownsRow (w6.heap.size + 3) 25 5 (.slice (some ⟨g, 0, none⟩) (n + 1) cap) (n + 1) (((ts'.map Prod.fst).map tabL).flatten ++ tabL ⟨yn, ya, yl, yc, yr, yx, yw⟩) → (w9.alloc O9).grownBy w10 (Value.slice va n vc).ownBlock → ((Value.slice (some ⟨g, 0, none⟩) (n + 1) cap).ownBlock = (Value.slice va n vc).ownBlock ∨ (Value.slice (some ⟨g, 0, none⟩) (n + 1) cap).ownBlock = some (w9.alloc O9).heap.size) → MidS w (w.heap.size + 1 + 1) (w6.heap.size + 3) w7.heap.size (.slice (some ⟨g, 0, none⟩) (n + 1) cap) (.slice ua mx uc) (ts' ++ [(⟨yn, ya, yl, yc, yr, yx, yw⟩, cl)]) xs' (w10.setCell ⟨w7.heap.size, 0, none⟩ (.slice (some ⟨g, 0, none⟩) (n + 1) cap)) ∧ w10.heap[w7.heap.size]? = some (.cells #[.slice va n vc, .slice ua mx uc] 36) from fun w9 w10 yn ya yl yc yr yx yw g cap O9 h1 h2 h3 h4 h5 => by
   have hM9 := HMID.out.keep h1
   have hMA := hM9.keep (below1 w9 O9)
   have hnew := OwnTab.of_copy (O9 := O9) h1 h2 HCLL.out HMID.out (by rw [HY.out]; exact Nat.lt_succ_self _)
   refine hMA.retab h4 h5 ?_ (fun p hp => ?_)
   · rw [List.length_append, HL1.out.1, List.map_append, List.map_append, List.flatten_append]
     have h3' := RowsAt.of_own h3
     simpa using h3'
   · rcases List.mem_append.1 hp with hp | hp
     · exact hMA.own.cols p hp
     · rw [List.mem_singleton.1 hp]; exact hnew)
 rw [← hw8]
 clear hw8 k0 k1 k2 k3 k4 s0 s1 a0 a1
 go_region_law (first
   | (go_simp; go_at_call 36; (with_reducible refine (HCT.out _ (HK8.out.below.trans (hW0.mono HK8.out.below.size))).mono ?_); rintro e w9 ⟨yn, ya, yl, yc, yr, yx, yw, rfl, hB9, hP⟩
      have HB9 := Lib.hid hB9
      have HP := Lib.hid hP
      have o9 : w9.cell? ⟨w7.heap.size, 0, none⟩ = some (.slice va n vc) := cell_kept o0 hB9
      have o9b : ∀ O, (w9.alloc O).cell? ⟨w7.heap.size, 0, none⟩ = some (.slice va n vc) := fun O => cell_kept o9 (below1 w9 O)
      clear hB9 hP)
   | (refine step_tab _ (by rfl) (.tmp 68) (.tmp 71) (by rfl) (w6.heap.size + 3) (.slice va n vc) n ((ts'.map Prod.fst).map tabL).flatten (by rfl) (HX.out _ _ HB9.out) w9.heap.size 1 ⟨yn, ya, yl, yc, yr, yx, yw⟩ (by rfl) (heap_alloc_new w9 _) (by omega) (by have := HB9.out.size; have := HY.out; have := HB3.out; simp at *; omega) ?_
      intro v10 w10 hown hgr hat
      obtain ⟨g, cap, rfl⟩ := own_slice hown
      have HMM := Lib.hid (HZ.out _ _ _ _ _ _ _ _ _ _ _ _ HB9.out HP.out hown hgr hat)
      have z6 := cell_of_row _ _ 0 _ _ _ HMM.out.2
      have g6 := frozen_of_row _ _ 0 _ _ HMM.out.2
      clear hown hgr hat)
   | fail)
 all_goals
   have HRW := Lib.hid (show RowT _ g ((ts' ++ [((⟨yn, ya, yl, yc, yr, yx, yw⟩ : Tab), cl)]).map Prod.fst) ∧ ((ts' ++ [((⟨yn, ya, yl, yc, yr, yx, yw⟩ : Tab), cl)]).map Prod.fst).length = n + 1 ∧ n + 1 ≤ cap from by
     have h0 := HMM.out.1.own.tab
     have hlen : (ts' ++ [((⟨yn, ya, yl, yc, yr, yx, yw⟩ : Tab), cl)]).length = n + 1 := by rw [List.length_append, HL1.out.1]; rfl
     rw [hlen] at h0
     exact ⟨h0.row_t.1, by rw [List.length_map]; exact hlen, h0.row_t.2.1⟩)
   go_wp2_with (first
     | (go_at_call 56; (with_reducible refine (HSO.out g cap _ _ _ (by omega) HRW.out.1 HRW.out.2.1 HRW.out.2.2).mono ?_); rintro e w11 ⟨rfl, hS⟩
        have HM2 := Lib.hid (HMM.out.1.sortT (by rw [← HRW.out.2.1, List.length_map]) hS)
        have m0 := cell_of_row _ _ 0 _ _ _ HM2.out.out
        have m1 := cell_of_row _ _ 1 _ _ _ HM2.out.out
        have q0 := cell_of_row _ _ 0 _ _ _ HM2.out.ans
        have q1 := cell_of_row _ _ 1 _ _ _ HM2.out.ans
        have f0 := frozen_of_row _ _ 0 _ _ HM2.out.ans
        have f1 := frozen_of_row _ _ 1 _ _ HM2.out.ans
        clear hS)
     | fail)
   refine bodyPost_ret (v := .tuple #[.agg #[.slice (some ⟨g, 0, none⟩) (n + 1) cap, .slice ua mx uc], .int .i64 0]) (by simp [results, Tryz.results27, go_sem, q0, q1]) rfl ?_
   have hfin := HM2.out.done (by rw [sortG_len, ← HRW.out.2.1, List.length_map]) HL1.out.2.symm (.slice (some ⟨g, 0, none⟩) (n + 1) cap) (.slice ua mx uc)
   rw [sortG_map (fun p : Tab × List Col => p.1.name) PT.name ptOf (fun _ => rfl), List.map_append, HP1.out, HP2.out, ← HXX.out, ← HT.out] at hfin
   have hy : ptOf ((⟨yn, ya, yl, yc, yr, yx, yw⟩ : Tab), cl) = ptOf ((⟨tn, ta, tl, tc, tr, tx, tw⟩ : Tab), cl) := by
     obtain ⟨e1, e2, e3, e4, _⟩ := HP.out
     unfold ptOf
     dsimp only at e1 e2 e3 e4 ⊢
     rw [e1, e2, e3, e4]
   rw [show [((⟨yn, ya, yl, yc, yr, yx, yw⟩ : Tab), cl)].map ptOf = [ptOf ((⟨tn, ta, tl, tc, tr, tx, tw⟩ : Tab), cl)] by rw [← hy]; rfl] at hfin
   exact hfin
set_option maxRecDepth 100000 in
set_option maxHeartbeats 16000000 in
theorem put_again (m : Int) (gt : Nat → Nat) (ht : ∀ j, j < 23 → finD (Ieee.double.read (gt j)) = true) (A : Option Addr) (c : Nat) (ts : List (Tab × List Col)) (ia : Option Addr) (ic : Nat) (xs : List (Idx × List Int)) (t : Tab) (cl : List Col) (w : World) (hG : Glob m gt w)
   (hD : DeepAt w A ts) (hX : DeepIx w ia xs) (hn : ts.length ≤ 1000) (k : Nat) (hk : findN (fun p => p.1.name) ts t.name = some k) (hm : xs.length ≤ 1000) (hl : ∀ p ∈ ts, p.2.length ≤ 1000) (hlx : ∀ p ∈ xs, p.2.length ≤ 1000) (hcol : ColsAt w t.ca cl) (hcn : t.cn = cl.length) (hcc : cl.length ≤ t.cc) (hnone : t.ca = none → t.cc = 0)
   (hbad : tabBad t = false) (hcr : colsR cl = 0) (hcl : cl.length ≤ 1000) :
   Calls Tryz.prog 27 #[.agg #[.slice A ts.length c, .slice ia xs.length ic], .agg #[.string t.name, .slice t.ca t.cn t.cc, .int .i64 t.root, .int .i64 t.next, .int .i64 t.rows]] w (OutP w 0 ((ts.map ptOf).set k (ptOf (t, cl))) (xs.map pxOf)) := by
 have HST := Lib.hid (PutL.start w A ts.length c ia xs.length ic t)
 have HG := Lib.hid hG
 have hfind : ∀ r : Int, FirstIs (nameAt (ts.map Prod.fst) t.name) (ts.map Prod.fst).length r → (∃ k : Nat, k < ts.length ∧ findN (fun p : Tab × List Col => p.1.name) ts t.name = some k ∧ r = k) ∨ (findN (fun p : Tab × List Col => p.1.name) ts t.name = none ∧ r = -1) := fun r hr => by
   rw [List.length_map] at hr
   exact first_find (P := nameAt (ts.map Prod.fst) t.name) (nm := fun p : Tab × List Col => p.1.name) (fun j y hj => by unfold nameAt; rw [List.getElem?_map, hj]; rfl) hr
 have hkl : k < ts.length := by
   unfold findN at hk
   obtain ⟨h, _⟩ := List.findIdx?_eq_some_iff_getElem.1 hk
   exact h
 have HTA := Lib.hid (show ∀ W, Below w.heap.size w W → Calls Tryz.prog 12 #[.agg #[.slice A ts.length c, .slice ia xs.length ic], .string t.name] W (RetV (.int .i64 (k : Int)) W) from fun W hB => by
   have h := table_any A c (ts.map Prod.fst) ia xs.length ic t.name W (CellsAt.keep hB hD.1)
   rw [List.length_map] at h
   refine h.mono fun e w' ⟨r, h1, h2, h3⟩ => ?_
   rcases hfind r (by rw [List.length_map]; exact h2) with ⟨j, _, hj, rfl⟩ | ⟨hj, rfl⟩
   · rw [hk] at hj
     cases hj
     exact ⟨h1, h3⟩
   · rw [hk] at hj; cases hj)
 have r5 : ((k : Int) < 0) = False := eq_false (by omega)
 have r6 : ((0 : Int) ≤ (k : Int)) = True := eq_true (by omega)
 have HKL := Lib.hid hkl
 obtain ⟨hname, r1, r2, r3, r4⟩ := tabBad_no hbad
 have HNA := Lib.hid (show ∀ W, Below w.heap.size w W → Calls Tryz.prog 28 #[.string t.name] W (RetV (.bool true) W) from fun W hB => by
   have h := name_any m gt ht t.name W (hG.keep hB)
   rwa [hname] at h)
 have HCO := Lib.hid (show ∀ W, Below w.heap.size w W → Calls Tryz.prog 20 #[.slice t.ca t.cn t.cc] W (RetV (.int .i64 0) W) from fun W hB => by
   have h := columns_any m gt ht t.ca t.cc cl W (hG.keep hB) (CellsAt.keep hB hcol) hcc
   rw [hcr, ← hcn] at h
   exact h)
 have HCL := Lib.hid (show ∀ W, Below w.heap.size w W → Calls Tryz.prog 10 #[.agg #[.slice A ts.length c, .slice ia xs.length ic]] W (CloneO W ts xs) from fun W hB =>
   clones_own A c ts ia ic xs W (DeepAt.keep hB hD) (DeepIx.keep hB hX) (by omega) hm hl hlx)
 have HCT := Lib.hid (show ∀ W, Below w.heap.size w W → Calls Tryz.prog 36 #[.agg #[.string t.name, .slice t.ca t.cn t.cc, .int .i64 t.root, .int .i64 t.next, .int .i64 t.rows]] W fun e w' => ∃ (yn : ByteArray) (ya : Option Addr) (yl yc : Nat) (yr yx yw : Int), e = .returned (.agg #[.string yn, .slice ya yl yc, .int .i64 yr, .int .i64 yx, .int .i64 yw]) ∧ Below W.heap.size W w' ∧ TabCopy W t cl ⟨yn, ya, yl, yc, yr, yx, yw⟩ w' from fun W hW =>
   (clone_tab t cl W (CellsAt.keep hW hcol) hcn (fun h => by have h2 := hnone h; exact ⟨List.length_eq_zero_iff.1 (by omega), h2⟩) (by omega)).mono (fun e w' ⟨⟨yn, ya, yl, yc, yr, yx, yw⟩, h1, h2, h3⟩ => ⟨yn, ya, yl, yc, yr, yx, yw, h1, h2, h3⟩))
 have HCLL := Lib.hid hcl
 obtain ⟨T, hT⟩ : ∃ T, T = ts.map ptOf := ⟨_, rfl⟩
 obtain ⟨X, hXX⟩ : ∃ X, X = xs.map pxOf := ⟨_, rfl⟩
 have HT := Lib.hid hT
 have HXX := Lib.hid hXX
 rw [← hT, ← hXX]
 obtain ⟨n, hnn⟩ : ∃ n, n = ts.length := ⟨_, rfl⟩
 obtain ⟨mx, hmm⟩ : ∃ mx, mx = xs.length := ⟨_, rfl⟩
 have HN := Lib.hid hnn
 have HM := Lib.hid hmm
 rw [← hnn] at HST HTA HCL HKL hn
 rw [← hmm] at HST HTA HCL
 obtain ⟨tn, ta, tl, tc, tr, tx, tw⟩ := t
 dsimp only at HST HTA HNA HCO HCL HCT r1 r2 r3 r4 ⊢
 rw [← hnn, ← hmm]
 clear hG hD hX hl hlx hcol hcn hcc hnone hname hbad hcr hcl ht hnn hmm hT hXX hfind hk hkl
 go_enter Tryz.func27, Tryz.ntmps27
 go_wp2_with (first
   | (go_at_call 12; (with_reducible refine (HTA.out _ HST.out.below).mono ?_); rintro e w3 ⟨rfl, hB3⟩
      have HK3 := Lib.hid (HST.out.keep hB3)
      have k0 := cell_of_row _ _ 0 _ _ _ HK3.out.tab
      have k1 := cell_of_row _ _ 1 _ _ _ HK3.out.tab
      have k2 := cell_of_row _ _ 2 _ _ _ HK3.out.tab
      have k3 := cell_of_row _ _ 3 _ _ _ HK3.out.tab
      have k4 := cell_of_row _ _ 4 _ _ _ HK3.out.tab
      have s0 := cell_of_row _ _ 0 _ _ _ HK3.out.sch
      have s1 := cell_of_row _ _ 1 _ _ _ HK3.out.sch
      have a0 := cell_of_row _ _ 0 _ _ _ HK3.out.ans
      have a1 := cell_of_row _ _ 1 _ _ _ HK3.out.ans
      clear hB3)
   | (go_at_call 28; (with_reducible refine (HNA.out _ HK3.out.below).mono ?_); rintro e w5 ⟨rfl, hB5⟩
      have HK5 := Lib.hid (HK3.out.keep hB5)
      clear k0 k1 k2 k3 k4 s0 s1 a0 a1
      have k0 := cell_of_row _ _ 0 _ _ _ HK5.out.tab
      have k1 := cell_of_row _ _ 1 _ _ _ HK5.out.tab
      have k2 := cell_of_row _ _ 2 _ _ _ HK5.out.tab
      have k3 := cell_of_row _ _ 3 _ _ _ HK5.out.tab
      have k4 := cell_of_row _ _ 4 _ _ _ HK5.out.tab
      have s0 := cell_of_row _ _ 0 _ _ _ HK5.out.sch
      have s1 := cell_of_row _ _ 1 _ _ _ HK5.out.sch
      have a0 := cell_of_row _ _ 0 _ _ _ HK5.out.ans
      have a1 := cell_of_row _ _ 1 _ _ _ HK5.out.ans
      clear hB5)
   | (go_at_call 20; (with_reducible refine (HCO.out _ HK5.out.below).mono ?_); rintro e w6 ⟨rfl, hB6⟩
      have HK6 := Lib.hid (HK5.out.keep hB6)
      clear k0 k1 k2 k3 k4 s0 s1 a0 a1
      have k0 := cell_of_row _ _ 0 _ _ _ HK6.out.tab
      have k1 := cell_of_row _ _ 1 _ _ _ HK6.out.tab
      have k2 := cell_of_row _ _ 2 _ _ _ HK6.out.tab
      have k3 := cell_of_row _ _ 3 _ _ _ HK6.out.tab
      have k4 := cell_of_row _ _ 4 _ _ _ HK6.out.tab
      have s0 := cell_of_row _ _ 0 _ _ _ HK6.out.sch
      have s1 := cell_of_row _ _ 1 _ _ _ HK6.out.sch
      have a0 := cell_of_row _ _ 0 _ _ _ HK6.out.ans
      have a1 := cell_of_row _ _ 1 _ _ _ HK6.out.ans
      clear hB6)
   | (go_at_call 10; (with_reducible refine (HCL.out _ HK6.out.below).mono ?_); rintro e w7 ⟨va, ua, vc, uc, ts', xs', rfl, hB7, hO, hp1, hp2, hown, _, h63⟩
      have HK7 := Lib.hid (HK6.out.keep hB7)
      rw [← HN.out, ← HM.out] at hO
      rw [← HN.out] at hown
      have HOWN := Lib.hid hown
      have HO := Lib.hid hO
      have HS7 := Lib.hid hB7.size
      have HB3 := Lib.hid h63
      have HP1 := Lib.hid hp1
      have HP2 := Lib.hid hp2
      clear k0 k1 k2 k3 k4 s0 s1 a0 a1
      have k0 := cell_of_row _ _ 0 _ _ _ HK7.out.tab
      have k1 := cell_of_row _ _ 1 _ _ _ HK7.out.tab
      have k2 := cell_of_row _ _ 2 _ _ _ HK7.out.tab
      have k3 := cell_of_row _ _ 3 _ _ _ HK7.out.tab
      have k4 := cell_of_row _ _ 4 _ _ _ HK7.out.tab
      have s0 := cell_of_row _ _ 0 _ _ _ HK7.out.sch
      have s1 := cell_of_row _ _ 1 _ _ _ HK7.out.sch
      have a0 := cell_of_row _ _ 0 _ _ _ HK7.out.ans
      have a1 := cell_of_row _ _ 1 _ _ _ HK7.out.ans
      rw [← HN.out, ← HM.out]
      clear hB7 hown hO hp1 hp2 h63)
   | fail)
 obtain ⟨w8, hw8⟩ : ∃ w8, w8 = w7.alloc (.cells #[.slice va n vc, .slice ua mx uc] 36) := ⟨_, rfl⟩
 have HK8 := Lib.hid (show PutL w A n c ia mx ic ⟨tn, ta, tl, tc, tr, tx, tw⟩ w8 by rw [hw8]; exact HK7.out.keep (below1 w7 _))
 have hW0 : Below w8.heap.size w8 w8.drew := (Below.refl _ _).drew
 have HL1 := Lib.hid (show ts'.length = n ∧ xs'.length = mx by
   have h1 := congrArg List.length HP1.out
   have h2 := congrArg List.length HP2.out
   rw [List.length_map, List.length_map] at h1 h2
   exact ⟨h1.trans HN.out.symm, h2.trans HM.out.symm⟩)
 have HMID := Lib.hid (show MidS w (w.heap.size + 1 + 1) (w6.heap.size + 3) w7.heap.size (.slice va n vc) (.slice ua mx uc) ts' xs' w8.drew from by
   rw [hw8]
   have h6 := heap_lt HK6.out.ans
   have h7 := HS7.out
   have h9 := heap_lt HK7.out.ans
   have hb0 := HO.out w7.heap.size (Nat.le_refl _)
   refine ⟨HK7.out.below.trans (((below1 w7 _).drew).mono HK7.out.below.size), ?_, ?_, hb0.keep ((below1 w7 _).drew), by omega, by omega, ?_⟩
   · exact ((below1 w7 _).block _ h9).trans HK7.out.ans
   · exact heap_alloc_new w7 _
   · exact HB3.out)
 have HY := Lib.hid (show w8.drew.heap.size = w7.heap.size + 1 by rw [hw8]; exact World.size_alloc _ _)
 have o0 : w8.drew.cell? ⟨w7.heap.size, 0, none⟩ = some (.slice va n vc) := by rw [hw8]; exact cell_of_row _ _ 0 _ _ _ (heap_alloc_new w7 _)
 have j0 : w8.drew.cell? ⟨w.heap.size + 1, 0, none⟩ = some (.string tn) := cell_of_row w8.drew _ 0 _ _ _ HK8.out.tab
 have j1 : w8.drew.cell? ⟨w.heap.size + 1, 1, none⟩ = some (.slice ta tl tc) := cell_of_row w8.drew _ 1 _ _ _ HK8.out.tab
 have j2 : w8.drew.cell? ⟨w.heap.size + 1, 2, none⟩ = some (.int .i64 tr) := cell_of_row w8.drew _ 2 _ _ _ HK8.out.tab
 have j3 : w8.drew.cell? ⟨w.heap.size + 1, 3, none⟩ = some (.int .i64 tx) := cell_of_row w8.drew _ 3 _ _ _ HK8.out.tab
 have j4 : w8.drew.cell? ⟨w.heap.size + 1, 4, none⟩ = some (.int .i64 tw) := cell_of_row w8.drew _ 4 _ _ _ HK8.out.tab
 obtain ⟨g, rfl⟩ : ∃ g, va = some ⟨g, 0, none⟩ := by
   rcases HOWN.out.2 with ⟨_, h0⟩ | ⟨g, cap, cur, e, _⟩
   · have := HKL.out; omega
   · cases e
     exact ⟨g, rfl⟩
 have HRW := Lib.hid (show RowT w8.drew g (ts'.map Prod.fst) ∧ n ≤ vc ∧ w6.heap.size + 3 ≤ g from by
   have h0 := HMID.out.own.tab
   rw [HL1.out.1] at h0
   exact h0.row_t)
 have hkx : ∃ t0 l0, ts'[k]? = some (t0, l0) := ⟨_, _, List.getElem?_eq_getElem (by rw [HL1.out.1]; exact HKL.out)⟩
 obtain ⟨t0, l0, hk0⟩ := hkx
 have HK0 := Lib.hid hk0
 have HZ := Lib.hid (show ∀ (w9 : World) (yn : ByteArray) (ya : Option Addr) (yl yc : Nat) (yr yx yw : Int), Below w8.drew.heap.size w8.drew w9 → TabCopy w8.drew ⟨tn, ta, tl, tc, tr, tx, tw⟩ cl ⟨yn, ya, yl, yc, yr, yx, yw⟩ w9 → MidS w (w.heap.size + 1 + 1) (w6.heap.size + 3) w7.heap.size (.slice (some ⟨g, 0, none⟩) n vc) (.slice ua mx uc) (ts'.set k (⟨yn, ya, yl, yc, yr, yx, yw⟩, cl)) xs' (setTab w9 g (k * 5) ⟨yn, ya, yl, yc, yr, yx, yw⟩) ∧ RowT w9 g (ts'.map Prod.fst) from fun w9 yn ya yl yc yr yx yw h1 h2 => by
   have hM9 := HMID.out.keep h1
   have hnew := OwnTab.of_copy0 h1 h2 HCLL.out HMID.out (by rw [HY.out]; exact Nat.lt_succ_self _)
   have hr9 := HRW.out.1.keep h1
   refine ⟨hM9.tabs (setTab_grown w9 g (k * 5) _) ?_ (fun p hp => ?_), hr9⟩
   · rw [List.length_set, HL1.out.1, List.map_set]
     exact (hr9.set (by rw [List.length_map, HL1.out.1]; exact HKL.out) _).at HRW.out.2.2 HRW.out.2.1
   · rcases List.mem_or_eq_of_mem_set hp with hp | hp
     · exact hM9.own.cols p hp
     · rw [hp]; exact hnew)
 have o1 : w8.drew.cell? ⟨w7.heap.size, 1, none⟩ = some (.slice ua mx uc) := by rw [hw8]; exact cell_of_row _ _ 1 _ _ _ (heap_alloc_new w7 _)
 have r7 : ((k : Int) < (n : Int)) = True := eq_true (by have := HKL.out; omega)
 have r8 := HKL.out
 rw [← hw8]
 clear hw8 k0 k1 k2 k3 k4 s0 s1 a0 a1 hk0
 go_region_law (first
   | (go_simp; go_at_call 36; (with_reducible refine (HCT.out _ (HK8.out.below.trans (hW0.mono HK8.out.below.size))).mono ?_); rintro e w9 ⟨yn, ya, yl, yc, yr, yx, yw, rfl, hB9, hP⟩
      have HP := Lib.hid hP
      have o9 : w9.cell? ⟨w7.heap.size, 0, none⟩ = some (.slice (some ⟨g, 0, none⟩) n vc) := cell_kept o0 hB9
      have HMM := Lib.hid (HZ.out _ _ _ _ _ _ _ _ hB9 hP)
      have z0 := HMM.out.2.free (k * 5)
      have z1 := HMM.out.2.free (k * 5 + 1)
      have z2 := HMM.out.2.free (k * 5 + 2)
      have z3 := HMM.out.2.free (k * 5 + 3)
      have z4 := HMM.out.2.free (k * 5 + 4)
      have hk1 : (ts'.map Prod.fst)[k]? = some t0 := by rw [List.getElem?_map, HK0.out]; rfl
      have y0 : w9.cell? ⟨g, k * 5, none⟩ = some (.string t0.name) := HMM.out.2.cell hk1 (i := 0) rfl
      have y1 : w9.cell? ⟨g, k * 5 + 1, none⟩ = some (.slice t0.ca t0.cn t0.cc) := HMM.out.2.cell hk1 (i := 1) rfl
      have y2 : w9.cell? ⟨g, k * 5 + 2, none⟩ = some (.int .i64 t0.root) := HMM.out.2.cell hk1 (i := 2) rfl
      have y3 : w9.cell? ⟨g, k * 5 + 3, none⟩ = some (.int .i64 t0.next) := HMM.out.2.cell hk1 (i := 3) rfl
      have y4 : w9.cell? ⟨g, k * 5 + 4, none⟩ = some (.int .i64 t0.rows) := HMM.out.2.cell hk1 (i := 4) rfl
      have m0 := cell_of_row _ _ 0 _ _ _ HMM.out.1.out
      have m1 := cell_of_row _ _ 1 _ _ _ HMM.out.1.out
      have q0 := cell_of_row _ _ 0 _ _ _ HMM.out.1.ans
      have q1 := cell_of_row _ _ 1 _ _ _ HMM.out.1.ans
      have f0 := frozen_of_row _ _ 0 _ _ HMM.out.1.ans
      have f1 := frozen_of_row _ _ 1 _ _ HMM.out.1.ans
      dsimp only [setTab] at m0 m1 q0 q1 f0 f1
      clear hB9 hP hk1)
   | fail)
 all_goals
   go_wp2_with fail
   refine bodyPost_ret (v := .tuple #[.agg #[.slice (some ⟨g, 0, none⟩) n vc, .slice ua mx uc], .int .i64 0]) (by simp [results, Tryz.results27, go_sem, q0, q1]) rfl ?_
   have hfin := HMM.out.1.done (by rw [List.length_set]; exact HL1.out.1.symm) HL1.out.2.symm (.slice (some ⟨g, 0, none⟩) n vc) (.slice ua mx uc)
   rw [List.map_set, HP1.out, HP2.out, ← HXX.out, ← HT.out] at hfin
   have hy : ptOf ((⟨yn, ya, yl, yc, yr, yx, yw⟩ : Tab), cl) = ptOf ((⟨tn, ta, tl, tc, tr, tx, tw⟩ : Tab), cl) := by
     obtain ⟨e1, e2, e3, e4, _⟩ := HP.out
     unfold ptOf
     dsimp only at e1 e2 e3 e4 ⊢
     rw [e1, e2, e3, e4]
   rw [hy] at hfin
   exact hfin
end Go.Proofs.YtcgpflkaejbkhaaGreatDoor
