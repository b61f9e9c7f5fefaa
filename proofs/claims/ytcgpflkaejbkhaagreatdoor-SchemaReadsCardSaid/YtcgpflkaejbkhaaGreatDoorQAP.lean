/- The walk of PutIndex of an index in the place of its name. -/
import Derived.Test.YtcgpflkaejbkhaaGreatDoorQAO
import Derived.Deep.RegionLaw
import Derived.Deep.RegionHeld3
namespace Go.Proofs.YtcgpflkaejbkhaaGreatDoor
open Go.RowKit

set_option maxRecDepth 100000 in
set_option maxHeartbeats 16000000 in
theorem putx_again (m : Int) (gt : Nat → Nat) (ht : ∀ j, j < 23 → finD (Ieee.double.read (gt j)) = true) (A : Option Addr) (c : Nat) (ts : List (Tab × List Col)) (ia : Option Addr) (ic : Nat) (xs : List (Idx × List Int)) (t : Idx) (w : World) (hG : Glob m gt w) (hD : DeepAt w A ts) (hX : DeepIx w ia xs) (hbad : idxBad t = false) (kt : Nat) (t0 : Tab) (l0 : List Col) (hof : findN PT.name (ts.map ptOf) t.table = some kt) (ht0 : ts[kt]? = some (t0, l0)) (cl : List Int) (hcol : IntsAt w t.pa cl) (hcn : t.pn = cl.length) (hcc : cl.length ≤ t.pc) (hnone : t.pa = none → t.pc = 0) (hcr : placesR l0.length cl = 0) (hcl : cl.length ≤ 1000) (hn : ts.length ≤ 1000) (hl : ∀ p ∈ ts, p.2.length ≤ 1000) (hlx : ∀ p ∈ xs, p.2.length ≤ 1000) (hm : xs.length ≤ 1000) (k : Nat) (hat : findN PX.name (xs.map pxOf) t.name = some k) :
   Calls Tryz.prog 30 #[.agg #[.slice A ts.length c, .slice ia xs.length ic], .agg #[.string t.name, .string t.table, .slice t.pa t.pn t.pc, .int .i64 t.state, .int .i64 t.root, .int .i64 t.cursor]] w (OutP w 0 (ts.map ptOf) ((xs.map pxOf).set k (pxOf (t, cl)))) := by
 have HST := Lib.hid (PutXL.start w A ts.length c ia xs.length ic t)
 have HTI := Lib.hid (show ∀ W, Below w.heap.size w W → Calls Tryz.prog 14 #[.agg #[.slice A ts.length c, .slice ia xs.length ic], .string t.name] W (RetV (.int .i64 (placeI (findN PX.name (xs.map pxOf) t.name))) W) from fun W hB => index_at ia ic xs A ts.length c t.name W (DeepIx.keep hB hX))
 have HTT := Lib.hid (show ∀ W, Below w.heap.size w W → Calls Tryz.prog 12 #[.agg #[.slice A ts.length c, .slice ia xs.length ic], .string t.table] W (RetV (.int .i64 (placeI (findN PT.name (ts.map ptOf) t.table))) W) from fun W hB => table_at A c ts ia xs.length ic t.table W (DeepAt.keep hB hD))
 obtain ⟨hname, r1, r2, r3, r4, r5⟩ := idxBad_no hbad
 have HNA := Lib.hid (show ∀ W, Below w.heap.size w W → Calls Tryz.prog 28 #[.string t.name] W (RetV (.bool true) W) from fun W hB => by have h := name_any m gt ht t.name W (hG.keep hB); rwa [hname] at h)
 rw [hof] at HTT
 simp only [placeI] at HTT
 have r6 : ((kt : Int) < 0) = False := eq_false (by omega)
 rw [hat] at HTI
 simp only [placeI] at HTI
 have hkl : k < xs.length := by have := findN_lt hat; rwa [List.length_map] at this
 have HKL := Lib.hid hkl
 have r7 : ((k : Int) < 0) = False := eq_false (by omega)
 have r8 : ((0 : Int) ≤ (k : Int)) = True := eq_true (by omega)
 have hkt : kt < ts.length := (List.getElem?_eq_some_iff.1 ht0).1
 have HKT := Lib.hid hkt
 obtain ⟨b, off, rfl, HTC⟩ : ∃ b off, A = some ⟨b, off, none⟩ ∧ Hid (∀ W, Below w.heap.size w W → ∀ (i : Nat) (u : Value), (tabL t0)[i]? = some u → W.cell? ⟨b, off + kt * 5 + i, none⟩ = some u) := by
   rcases hD.1.2 with h0 | ⟨b, off, h1, h2, h3⟩
   · exfalso
     rw [List.map_eq_nil_iff, List.map_eq_nil_iff] at h0
     subst h0
     simp at hkt
   · refine ⟨b, off, h1, fun W hB i u hi => (hB.cell (p := ⟨b, off + kt * 5 + i, none⟩) h2).trans ((h3 kt (tabL t0) ?_).2 i u hi)⟩
     rw [List.getElem?_map, List.getElem?_map, ht0]
     rfl
 have hcn0 : t0.cn = l0.length := (hD.2 (t0, l0) (List.mem_of_getElem? ht0)).2.1
 have HPL := Lib.hid (show ∀ W, Below w.heap.size w W → Calls Tryz.prog 22 #[.agg #[.string t0.name, .slice t0.ca t0.cn t0.cc, .int .i64 t0.root, .int .i64 t0.next, .int .i64 t0.rows], .slice t.pa t.pn t.pc] W (RetV (.int .i64 0) W) from fun W hB => by
   have h := places_any t0.name t0.ca t0.cn t0.cc t0.root t0.next t0.rows t.pa t.pc cl W (IntsAt.keep hB hcol) hcc
   rw [show (t0.cn : Int) = (l0.length : Int) by rw [hcn0], hcr, ← hcn] at h
   exact h)
 have r9 : ((kt : Int) < (ts.length : Int)) = True := eq_true (by omega)
 have HCL := Lib.hid (show ∀ W, Below w.heap.size w W → Calls Tryz.prog 10 #[.agg #[.slice (some ⟨b, off, none⟩) ts.length c, .slice ia xs.length ic]] W (CloneO W ts xs) from fun W hB =>
   clones_own (some ⟨b, off, none⟩) c ts ia ic xs W (DeepAt.keep hB hD) (DeepIx.keep hB hX) hn (by omega) hl hlx)
 have HCT := Lib.hid (show ∀ W, Below w.heap.size w W → Calls Tryz.prog 37 #[.agg #[.string t.name, .string t.table, .slice t.pa t.pn t.pc, .int .i64 t.state, .int .i64 t.root, .int .i64 t.cursor]] W fun e w' => ∃ (yn yt : ByteArray) (ya : Option Addr) (yl yc : Nat) (yr yx yw : Int), e = .returned (.agg #[.string yn, .string yt, .slice ya yl yc, .int .i64 yr, .int .i64 yx, .int .i64 yw]) ∧ Below W.heap.size W w' ∧ IdxCopy W t cl ⟨yn, yt, ya, yl, yc, yr, yx, yw⟩ w' from fun W hW =>
   (clone_idx t cl W (IntsAt.keep hW hcol) hcn (fun h => by have h2 := hnone h; exact ⟨List.length_eq_zero_iff.1 (by omega), h2⟩) (by omega)).mono (fun e w' ⟨⟨yn, yt, ya, yl, yc, yr, yx, yw⟩, h1, h2, h3⟩ => ⟨yn, yt, ya, yl, yc, yr, yx, yw, h1, h2, h3⟩))
 have HCLL := Lib.hid hcl
 obtain ⟨T, hT⟩ : ∃ T, T = ts.map ptOf := ⟨_, rfl⟩
 obtain ⟨X, hXX⟩ : ∃ X, X = xs.map pxOf := ⟨_, rfl⟩
 have HT := Lib.hid hT
 have HXX := Lib.hid hXX
 rw [← hT, ← hXX]
 obtain ⟨n, hnn⟩ : ∃ n, n = ts.length := ⟨_, rfl⟩
 obtain ⟨mx, hmm⟩ : ∃ mx, mx = xs.length := ⟨_, rfl⟩
 have HN := Lib.hid hnn
 have HM := Lib.hid hmm
 rw [← hnn] at HST HTI HTT r9 HKT HCL hn
 rw [← hmm] at HST HTI HTT HKL HCL hm
 obtain ⟨tn, tt, ta, tl, tc, tr, tx, tw⟩ := t
 dsimp only at HST HTI HTT HNA r1 r2 r3 r4 r5 HPL HCT ⊢
 rw [← hnn, ← hmm]
 clear hG hD hX ht hnn hmm hbad hname hof hat hcr hcol hcn hcc ht0 hcn0 hkt hnone hcl hl hlx hT hXX hkl
 obtain ⟨t0n, t0a, t0l, t0c, t0r, t0x, t0w⟩ := t0
 dsimp only at HPL HTC
 go_enter Tryz.func30, Tryz.ntmps30
 go_wp2_with fail
 obtain ⟨w0, hw0⟩ : ∃ w0, w0 = (((w.alloc (.cells #[.slice (some ⟨b, off, none⟩) n c, .slice ia mx ic] 36)).alloc (.cells #[.string tn, .string tt, .slice ta tl tc, .int .i64 tr, .int .i64 tx, .int .i64 tw] 28)).alloc (.cells #[.slice none 0 0, .slice none 0 0] 36)) := ⟨_, rfl⟩
 rw [← hw0] at HST ⊢
 have HKS := Lib.hid (show PutXL w (some ⟨b, off, none⟩) n c ia mx ic ⟨tn, tt, ta, tl, tc, tr, tx, tw⟩ w0.drew from HST.out.keep ((Below.refl _ _).drew))
 have k0 := cell_of_row w0.drew _ 0 _ _ _ HKS.out.tab
 have k1 := cell_of_row w0.drew _ 1 _ _ _ HKS.out.tab
 have k2 := cell_of_row w0.drew _ 2 _ _ _ HKS.out.tab
 have k3 := cell_of_row w0.drew _ 3 _ _ _ HKS.out.tab
 have k4 := cell_of_row w0.drew _ 4 _ _ _ HKS.out.tab
 have k5 := cell_of_row w0.drew _ 5 _ _ _ HKS.out.tab
 have s0 := cell_of_row w0.drew _ 0 _ _ _ HKS.out.sch
 have s1 := cell_of_row w0.drew _ 1 _ _ _ HKS.out.sch
 have a0 := cell_of_row w0.drew _ 0 _ _ _ HKS.out.ans
 have a1 := cell_of_row w0.drew _ 1 _ _ _ HKS.out.ans
 have f0 := frozen_of_row w0.drew _ 0 _ _ HKS.out.ans
 have f1 := frozen_of_row w0.drew _ 1 _ _ HKS.out.ans
 clear hw0
 have HSX := Lib.hid (show ∀ wx, PutXL w (some ⟨b, off, none⟩) n c ia mx ic ⟨tn, tt, ta, tl, tc, tr, tx, tw⟩ wx → PutXL w (some ⟨b, off, none⟩) n c ia mx ic ⟨tn, tt, ta, tl, tc, tr, tx, tw⟩ wx ∧ wx.cell? ⟨w.heap.size, 0, none⟩ = some (.slice (some ⟨b, off, none⟩) n c) ∧ wx.cell? ⟨w.heap.size, 1, none⟩ = some (.slice ia mx ic) ∧ wx.cell? ⟨w.heap.size + 1, 0, none⟩ = some (.string tn) ∧ wx.cell? ⟨w.heap.size + 1, 1, none⟩ = some (.string tt) from fun wx h => ⟨h, cell_of_row _ _ 0 _ _ _ h.sch, cell_of_row _ _ 1 _ _ _ h.sch, cell_of_row _ _ 0 _ _ _ h.tab, cell_of_row _ _ 1 _ _ _ h.tab⟩)
 refine wp_region_held_drew (S := (fun wx => PutXL w (some ⟨b, off, none⟩) n c ia mx ic ⟨tn, tt, ta, tl, tc, tr, tx, tw⟩ wx ∧ wx.cell? ⟨w.heap.size, 0, none⟩ = some (.slice (some ⟨b, off, none⟩) n c) ∧ wx.cell? ⟨w.heap.size, 1, none⟩ = some (.slice ia mx ic) ∧ wx.cell? ⟨w.heap.size + 1, 0, none⟩ = some (.string tn) ∧ wx.cell? ⟨w.heap.size + 1, 1, none⟩ = some (.string tt))) (by kernel_rfl) (HSX.out _ HKS.out) (fun hHeld => ?_)
 (try dsimp only at hHeld)
 refine wpAnyH_take (i := 0) (v := ?_) (List.getElem?_toArray.trans rfl) (by kernel_rfl) (by kernel_rfl) (by kernel_rfl) (fun _ _ _ h => h) (Or.inl ⟨by rfl, ?_⟩) hHeld ?_
 rotate_left
 · intro wx hSw
   (try dsimp only at hSw)
   obtain ⟨_, e0, e1, e2, e3⟩ := hSw
   go_simp
   (try with_reducible rfl)
 (try simp only [Act.put, List.setIfInBounds_toArray, List.set_cons_zero, List.set_cons_succ])
 refine wpAnyH_take (i := 1) (v := ?_) (List.getElem?_toArray.trans rfl) (by kernel_rfl) (by kernel_rfl) (by kernel_rfl) (fun _ _ _ h => h) (Or.inl ⟨by rfl, ?_⟩) hHeld ?_
 rotate_left
 · intro wx hSw
   (try dsimp only at hSw)
   obtain ⟨_, e0, e1, e2, e3⟩ := hSw
   go_simp
   (try with_reducible rfl)
 (try simp only [Act.put, List.setIfInBounds_toArray, List.set_cons_zero, List.set_cons_succ])
 refine wpAnyH_take (i := 2) (v := ?_) (List.getElem?_toArray.trans rfl) (by kernel_rfl) (by kernel_rfl) (by kernel_rfl) (fun _ _ _ h => h) (Or.inl ⟨by rfl, ?_⟩) hHeld ?_
 rotate_left
 · intro wx hSw
   (try dsimp only at hSw)
   obtain ⟨_, e0, e1, e2, e3⟩ := hSw
   go_simp
   (try with_reducible rfl)
 (try simp only [Act.put, List.setIfInBounds_toArray, List.set_cons_zero, List.set_cons_succ])
 refine wpAnyH_take (i := 4) (v := ?_) (List.getElem?_toArray.trans rfl) (by kernel_rfl) (by kernel_rfl) (by kernel_rfl) (fun _ _ _ h => h) (Or.inl ⟨by rfl, ?_⟩) hHeld ?_
 rotate_left
 · intro wx hSw
   (try dsimp only at hSw)
   obtain ⟨_, e0, e1, e2, e3⟩ := hSw
   go_simp
   (try with_reducible rfl)
 (try simp only [Act.put, List.setIfInBounds_toArray, List.set_cons_zero, List.set_cons_succ])
 refine wpAnyH_take (i := 5) (v := ?_) (List.getElem?_toArray.trans rfl) (by kernel_rfl) (by kernel_rfl) (by kernel_rfl) (fun _ _ _ h => h) (Or.inl ⟨by rfl, ?_⟩) hHeld ?_
 rotate_left
 · intro wx hSw
   (try dsimp only at hSw)
   obtain ⟨_, e0, e1, e2, e3⟩ := hSw
   go_simp
   (try with_reducible rfl)
 (try simp only [Act.put, List.setIfInBounds_toArray, List.set_cons_zero, List.set_cons_succ])
 refine wpAnyH_take (i := 6) (v := ?_) (List.getElem?_toArray.trans rfl) (by kernel_rfl) (by kernel_rfl) (by kernel_rfl) (fun _ _ _ h => h) (Or.inl ⟨by rfl, ?_⟩) hHeld ?_
 rotate_left
 · intro wx hSw
   (try dsimp only at hSw)
   obtain ⟨_, e0, e1, e2, e3⟩ := hSw
   go_simp
   (try with_reducible rfl)
 (try simp only [Act.put, List.setIfInBounds_toArray, List.set_cons_zero, List.set_cons_succ])
 refine wpAnyH_ready (rs := [3]) (by kernel_rfl) (by simp) ?_
 refine AllReadyH.cons (List.getElem?_toArray.trans rfl) (fun K hK => ?_) AllReadyH.nil
 go_simp
 go_at_call 14
 with_reducible refine Calls.mono (HTI.out _ hHeld.1.below) ?_
 rintro e w2 ⟨rfl, hB5⟩
 have hHeld2 := HSX.out _ (hHeld.1.keep hB5)
 refine hK.out _ _ hHeld2 (fun _ => ?_)
 clear hK K hHeld hB5
 have hHeld := hHeld2
 clear hHeld2
 (try simp only [Act.put, List.setIfInBounds_toArray, List.set_cons_zero, List.set_cons_succ])
 refine wpAnyH_ready (rs := [7]) (by kernel_rfl) (by simp) ?_
 refine AllReadyH.cons (List.getElem?_toArray.trans rfl) (fun K hK => ?_) AllReadyH.nil
 go_simp
 go_at_call 12
 with_reducible refine Calls.mono (HTT.out _ hHeld.1.below) ?_
 rintro e w3 ⟨rfl, hB5⟩
 have hHeld2 := HSX.out _ (hHeld.1.keep hB5)
 refine hK.out _ _ hHeld2 (fun _ => ?_)
 clear hK K hHeld hB5
 have hHeld := hHeld2
 clear hHeld2
 (try simp only [Act.put, List.setIfInBounds_toArray, List.set_cons_zero, List.set_cons_succ])
 refine wpAnyH_take (i := 8) (v := ?_) (List.getElem?_toArray.trans rfl) (by kernel_rfl) (by kernel_rfl) (by kernel_rfl) (fun _ _ _ h => h) (Or.inl ⟨by rfl, ?_⟩) hHeld ?_
 rotate_left
 · intro wx hSw
   (try dsimp only at hSw)
   obtain ⟨_, e0, e1, e2, e3⟩ := hSw
   go_simp
   (try with_reducible rfl)
 (try simp only [Act.put, List.setIfInBounds_toArray, List.set_cons_zero, List.set_cons_succ])
 refine wpAnyH_take (i := 9) (v := ?_) (List.getElem?_toArray.trans rfl) (by kernel_rfl) (by kernel_rfl) (by kernel_rfl) (fun _ _ _ h => h) (Or.inl ⟨by rfl, ?_⟩) hHeld ?_
 rotate_left
 · intro wx hSw
   (try dsimp only at hSw)
   obtain ⟨_, e0, e1, e2, e3⟩ := hSw
   go_simp
   (try with_reducible rfl)
 (try simp only [Act.put, List.setIfInBounds_toArray, List.set_cons_zero, List.set_cons_succ])
 refine wpAnyH_done (by kernel_rfl) ?_ _
 have HK3 := Lib.hid hHeld.1
 clear hHeld HSX
 all_goals
   clear k0 k1 k2 k3 k4 k5 s0 s1 a0 a1 f0 f1
   have k0 := cell_of_row _ _ 0 _ _ _ HK3.out.tab
   have k1 := cell_of_row _ _ 1 _ _ _ HK3.out.tab
   have k2 := cell_of_row _ _ 2 _ _ _ HK3.out.tab
   have k3 := cell_of_row _ _ 3 _ _ _ HK3.out.tab
   have k4 := cell_of_row _ _ 4 _ _ _ HK3.out.tab
   have k5 := cell_of_row _ _ 5 _ _ _ HK3.out.tab
   have s0 := cell_of_row _ _ 0 _ _ _ HK3.out.sch
   have s1 := cell_of_row _ _ 1 _ _ _ HK3.out.sch
   have a0 := cell_of_row _ _ 0 _ _ _ HK3.out.ans
   have a1 := cell_of_row _ _ 1 _ _ _ HK3.out.ans
   have f0 := frozen_of_row _ _ 0 _ _ HK3.out.ans
   have f1 := frozen_of_row _ _ 1 _ _ HK3.out.ans
   clear HKS HST
   go_wp2_with (first
     | (go_at_call 28; (with_reducible refine (HNA.out _ HK3.out.below).mono ?_); rintro e w5 ⟨rfl, hB5⟩
        have HK5 := Lib.hid (HK3.out.keep hB5)
        clear k0 k1 k2 k3 k4 k5 s0 s1 a0 a1 f0 f1
        have k0 := cell_of_row _ _ 0 _ _ _ HK5.out.tab
        have k1 := cell_of_row _ _ 1 _ _ _ HK5.out.tab
        have k2 := cell_of_row _ _ 2 _ _ _ HK5.out.tab
        have k3 := cell_of_row _ _ 3 _ _ _ HK5.out.tab
        have k4 := cell_of_row _ _ 4 _ _ _ HK5.out.tab
        have k5 := cell_of_row _ _ 5 _ _ _ HK5.out.tab
        have s0 := cell_of_row _ _ 0 _ _ _ HK5.out.sch
        have s1 := cell_of_row _ _ 1 _ _ _ HK5.out.sch
        have a0 := cell_of_row _ _ 0 _ _ _ HK5.out.ans
        have a1 := cell_of_row _ _ 1 _ _ _ HK5.out.ans
        have f0 := frozen_of_row _ _ 0 _ _ HK5.out.ans
        have f1 := frozen_of_row _ _ 1 _ _ HK5.out.ans
        clear hB5)
     | fail)
   have HK5d := Lib.hid (show PutXL w (some ⟨b, off, none⟩) n c ia mx ic ⟨tn, tt, ta, tl, tc, tr, tx, tw⟩ w5.drew from HK5.out.keep ((Below.refl _ _).drew))
   clear k0 k1 k2 k3 k4 k5 s0 s1 a0 a1 f0 f1
   have k0 := cell_of_row w5.drew _ 0 _ _ _ HK5d.out.tab
   have k1 := cell_of_row w5.drew _ 1 _ _ _ HK5d.out.tab
   have k2 := cell_of_row w5.drew _ 2 _ _ _ HK5d.out.tab
   have k3 := cell_of_row w5.drew _ 3 _ _ _ HK5d.out.tab
   have k4 := cell_of_row w5.drew _ 4 _ _ _ HK5d.out.tab
   have k5 := cell_of_row w5.drew _ 5 _ _ _ HK5d.out.tab
   have s0 := cell_of_row w5.drew _ 0 _ _ _ HK5d.out.sch
   have s1 := cell_of_row w5.drew _ 1 _ _ _ HK5d.out.sch
   have a0 := cell_of_row w5.drew _ 0 _ _ _ HK5d.out.ans
   have a1 := cell_of_row w5.drew _ 1 _ _ _ HK5d.out.ans
   have f0 := frozen_of_row w5.drew _ 0 _ _ HK5d.out.ans
   have f1 := frozen_of_row w5.drew _ 1 _ _ HK5d.out.ans
   have j0 : w5.drew.cell? ⟨b, off + kt * 5, none⟩ = some (.string t0n) := HTC.out _ HK5d.out.below 0 _ rfl
   have j1 : w5.drew.cell? ⟨b, off + kt * 5 + 1, none⟩ = some (.slice t0a t0l t0c) := HTC.out _ HK5d.out.below 1 _ rfl
   have j2 : w5.drew.cell? ⟨b, off + kt * 5 + 2, none⟩ = some (.int .i64 t0r) := HTC.out _ HK5d.out.below 2 _ rfl
   have j3 : w5.drew.cell? ⟨b, off + kt * 5 + 3, none⟩ = some (.int .i64 t0x) := HTC.out _ HK5d.out.below 3 _ rfl
   have j4 : w5.drew.cell? ⟨b, off + kt * 5 + 4, none⟩ = some (.int .i64 t0w) := HTC.out _ HK5d.out.below 4 _ rfl
   go_region_law (first
     | (go_simp; go_at_call 22; (with_reducible refine (HPL.out _ HK5d.out.below).mono ?_); rintro e w6 ⟨rfl, hB6⟩
        have HK6 := Lib.hid (HK5d.out.keep hB6)
        clear k0 k1 k2 k3 k4 k5 s0 s1 a0 a1 f0 f1
        have k0 := cell_of_row _ _ 0 _ _ _ HK6.out.tab
        have k1 := cell_of_row _ _ 1 _ _ _ HK6.out.tab
        have k2 := cell_of_row _ _ 2 _ _ _ HK6.out.tab
        have k3 := cell_of_row _ _ 3 _ _ _ HK6.out.tab
        have k4 := cell_of_row _ _ 4 _ _ _ HK6.out.tab
        have k5 := cell_of_row _ _ 5 _ _ _ HK6.out.tab
        have s0 := cell_of_row _ _ 0 _ _ _ HK6.out.sch
        have s1 := cell_of_row _ _ 1 _ _ _ HK6.out.sch
        have a0 := cell_of_row _ _ 0 _ _ _ HK6.out.ans
        have a1 := cell_of_row _ _ 1 _ _ _ HK6.out.ans
        have f0 := frozen_of_row _ _ 0 _ _ HK6.out.ans
        have f1 := frozen_of_row _ _ 1 _ _ HK6.out.ans
        clear hB6 j0 j1 j2 j3 j4)
     | fail)
   all_goals
     go_wp2_with (first
       | (go_at_call 10; (with_reducible refine (HCL.out _ HK6.out.below).mono ?_); rintro e w7 ⟨va, ua, vc, uc, ts', xs', rfl, hB7, hO, hp1, hp2, _, hown, h63⟩
          have HK7 := Lib.hid (HK6.out.keep hB7)
          rw [← HN.out, ← HM.out] at hO
          rw [← HM.out] at hown
          have HOWN := Lib.hid hown
          have HO := Lib.hid hO
          have HS7 := Lib.hid hB7.size
          have HB3 := Lib.hid h63
          have HP1 := Lib.hid hp1
          have HP2 := Lib.hid hp2
          clear k0 k1 k2 k3 k4 k5 s0 s1 a0 a1 f0 f1
          have k0 := cell_of_row _ _ 0 _ _ _ HK7.out.tab
          have k1 := cell_of_row _ _ 1 _ _ _ HK7.out.tab
          have k2 := cell_of_row _ _ 2 _ _ _ HK7.out.tab
          have k3 := cell_of_row _ _ 3 _ _ _ HK7.out.tab
          have k4 := cell_of_row _ _ 4 _ _ _ HK7.out.tab
          have k5 := cell_of_row _ _ 5 _ _ _ HK7.out.tab
          have s0 := cell_of_row _ _ 0 _ _ _ HK7.out.sch
          have s1 := cell_of_row _ _ 1 _ _ _ HK7.out.sch
          have a0 := cell_of_row _ _ 0 _ _ _ HK7.out.ans
          have a1 := cell_of_row _ _ 1 _ _ _ HK7.out.ans
          have f0 := frozen_of_row _ _ 0 _ _ HK7.out.ans
          have f1 := frozen_of_row _ _ 1 _ _ HK7.out.ans
          rw [← HN.out, ← HM.out]
          clear hB7 hown hO hp1 hp2 h63)
       | fail)
     obtain ⟨w8, hw8⟩ : ∃ w8, w8 = w7.alloc (.cells #[.slice va n vc, .slice ua mx uc] 36) := ⟨_, rfl⟩
     have HK8 := Lib.hid (show PutXL w (some ⟨b, off, none⟩) n c ia mx ic ⟨tn, tt, ta, tl, tc, tr, tx, tw⟩ w8 by rw [hw8]; exact HK7.out.keep (below1 w7 _))
     have hW0 : Below w8.heap.size w8 w8.drew := (Below.refl _ _).drew
     have HL1 := Lib.hid (show ts'.length = n ∧ xs'.length = mx by
       have h1 := congrArg List.length HP1.out
       have h2 := congrArg List.length HP2.out
       rw [List.length_map, List.length_map] at h1 h2
       exact ⟨h1.trans HN.out.symm, h2.trans HM.out.symm⟩)
     have HMID := Lib.hid (show MidS w (w.heap.size + 1 + 1) (w6.heap.size + 3) w7.heap.size (.slice va n vc) (.slice ua mx uc) ts' xs' w8.drew from by
       rw [hw8]
       have h6 := heap_lt HK6.out.ans
       have h7 := HS7.out
       have h9 := heap_lt HK7.out.ans
       have hb0 := HO.out w7.heap.size (Nat.le_refl _)
       refine ⟨HK7.out.below.trans (((below1 w7 _).drew).mono HK7.out.below.size), ?_, ?_, hb0.keep ((below1 w7 _).drew), by omega, by omega, ?_⟩
       · exact ((below1 w7 _).block _ h9).trans HK7.out.ans
       · exact heap_alloc_new w7 _
       · exact HB3.out)
     have HY := Lib.hid (show w8.drew.heap.size = w7.heap.size + 1 by rw [hw8]; exact World.size_alloc _ _)
     have o0 : w8.drew.cell? ⟨w7.heap.size, 1, none⟩ = some (.slice ua mx uc) := by rw [hw8]; exact cell_of_row _ _ 1 _ _ _ (heap_alloc_new w7 _)
     have j0 : w8.drew.cell? ⟨w.heap.size + 1, 0, none⟩ = some (.string tn) := cell_of_row w8.drew _ 0 _ _ _ HK8.out.tab
     have j1 : w8.drew.cell? ⟨w.heap.size + 1, 1, none⟩ = some (.string tt) := cell_of_row w8.drew _ 1 _ _ _ HK8.out.tab
     have j2 : w8.drew.cell? ⟨w.heap.size + 1, 2, none⟩ = some (.slice ta tl tc) := cell_of_row w8.drew _ 2 _ _ _ HK8.out.tab
     have j3 : w8.drew.cell? ⟨w.heap.size + 1, 3, none⟩ = some (.int .i64 tr) := cell_of_row w8.drew _ 3 _ _ _ HK8.out.tab
     have j4 : w8.drew.cell? ⟨w.heap.size + 1, 4, none⟩ = some (.int .i64 tx) := cell_of_row w8.drew _ 4 _ _ _ HK8.out.tab
     have j5 : w8.drew.cell? ⟨w.heap.size + 1, 5, none⟩ = some (.int .i64 tw) := cell_of_row w8.drew _ 5 _ _ _ HK8.out.tab
     obtain ⟨g, rfl⟩ : ∃ g, ua = some ⟨g, 0, none⟩ := by
       rcases HOWN.out.2 with ⟨_, h0⟩ | ⟨g, cap, cur, e, _⟩
       · have := HKL.out; omega
       · cases e
         exact ⟨g, rfl⟩
     have HRW := Lib.hid (show RowX w8.drew g (xs'.map Prod.fst) ∧ mx ≤ uc ∧ w6.heap.size + 3 ≤ g from by
       have h0 := HMID.out.own.idx
       rw [HL1.out.2] at h0
       exact h0.row_x)
     have hkx : ∃ t1 l1, xs'[k]? = some (t1, l1) := ⟨_, _, List.getElem?_eq_getElem (by rw [HL1.out.2]; exact HKL.out)⟩
     obtain ⟨t1, l1, hk0⟩ := hkx
     have HK0 := Lib.hid hk0
     have HZ := Lib.hid (show ∀ (w9 : World) (yn yt : ByteArray) (ya : Option Addr) (yl yc : Nat) (yr yx yw : Int), Below w8.drew.heap.size w8.drew w9 → IdxCopy w8.drew ⟨tn, tt, ta, tl, tc, tr, tx, tw⟩ cl ⟨yn, yt, ya, yl, yc, yr, yx, yw⟩ w9 → MidS w (w.heap.size + 1 + 1) (w6.heap.size + 3) w7.heap.size (.slice va n vc) (.slice (some ⟨g, 0, none⟩) mx uc) ts' (xs'.set k (⟨yn, yt, ya, yl, yc, yr, yx, yw⟩, cl)) (setIdx w9 g (k * 6) ⟨yn, yt, ya, yl, yc, yr, yx, yw⟩) ∧ RowX w9 g (xs'.map Prod.fst) from fun w9 yn yt ya yl yc yr yx yw h1 h2 => by
       have hM9 := HMID.out.keep h1
       have hnew := OwnIdx.of_copy0 h1 h2 HCLL.out HMID.out (by rw [HY.out]; exact Nat.lt_succ_self _)
       have hr9 := HRW.out.1.keep h1
       refine ⟨hM9.idxs (setIdx_grown w9 g (k * 6) _) ?_ (fun p hp => ?_), hr9⟩
       · rw [List.length_set, HL1.out.2, List.map_set]
         exact (hr9.set (by rw [List.length_map, HL1.out.2]; exact HKL.out) _).at HRW.out.2.2 HRW.out.2.1
       · rcases List.mem_or_eq_of_mem_set hp with hp | hp
         · exact hM9.own.places p hp
         · rw [hp]; exact hnew)
     have o1 : w8.drew.cell? ⟨w7.heap.size, 0, none⟩ = some (.slice va n vc) := by rw [hw8]; exact cell_of_row _ _ 0 _ _ _ (heap_alloc_new w7 _)
     have r11 : ((k : Int) < (mx : Int)) = True := eq_true (by have := HKL.out; omega)
     have r12 := HKL.out
     rw [← hw8]
     clear hw8 k0 k1 k2 k3 k4 k5 s0 s1 a0 a1 f0 f1 hk0
     go_region_law (first
       | (go_simp; go_at_call 37; (with_reducible refine (HCT.out _ (HK8.out.below.trans (hW0.mono HK8.out.below.size))).mono ?_); rintro e w9 ⟨yn, yt, ya, yl, yc, yr, yx, yw, rfl, hB9, hP⟩
          have HP := Lib.hid hP
          have o9 : w9.cell? ⟨w7.heap.size, 1, none⟩ = some (.slice (some ⟨g, 0, none⟩) mx uc) := cell_kept o0 hB9
          have HMM := Lib.hid (HZ.out _ _ _ _ _ _ _ _ _ hB9 hP)
          have z0 := HMM.out.2.free (k * 6)
          have z1 := HMM.out.2.free (k * 6 + 1)
          have z2 := HMM.out.2.free (k * 6 + 2)
          have z3 := HMM.out.2.free (k * 6 + 3)
          have z4 := HMM.out.2.free (k * 6 + 4)
          have z5 := HMM.out.2.free (k * 6 + 5)
          have hk1 : (xs'.map Prod.fst)[k]? = some t1 := by rw [List.getElem?_map, HK0.out]; rfl
          have y0 : w9.cell? ⟨g, k * 6, none⟩ = some (.string t1.name) := HMM.out.2.cell hk1 (i := 0) rfl
          have y1 : w9.cell? ⟨g, k * 6 + 1, none⟩ = some (.string t1.table) := HMM.out.2.cell hk1 (i := 1) rfl
          have y2 : w9.cell? ⟨g, k * 6 + 2, none⟩ = some (.slice t1.pa t1.pn t1.pc) := HMM.out.2.cell hk1 (i := 2) rfl
          have y3 : w9.cell? ⟨g, k * 6 + 3, none⟩ = some (.int .i64 t1.state) := HMM.out.2.cell hk1 (i := 3) rfl
          have y4 : w9.cell? ⟨g, k * 6 + 4, none⟩ = some (.int .i64 t1.root) := HMM.out.2.cell hk1 (i := 4) rfl
          have y5 : w9.cell? ⟨g, k * 6 + 5, none⟩ = some (.int .i64 t1.cursor) := HMM.out.2.cell hk1 (i := 5) rfl
          have m0 := cell_of_row _ _ 0 _ _ _ HMM.out.1.out
          have m1 := cell_of_row _ _ 1 _ _ _ HMM.out.1.out
          have q0 := cell_of_row _ _ 0 _ _ _ HMM.out.1.ans
          have q1 := cell_of_row _ _ 1 _ _ _ HMM.out.1.ans
          have f0 := frozen_of_row _ _ 0 _ _ HMM.out.1.ans
          have f1 := frozen_of_row _ _ 1 _ _ HMM.out.1.ans
          dsimp only [setIdx] at m0 m1 q0 q1 f0 f1
          clear hB9 hP hk1)
       | fail)
     all_goals
       go_wp2_with fail
       refine bodyPost_ret (v := .tuple #[.agg #[.slice va n vc, .slice (some ⟨g, 0, none⟩) mx uc], .int .i64 0]) (by simp [results, Tryz.results30, go_sem, q0, q1]) rfl ?_
       have hfin := HMM.out.1.done HL1.out.1.symm (by rw [List.length_set]; exact HL1.out.2.symm) (.slice va n vc) (.slice (some ⟨g, 0, none⟩) mx uc)
       rw [List.map_set, HP1.out, HP2.out, ← HXX.out, ← HT.out] at hfin
       have hy : pxOf ((⟨yn, yt, ya, yl, yc, yr, yx, yw⟩ : Idx), cl) = pxOf ((⟨tn, tt, ta, tl, tc, tr, tx, tw⟩ : Idx), cl) := by
         obtain ⟨e1, e2, e3, e4, e5, _⟩ := HP.out
         unfold pxOf
         dsimp only at e1 e2 e3 e4 e5 ⊢
         rw [e1, e2, e3, e4, e5]
       rw [hy] at hfin
       exact hfin
end Go.Proofs.YtcgpflkaejbkhaaGreatDoor
