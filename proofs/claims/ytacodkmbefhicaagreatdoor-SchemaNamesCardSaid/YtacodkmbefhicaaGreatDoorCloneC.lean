/- The walk of Clone at a schema without indexes. -/
import Derived.Test.YtacodkmbefhicaaGreatDoorCloneB
import Derived.Deep.RegionLaw
import Derived.Deep.RegionHeld3
namespace Go.Proofs.YtacodkmbefhicaaGreatDoor
open Go.RowKit

/-- what Clone answers: copies of the tables, in a row of the call's own -/
def CloneP (w : World) (ts : List (Tab × List Col)) (e : Ending) (w' : World) : Prop := ∃ (v : Value) (outs : List Tab), e = .returned (.agg #[v, .slice none 0 0]) ∧ Below w.heap.size w w' ∧ w'.ownsRow (w.heap.size + 3) 35 5 v ts.length (outs.map tabL).flatten ∧ outs.length = ts.length ∧ w.heap.size + 3 ≤ w'.heap.size ∧ ∀ (j : Nat) (t : Tab) (l : List Col), ts[j]? = some (t, l) → ∀ t', outs[j]? = some t' → CopyAt (w.heap.size + 3) v t l t' w'
set_option maxRecDepth 100000 in
set_option maxHeartbeats 16000000 in
theorem clone_any (A : Option Addr) (c : Nat) (ts : List (Tab × List Col)) (ia : Option Addr) (ic : Nat) (w : World) (h : DeepAt w A ts) (hn : ts.length ≤ 1000) (hl : ∀ p ∈ ts, p.2.length ≤ 1000) : Calls Tryz.prog 12 #[.agg #[.slice A ts.length c, .slice ia 0 ic]] w (CloneP w ts) := by
  obtain ⟨n, hnn⟩ : ∃ n, n = ts.length := ⟨_, rfl⟩
  have HN := Lib.hid hnn
  have HD := Lib.hid h
  have HL := Lib.hid hl
  rw [← hnn] at hn ⊢
  have HST := Lib.hid (show ClInv w A n c ia ic ts (((w.alloc (.cells #[.slice A n c, .slice ia 0 ic] 30)).alloc (.cells #[.slice none 0 0, .slice none 0 0] 30)).alloc (.cells #[.slice none 0 0, .slice none 0 0] 30)) 0 none 0 [] from by
    refine ⟨((below1 w _).alloc (by simp) _).alloc (by simp; omega) _, ?_, ?_, ?_, World.ownsRow_nil _ _ _ _, rfl, fun j t l _ t' ht => by simp at ht⟩
    · rw [heap_alloc_old _ _ (by simp; omega), heap_alloc_old _ _ (by simp)]; exact heap_alloc_new w _
    · rw [heap_alloc_old _ _ (by simp)]
      have := heap_alloc_new (w.alloc (.cells #[.slice A n c, .slice ia 0 ic] 30)) (.cells #[.slice none 0 0, .slice none 0 0] 30)
      rwa [World.size_alloc] at this
    · have := heap_alloc_new ((w.alloc (.cells #[.slice A n c, .slice ia 0 ic] 30)).alloc (.cells #[.slice none 0 0, .slice none 0 0] 30)) (.cells #[.slice none 0 0, .slice none 0 0] 30)
      rwa [World.size_alloc, World.size_alloc] at this)
  clear h hnn hl
  go_enter Tryz.func12, Tryz.ntmps12
  go_wp2_with fail
  go_loopw [11] (fun i wr => ∃ k va vc outs, k ≤ n ∧ i = .int .i64 (k : Nat) ∧ Hid (ClInv w A n c ia ic ts wr k va vc outs)) (fun i _ => n - (intOf i).toNat)
  case atStart => exact ⟨0, none, 0, [], Nat.zero_le _, rfl, HST⟩
  case round =>
    obtain ⟨k, va, vc, outs, hk, rfl, HI⟩ := hrel
    obtain ⟨wo, rfl⟩ : ∃ wo : World, wo = wr := ⟨_, rfl⟩
    have ha0 := cell_of_row _ _ 0 _ _ _ HI.out.arg
    have ha1 := cell_of_row _ _ 1 _ _ _ HI.out.arg
    by_cases hlt : k < n
    · obtain ⟨⟨t, l⟩, hx⟩ : ∃ x, ts[k]? = some x := ⟨_, List.getElem?_eq_getElem (by have := HN.out; omega)⟩
      have HX := Lib.hid hx
      obtain ⟨hcol, hcn, hcc, hnone⟩ := HD.out.2 (t, l) (List.mem_of_getElem? hx)
      have hl := HL.out (t, l) (List.mem_of_getElem? hx)
      dsimp only at hcol hcn hcc hnone hl
      obtain ⟨tn, ta, tl, tc, tr, tx, tw⟩ := t
      obtain rfl : tl = l.length := hcn
      obtain ⟨b, off, rfl, hbl, hcells⟩ : ∃ b off, A = some ⟨b, off, none⟩ ∧ b < w.heap.size ∧ ∀ (i : Nat) (u : Value), (tabL ⟨tn, ta, l.length, tc, tr, tx, tw⟩)[i]? = some u → w.cell? ⟨b, off + k * 5 + i, none⟩ = some u := by
        rcases HD.out.1.2 with h0' | ⟨b, off, h1, h2, h3⟩
        · exfalso
          have := List.map_eq_nil_iff.1 (List.map_eq_nil_iff.1 h0')
          subst this
          simp at hx
        · exact ⟨b, off, h1, h2, (h3 k _ (by rw [List.getElem?_map, List.getElem?_map, hx]; rfl)).2⟩
      have hkk : ∀ (i : Nat) (u : Value), [Value.string tn, .slice ta l.length tc, .int .i64 tr, .int .i64 tx, .int .i64 tw][i]? = some u → wo.cell? ⟨b, off + k * 5 + i, none⟩ = some u := fun i u hi => (HI.out.below.cell (p := ⟨b, off + k * 5 + i, none⟩) hbl).trans (hcells i u hi)
      have k0 : wo.cell? ⟨b, off + k * 5, none⟩ = some (.string tn) := hkk 0 _ rfl
      have k1 : wo.cell? ⟨b, off + k * 5 + 1, none⟩ = some (.slice ta l.length tc) := hkk 1 _ rfl
      have k2 : wo.cell? ⟨b, off + k * 5 + 2, none⟩ = some (.int .i64 tr) := hkk 2 _ rfl
      have k3 : wo.cell? ⟨b, off + k * 5 + 3, none⟩ = some (.int .i64 tx) := hkk 3 _ rfl
      have k4 : wo.cell? ⟨b, off + k * 5 + 4, none⟩ = some (.int .i64 tw) := hkk 4 _ rfl
      obtain ⟨w4, hw4⟩ : ∃ w4, w4 = wo.alloc (.cells #[.string tn, .slice ta l.length tc, .int .i64 tr, .int .i64 tx, .int .i64 tw] 35) := ⟨_, rfl⟩
      have hB4 : Below wo.heap.size wo w4 := by rw [hw4]; exact below1 wo _
      have HI4 := Lib.hid (HI.out.keep hB4)
      have HB4 := Lib.hid hB4
      have HCO := Lib.hid (CellsAt.keep (HI.out.below.trans (hB4.mono HI.out.below.size)) hcol)
      have HQ4 := Lib.hid (show w4.heap[wo.heap.size]? = some (.cells #[.string tn, .slice ta l.length tc, .int .i64 tr, .int .i64 tx, .int .i64 tw] 35) by rw [hw4]; exact heap_alloc_new wo _)
      have HCL := Lib.hid (show ∀ W, Below w4.heap.size w4 W → Calls Tryz.prog 13 #[.agg #[.string tn, .slice ta l.length tc, .int .i64 tr, .int .i64 tx, .int .i64 tw]] W fun e w' => ∃ (yn : ByteArray) (ya : Option Addr) (yl yc : Nat) (yr yx yw : Int), e = .returned (.agg #[.string yn, .slice ya yl yc, .int .i64 yr, .int .i64 yx, .int .i64 yw]) ∧ Below W.heap.size W w' ∧ TabCopy W ⟨tn, ta, l.length, tc, tr, tx, tw⟩ l ⟨yn, ya, yl, yc, yr, yx, yw⟩ w' from fun W hW =>
        (clone_tab ⟨tn, ta, l.length, tc, tr, tx, tw⟩ l W (CellsAt.keep hW HCO.out) rfl (fun h => by have h2 : tc = 0 := hnone h; have h3 : l.length ≤ tc := hcc; exact ⟨List.length_eq_zero_iff.1 (by omega), h2⟩) (by omega)).mono (fun e w' ⟨⟨yn, ya, yl, yc, yr, yx, yw⟩, h1, h2, h3⟩ => ⟨yn, ya, yl, yc, yr, yx, yw, h1, h2, h3⟩))
      have HNEW := Lib.hid (show ∀ (w5 : World) (yn : ByteArray) (ya : Option Addr) (yl yc : Nat) (yr yx yw : Int), TabCopy w4.drew ⟨tn, ta, l.length, tc, tr, tx, tw⟩ l ⟨yn, ya, yl, yc, yr, yx, yw⟩ w5 → ∀ (t : Tab) (l : List Col), ts[k]? = some (t, l) → CopyAt (w.heap.size + 3) (.slice va k vc) t l ⟨yn, ya, yl, yc, yr, yx, yw⟩ w5 from fun w5 yn ya yl yc yr yx yw h t l2 hj => by
        rw [HX.out] at hj
        obtain ⟨rfl, rfl⟩ := Prod.mk.inj (Option.some.inj hj)
        obtain ⟨h1, h2, h3, h4, h5, h6, h7, h8, h9⟩ := h
        refine ⟨h1, h2, h3, h4, h5, h6, h7, fun a ha => ?_, h9⟩
        have hz := h8 a ha
        have hlt := heap_lt HI4.out.out
        have hd : w4.drew.heap.size = w4.heap.size := rfl
        refine ⟨by omega, hz.2, fun e => ?_⟩
        have := (HI4.out.own.lt _ e).2
        omega)
      have hW0 : Below w4.heap.size w4 w4.drew := (Below.refl _ _).drew
      have z0 : w4.drew.cell? ⟨w.heap.size + 1 + 1, 0, none⟩ = some (.slice va k vc) := cell_of_row w4.drew _ 0 _ _ _ HI4.out.out
      have j0 : w4.drew.cell? ⟨wo.heap.size, 0, none⟩ = some (.string tn) := cell_of_row w4.drew _ 0 _ _ _ HQ4.out
      have j1 : w4.drew.cell? ⟨wo.heap.size, 1, none⟩ = some (.slice ta l.length tc) := cell_of_row w4.drew _ 1 _ _ _ HQ4.out
      have j2 : w4.drew.cell? ⟨wo.heap.size, 2, none⟩ = some (.int .i64 tr) := cell_of_row w4.drew _ 2 _ _ _ HQ4.out
      have j3 : w4.drew.cell? ⟨wo.heap.size, 3, none⟩ = some (.int .i64 tx) := cell_of_row w4.drew _ 3 _ _ _ HQ4.out
      have j4 : w4.drew.cell? ⟨wo.heap.size, 4, none⟩ = some (.int .i64 tw) := cell_of_row w4.drew _ 4 _ _ _ HQ4.out
      clear hx hcells hkk hB4 hcol hnone
      go_wp2_with fail
      rw [← hw4]
      clear hw4 k0 k1 k2 k3 k4
      go_region_law (first
        | (go_simp; go_at_call 13; (with_reducible refine (HCL.out _ hW0).mono ?_); rintro e w5 ⟨yn, ya, yl, yc, yr, yx, yw, rfl, hB5, hP⟩
           have HB5 := Lib.hid hB5
           have HP := Lib.hid hP
           have HI5 := Lib.hid (HI4.out.keep (hW0.trans (hB5.mono hW0.size)))
           have z5 : w5.cell? ⟨w.heap.size + 1 + 1, 0, none⟩ = some (.slice va k vc) := cell_of_row w5 _ 0 _ _ _ HI5.out.out
           have z5b : ∀ O, (w5.alloc O).cell? ⟨w.heap.size + 1 + 1, 0, none⟩ = some (.slice va k vc) := fun O => cell_kept z5 (below1 w5 O)
           clear hB5 hP)
        | (refine step_tab _ (by rfl) (.tmp 16) (.tmp 19) (by rfl) (w.heap.size + 3) (.slice va k vc) k (outs.map tabL).flatten (by rfl) (own_kept HI5.out.own (below1 w5 _) (Nat.le_refl _)) w5.heap.size 1 ⟨yn, ya, yl, yc, yr, yx, yw⟩ (by rfl) (heap_alloc_new w5 _) (by omega) (by have := heap_lt HI5.out.out; simp; omega) ?_
           intro v6 w6 hown hgr hat
           obtain ⟨g, cap, rfl⟩ := own_slice hown
           have HM := Lib.hid (HI5.out.more hown hgr hat (HNEW.out _ _ _ _ _ _ _ _ HP.out))
           have z6 := cell_of_row _ _ 0 _ _ _ HM.out.2
           have g6 := frozen_of_row _ _ 0 _ _ HM.out.2
           clear hown hgr hat)
        | fail)
      all_goals
        go_wp2_with fail
        go_roundw
        case rel => exact ⟨k + 1, _, _, _, by omega, by go_num, Lib.hid HM.out.1⟩
        case measure => simp [intOf] <;> omega
    · obtain rfl : k = n := by omega
      have o0 : wo.cell? ⟨w.heap.size + 1 + 1, 0, none⟩ = some (.slice va k vc) := cell_of_row _ _ 0 _ _ _ HI.out.out
      have o1 : wo.cell? ⟨w.heap.size + 1 + 1, 1, none⟩ = some (.slice none 0 0) := cell_of_row _ _ 1 _ _ _ HI.out.out
      have q0 := cell_of_row _ _ 0 _ _ _ HI.out.ans
      have q1 := cell_of_row _ _ 1 _ _ _ HI.out.ans
      have f0 := frozen_of_row _ _ 0 _ _ HI.out.ans
      have f1 := frozen_of_row _ _ 1 _ _ HI.out.ans
      go_wp2_with fail
      go_loop [26] (fun i => i = .int .i64 0) (fun _ => 0)
      case atStart => rfl
      case round =>
        subst hrel
        go_wp2_with fail
        refine bodyPost_ret (v := .agg #[.slice va k vc, .slice none 0 0]) (by simp [results, Tryz.results12, go_sem, q0, q1]) rfl ?_
        obtain ⟨d1, d2, d3, d4⟩ := HI.out.done (.slice va k vc) (.slice none 0 0)
        exact ⟨_, outs, rfl, d1, by rw [← HN.out]; exact d2, by rw [← HN.out]; exact d3, by have := heap_lt HI.out.out; simp only [World.setCell, Array.size_modify]; omega, d4⟩
end Go.Proofs.YtacodkmbefhicaaGreatDoor
