/- The walk of Clone at any schema. -/
import Derived.Test.YtcgpflkaejbkhaaGreatDoorJR
import Derived.Deep.RegionLaw
import Derived.Deep.RegionHeld3
namespace Go.Proofs.YtcgpflkaejbkhaaGreatDoor
open Go.RowKit

theorem ClInd.fin {w : World} {A : Option Addr} {n c : Nat} {ia : Option Addr} {il ic : Nat} {ts : List (Tab × List Col)} {wo wi : World} {va : Option Addr} {vc : Nat} {outs : List Tab} {xs : List (Idx × List Int)} {m : Nat} {ua : Option Addr} {uc : Nat} {outx : List Idx}
    (hI : ClInv w A n c ia il ic ts wo n va vc outs) (hC : ClInd w wo va n vc xs wi m ua uc outx) (x y : Value) :
    Below w.heap.size w ((wi.setCell ⟨w.heap.size + 1, 0, none⟩ x).setCell ⟨w.heap.size + 1, 1, none⟩ y) ∧ w.heap.size + 3 ≤ wo.heap.size ∧ wo.heap.size ≤ ((wi.setCell ⟨w.heap.size + 1, 0, none⟩ x).setCell ⟨w.heap.size + 1, 1, none⟩ y).heap.size ∧
    ((wi.setCell ⟨w.heap.size + 1, 0, none⟩ x).setCell ⟨w.heap.size + 1, 1, none⟩ y).ownsRow (w.heap.size + 3) 25 5 (.slice va n vc) n (outs.map tabL).flatten ∧ (∀ b, (Value.slice va n vc).ownBlock = some b → b < wo.heap.size) ∧
    (∀ (j : Nat) (t : Tab) (l : List Col), ts[j]? = some (t, l) → ∀ t', outs[j]? = some t' → CopyAt (w.heap.size + 3) (.slice va n vc) t l t' ((wi.setCell ⟨w.heap.size + 1, 0, none⟩ x).setCell ⟨w.heap.size + 1, 1, none⟩ y) ∧ ∀ a, t'.ca = some a → a.block < wo.heap.size) ∧
    ((wi.setCell ⟨w.heap.size + 1, 0, none⟩ x).setCell ⟨w.heap.size + 1, 1, none⟩ y).ownsRow wo.heap.size 28 6 (.slice ua m uc) m (outx.map idxL).flatten ∧
    (∀ (j : Nat) (t : Idx) (l : List Int), xs[j]? = some (t, l) → ∀ t', outx[j]? = some t' → ICopyAt wo.heap.size (.slice ua m uc) t l t' ((wi.setCell ⟨w.heap.size + 1, 0, none⟩ x).setCell ⟨w.heap.size + 1, 1, none⟩ y)) := by
  have hlow := hC.low
  have hs := hC.grown.size
  have hBW : Below w.heap.size w wi := hI.below.grown hC.grown hI.below.size (fun b hb => by cases hb; omega)
  refine ⟨(hBW.setCell (p := ⟨w.heap.size + 1, 0, none⟩) (Nat.le_succ _) _).setCell (p := ⟨w.heap.size + 1, 1, none⟩) (Nat.le_succ _) _, by omega, by simp only [World.setCell, Array.size_modify]; exact hs, ?_, fun b hb => (hI.own.lt b hb).2, fun j t l hj t' ht => ?_, ?_, fun j t l hj t' ht => ?_⟩
  · refine own_set (own_set (World.ownsRow.kept hI.own hC.grown (Or.inr (fun e => ?_))) _ _ _ (by omega)) _ _ _ (by omega)
    have := (hI.own.lt _ e).1
    omega
  · obtain ⟨h1, h2, h3, h4, h5, h6, h7, h8, h9⟩ := hI.copy j t l hj t' ht
    refine ⟨CopyAt.setCell (CopyAt.setCell ⟨h1, h2, h3, h4, h5, h6, h7.grown hC.grown (fun a ha e => by have := (h8 a ha).1; have := Option.some.inj e; omega), fun a ha => ⟨(h8 a ha).1, Nat.lt_of_lt_of_le (h8 a ha).2.1 hs, (h8 a ha).2.2⟩, h9⟩ _ _ _ (by omega)) _ _ _ (by omega), fun a ha => (h8 a ha).2.1⟩
  · exact own_set (own_set hC.own _ _ _ (by omega)) _ _ _ (by omega)
  · exact ICopyAt.setCell (ICopyAt.setCell (hC.copy j t l hj t' ht) _ _ _ (by omega)) _ _ _ (by omega)
/-- what Clone answers: copies of the tables and of the indexes, in rows of the call's own -/
def ClonePI (w : World) (ts : List (Tab × List Col)) (xs : List (Idx × List Int)) (e : Ending) (w' : World) : Prop := ∃ (va ua : Option Addr) (vc uc : Nat) (outs : List Tab) (outx : List Idx) (B : Nat), e = .returned (.agg #[.slice va ts.length vc, .slice ua xs.length uc]) ∧ Below w.heap.size w w' ∧ w.heap.size + 3 ≤ B ∧ B ≤ w'.heap.size ∧
  w'.ownsRow (w.heap.size + 3) 25 5 (.slice va ts.length vc) ts.length (outs.map tabL).flatten ∧ outs.length = ts.length ∧ (∀ b, (Value.slice va ts.length vc).ownBlock = some b → b < B) ∧ (∀ (j : Nat) (t : Tab) (l : List Col), ts[j]? = some (t, l) → ∀ t', outs[j]? = some t' → CopyAt (w.heap.size + 3) (.slice va ts.length vc) t l t' w' ∧ ∀ a, t'.ca = some a → a.block < B) ∧
  w'.ownsRow B 28 6 (.slice ua xs.length uc) xs.length (outx.map idxL).flatten ∧ outx.length = xs.length ∧ (∀ (j : Nat) (t : Idx) (l : List Int), xs[j]? = some (t, l) → ∀ t', outx[j]? = some t' → ICopyAt B (.slice ua xs.length uc) t l t' w')
set_option maxRecDepth 100000 in
set_option maxHeartbeats 16000000 in
theorem clones_any (A : Option Addr) (c : Nat) (ts : List (Tab × List Col)) (ia : Option Addr) (ic : Nat) (xs : List (Idx × List Int)) (w : World) (h : DeepAt w A ts) (hx0 : DeepIx w ia xs) (hn : ts.length ≤ 1000) (hm : xs.length ≤ 1000) (hl : ∀ p ∈ ts, p.2.length ≤ 1000) (hlx : ∀ p ∈ xs, p.2.length ≤ 1000) : Calls Tryz.prog 10 #[.agg #[.slice A ts.length c, .slice ia xs.length ic]] w (ClonePI w ts xs) := by
  obtain ⟨n, hnn⟩ : ∃ n, n = ts.length := ⟨_, rfl⟩
  have HN := Lib.hid hnn
  have HD := Lib.hid h
  have HL := Lib.hid hl
  have HLX := Lib.hid hlx
  have HDX := Lib.hid hx0
  obtain ⟨m, hmm⟩ : ∃ m, m = xs.length := ⟨_, rfl⟩
  have HM := Lib.hid hmm
  rw [← hnn] at hn ⊢
  rw [← hmm] at hm ⊢
  have HST := Lib.hid (show ClInv w A n c ia m ic ts (((w.alloc (.cells #[.slice A n c, .slice ia m ic] 36)).alloc (.cells #[.slice none 0 0, .slice none 0 0] 36)).alloc (.cells #[.slice none 0 0, .slice none 0 0] 36)) 0 none 0 [] from by
    refine ⟨((below1 w _).alloc (by simp) _).alloc (by simp; omega) _, ?_, ?_, ?_, World.ownsRow_nil _ _ _ _, rfl, fun j t l _ t' ht => by simp at ht⟩
    · rw [heap_alloc_old _ _ (by simp; omega), heap_alloc_old _ _ (by simp)]; exact heap_alloc_new w _
    · rw [heap_alloc_old _ _ (by simp)]
      have := heap_alloc_new (w.alloc (.cells #[.slice A n c, .slice ia m ic] 36)) (.cells #[.slice none 0 0, .slice none 0 0] 36)
      rwa [World.size_alloc] at this
    · have := heap_alloc_new ((w.alloc (.cells #[.slice A n c, .slice ia m ic] 36)).alloc (.cells #[.slice none 0 0, .slice none 0 0] 36)) (.cells #[.slice none 0 0, .slice none 0 0] 36)
      rwa [World.size_alloc, World.size_alloc] at this)
  clear h hx0 hnn hmm hl hlx
  go_enter Tryz.func10, Tryz.ntmps10
  go_wp2_with fail
  go_loopw [11] (fun i wr => ∃ k va vc outs, k ≤ n ∧ i = .int .i64 (k : Nat) ∧ Hid (ClInv w A n c ia m ic ts wr k va vc outs)) (fun i _ => n - (intOf i).toNat)
  case atStart => exact ⟨0, none, 0, [], Nat.zero_le _, rfl, HST⟩
  case round =>
    obtain ⟨k, va, vc, outs, hk, rfl, HI⟩ := hrel
    obtain ⟨wo, rfl⟩ : ∃ wo : World, wo = wr := ⟨_, rfl⟩
    have ha0 := cell_of_row _ _ 0 _ _ _ HI.out.arg
    have ha1 := cell_of_row _ _ 1 _ _ _ HI.out.arg
    by_cases hlt : k < n
    · obtain ⟨⟨t, l⟩, hx⟩ : ∃ x, ts[k]? = some x := ⟨_, List.getElem?_eq_getElem (by have := HN.out; omega)⟩
      have HX := Lib.hid hx
      obtain ⟨hcol, hcn, hcc, hnone⟩ := HD.out.2 (t, l) (List.mem_of_getElem? hx)
      have hl := HL.out (t, l) (List.mem_of_getElem? hx)
      dsimp only at hcol hcn hcc hnone hl
      obtain ⟨tn, ta, tl, tc, tr, tx, tw⟩ := t
      obtain rfl : tl = l.length := hcn
      obtain ⟨b, off, rfl, hbl, hcells⟩ : ∃ b off, A = some ⟨b, off, none⟩ ∧ b < w.heap.size ∧ ∀ (i : Nat) (u : Value), (tabL ⟨tn, ta, l.length, tc, tr, tx, tw⟩)[i]? = some u → w.cell? ⟨b, off + k * 5 + i, none⟩ = some u := by
        rcases HD.out.1.2 with h0' | ⟨b, off, h1, h2, h3⟩
        · exfalso
          have := List.map_eq_nil_iff.1 (List.map_eq_nil_iff.1 h0')
          subst this
          simp at hx
        · exact ⟨b, off, h1, h2, (h3 k _ (by rw [List.getElem?_map, List.getElem?_map, hx]; rfl)).2⟩
      have hkk : ∀ (i : Nat) (u : Value), [Value.string tn, .slice ta l.length tc, .int .i64 tr, .int .i64 tx, .int .i64 tw][i]? = some u → wo.cell? ⟨b, off + k * 5 + i, none⟩ = some u := fun i u hi => (HI.out.below.cell (p := ⟨b, off + k * 5 + i, none⟩) hbl).trans (hcells i u hi)
      have k0 : wo.cell? ⟨b, off + k * 5, none⟩ = some (.string tn) := hkk 0 _ rfl
      have k1 : wo.cell? ⟨b, off + k * 5 + 1, none⟩ = some (.slice ta l.length tc) := hkk 1 _ rfl
      have k2 : wo.cell? ⟨b, off + k * 5 + 2, none⟩ = some (.int .i64 tr) := hkk 2 _ rfl
      have k3 : wo.cell? ⟨b, off + k * 5 + 3, none⟩ = some (.int .i64 tx) := hkk 3 _ rfl
      have k4 : wo.cell? ⟨b, off + k * 5 + 4, none⟩ = some (.int .i64 tw) := hkk 4 _ rfl
      obtain ⟨w4, hw4⟩ : ∃ w4, w4 = wo.alloc (.cells #[.string tn, .slice ta l.length tc, .int .i64 tr, .int .i64 tx, .int .i64 tw] 25) := ⟨_, rfl⟩
      have hB4 : Below wo.heap.size wo w4 := by rw [hw4]; exact below1 wo _
      have HI4 := Lib.hid (HI.out.keep hB4)
      have HB4 := Lib.hid hB4
      have HCO := Lib.hid (CellsAt.keep (HI.out.below.trans (hB4.mono HI.out.below.size)) hcol)
      have HQ4 := Lib.hid (show w4.heap[wo.heap.size]? = some (.cells #[.string tn, .slice ta l.length tc, .int .i64 tr, .int .i64 tx, .int .i64 tw] 25) by rw [hw4]; exact heap_alloc_new wo _)
      have HCL := Lib.hid (show ∀ W, Below w4.heap.size w4 W → Calls Tryz.prog 36 #[.agg #[.string tn, .slice ta l.length tc, .int .i64 tr, .int .i64 tx, .int .i64 tw]] W fun e w' => ∃ (yn : ByteArray) (ya : Option Addr) (yl yc : Nat) (yr yx yw : Int), e = .returned (.agg #[.string yn, .slice ya yl yc, .int .i64 yr, .int .i64 yx, .int .i64 yw]) ∧ Below W.heap.size W w' ∧ TabCopy W ⟨tn, ta, l.length, tc, tr, tx, tw⟩ l ⟨yn, ya, yl, yc, yr, yx, yw⟩ w' from fun W hW =>
        (clone_tab ⟨tn, ta, l.length, tc, tr, tx, tw⟩ l W (CellsAt.keep hW HCO.out) rfl (fun h => by have h2 : tc = 0 := hnone h; have h3 : l.length ≤ tc := hcc; exact ⟨List.length_eq_zero_iff.1 (by omega), h2⟩) (by omega)).mono (fun e w' ⟨⟨yn, ya, yl, yc, yr, yx, yw⟩, h1, h2, h3⟩ => ⟨yn, ya, yl, yc, yr, yx, yw, h1, h2, h3⟩))
      have HNEW := Lib.hid (show ∀ (w5 : World) (yn : ByteArray) (ya : Option Addr) (yl yc : Nat) (yr yx yw : Int), TabCopy w4.drew ⟨tn, ta, l.length, tc, tr, tx, tw⟩ l ⟨yn, ya, yl, yc, yr, yx, yw⟩ w5 → ∀ (t : Tab) (l : List Col), ts[k]? = some (t, l) → CopyAt (w.heap.size + 3) (.slice va k vc) t l ⟨yn, ya, yl, yc, yr, yx, yw⟩ w5 from fun w5 yn ya yl yc yr yx yw h t l2 hj => by
        rw [HX.out] at hj
        obtain ⟨rfl, rfl⟩ := Prod.mk.inj (Option.some.inj hj)
        obtain ⟨h1, h2, h3, h4, h5, h6, h7, h8, h9⟩ := h
        refine ⟨h1, h2, h3, h4, h5, h6, h7, fun a ha => ?_, h9⟩
        have hz := h8 a ha
        have hlt := heap_lt HI4.out.out
        have hd : w4.drew.heap.size = w4.heap.size := rfl
        refine ⟨by omega, hz.2, fun e => ?_⟩
        have := (HI4.out.own.lt _ e).2
        omega)
      have hW0 : Below w4.heap.size w4 w4.drew := (Below.refl _ _).drew
      have z0 : w4.drew.cell? ⟨w.heap.size + 1 + 1, 0, none⟩ = some (.slice va k vc) := cell_of_row w4.drew _ 0 _ _ _ HI4.out.out
      have j0 : w4.drew.cell? ⟨wo.heap.size, 0, none⟩ = some (.string tn) := cell_of_row w4.drew _ 0 _ _ _ HQ4.out
      have j1 : w4.drew.cell? ⟨wo.heap.size, 1, none⟩ = some (.slice ta l.length tc) := cell_of_row w4.drew _ 1 _ _ _ HQ4.out
      have j2 : w4.drew.cell? ⟨wo.heap.size, 2, none⟩ = some (.int .i64 tr) := cell_of_row w4.drew _ 2 _ _ _ HQ4.out
      have j3 : w4.drew.cell? ⟨wo.heap.size, 3, none⟩ = some (.int .i64 tx) := cell_of_row w4.drew _ 3 _ _ _ HQ4.out
      have j4 : w4.drew.cell? ⟨wo.heap.size, 4, none⟩ = some (.int .i64 tw) := cell_of_row w4.drew _ 4 _ _ _ HQ4.out
      clear hx hcells hkk hB4 hcol hnone
      go_wp2_with fail
      rw [← hw4]
      clear hw4 k0 k1 k2 k3 k4
      go_region_law (first
        | (go_simp; go_at_call 36; (with_reducible refine (HCL.out _ hW0).mono ?_); rintro e w5 ⟨yn, ya, yl, yc, yr, yx, yw, rfl, hB5, hP⟩
           have HB5 := Lib.hid hB5
           have HP := Lib.hid hP
           have HI5 := Lib.hid (HI4.out.keep (hW0.trans (hB5.mono hW0.size)))
           have z5 : w5.cell? ⟨w.heap.size + 1 + 1, 0, none⟩ = some (.slice va k vc) := cell_of_row w5 _ 0 _ _ _ HI5.out.out
           have z5b : ∀ O, (w5.alloc O).cell? ⟨w.heap.size + 1 + 1, 0, none⟩ = some (.slice va k vc) := fun O => cell_kept z5 (below1 w5 O)
           clear hB5 hP)
        | (refine step_tab _ (by rfl) (.tmp 16) (.tmp 19) (by rfl) (w.heap.size + 3) (.slice va k vc) k (outs.map tabL).flatten (by rfl) (own_kept HI5.out.own (below1 w5 _) (Nat.le_refl _)) w5.heap.size 1 ⟨yn, ya, yl, yc, yr, yx, yw⟩ (by rfl) (heap_alloc_new w5 _) (by omega) (by have := heap_lt HI5.out.out; simp; omega) ?_
           intro v6 w6 hown hgr hat
           obtain ⟨g, cap, rfl⟩ := own_slice hown
           have HM := Lib.hid (HI5.out.more hown hgr hat (HNEW.out _ _ _ _ _ _ _ _ HP.out))
           have z6 := cell_of_row _ _ 0 _ _ _ HM.out.2
           have g6 := frozen_of_row _ _ 0 _ _ HM.out.2
           clear hown hgr hat)
        | fail)
      all_goals
        go_wp2_with fail
        go_roundw
        case rel => exact ⟨k + 1, _, _, _, by omega, by go_num, Lib.hid HM.out.1⟩
        case measure => simp [intOf] <;> omega
    · obtain rfl : k = n := by omega
      have o0 : wo.cell? ⟨w.heap.size + 1 + 1, 0, none⟩ = some (.slice va k vc) := cell_of_row _ _ 0 _ _ _ HI.out.out
      have o1 : wo.cell? ⟨w.heap.size + 1 + 1, 1, none⟩ = some (.slice none 0 0) := cell_of_row _ _ 1 _ _ _ HI.out.out
      have q0 := cell_of_row _ _ 0 _ _ _ HI.out.ans
      have q1 := cell_of_row _ _ 1 _ _ _ HI.out.ans
      have f0 := frozen_of_row _ _ 0 _ _ HI.out.ans
      have f1 := frozen_of_row _ _ 1 _ _ HI.out.ans
      go_wp2_with fail
      have HST2 := Lib.hid (ClInd.start (W0 := wo) (n := k) (vc := vc) (va := va) xs HI.out.out)
      have HLOW := Lib.hid (heap_lt HI.out.out)
      clear o0 o1 q0 q1 f0 f1
      go_loopw [26] (fun i wr => ∃ j ua uc outx, j ≤ m ∧ i = .int .i64 (j : Nat) ∧ Hid (ClInd w wo va k vc xs wr j ua uc outx)) (fun i _ => m - (intOf i).toNat)
      case atStart => exact ⟨0, none, 0, [], Nat.zero_le _, rfl, HST2⟩
      case round =>
        obtain ⟨j, ua, uc, outx, hj, rfl, HC⟩ := hrel
        obtain ⟨wi, rfl⟩ : ∃ wi : World, wi = wr := ⟨_, rfl⟩
        have HBW := Lib.hid (HI.out.below.grown HC.out.grown HI.out.below.size (fun b hb => by cases hb; omega))
        by_cases hjm : j < m
        · obtain ⟨⟨t, l⟩, hx⟩ : ∃ x, xs[j]? = some x := ⟨_, List.getElem?_eq_getElem (by have := HM.out; omega)⟩
          have HX := Lib.hid hx
          obtain ⟨hcol, hcn, hcc, hnone⟩ := HDX.out.2 (t, l) (List.mem_of_getElem? hx)
          have hl := HLX.out (t, l) (List.mem_of_getElem? hx)
          dsimp only at hcol hcn hcc hnone hl
          obtain ⟨tn, tt, ta, tl, tc, tr, tx, tw⟩ := t
          obtain rfl : tl = l.length := hcn
          obtain ⟨b, off, rfl, hbl, hcells⟩ : ∃ b off, ia = some ⟨b, off, none⟩ ∧ b < w.heap.size ∧ ∀ (i : Nat) (u : Value), (idxL ⟨tn, tt, ta, l.length, tc, tr, tx, tw⟩)[i]? = some u → w.cell? ⟨b, off + j * 6 + i, none⟩ = some u := by
            rcases HDX.out.1.2 with h0' | ⟨b, off, h1, h2, h3⟩
            · exfalso
              have := List.map_eq_nil_iff.1 (List.map_eq_nil_iff.1 h0')
              subst this
              simp at hx
            · exact ⟨b, off, h1, h2, (h3 j _ (by rw [List.getElem?_map, List.getElem?_map, hx]; rfl)).2⟩
          have hkk : ∀ (i : Nat) (u : Value), [Value.string tn, .string tt, .slice ta l.length tc, .int .i64 tr, .int .i64 tx, .int .i64 tw][i]? = some u → wi.cell? ⟨b, off + j * 6 + i, none⟩ = some u := fun i u hi => (HBW.out.cell (p := ⟨b, off + j * 6 + i, none⟩) hbl).trans (hcells i u hi)
          have k0 : wi.cell? ⟨b, off + j * 6, none⟩ = some (.string tn) := hkk 0 _ rfl
          have k1 : wi.cell? ⟨b, off + j * 6 + 1, none⟩ = some (.string tt) := hkk 1 _ rfl
          have k2 : wi.cell? ⟨b, off + j * 6 + 2, none⟩ = some (.slice ta l.length tc) := hkk 2 _ rfl
          have k3 : wi.cell? ⟨b, off + j * 6 + 3, none⟩ = some (.int .i64 tr) := hkk 3 _ rfl
          have k4 : wi.cell? ⟨b, off + j * 6 + 4, none⟩ = some (.int .i64 tx) := hkk 4 _ rfl
          have k5 : wi.cell? ⟨b, off + j * 6 + 5, none⟩ = some (.int .i64 tw) := hkk 5 _ rfl
          obtain ⟨w4, hw4⟩ : ∃ w4, w4 = wi.alloc (.cells #[.string tn, .string tt, .slice ta l.length tc, .int .i64 tr, .int .i64 tx, .int .i64 tw] 28) := ⟨_, rfl⟩
          have hB4 : Below wi.heap.size wi w4 := by rw [hw4]; exact below1 wi _
          have HC4 := Lib.hid (HC.out.keep hB4)
          have HCO := Lib.hid (IntsAt.keep (HBW.out.trans (hB4.mono HBW.out.size)) hcol)
          have HQ4 := Lib.hid (show w4.heap[wi.heap.size]? = some (.cells #[.string tn, .string tt, .slice ta l.length tc, .int .i64 tr, .int .i64 tx, .int .i64 tw] 28) by rw [hw4]; exact heap_alloc_new wi _)
          have HCL := Lib.hid (show ∀ W, Below w4.heap.size w4 W → Calls Tryz.prog 37 #[.agg #[.string tn, .string tt, .slice ta l.length tc, .int .i64 tr, .int .i64 tx, .int .i64 tw]] W fun e w' => ∃ (yn yt : ByteArray) (ya : Option Addr) (yl yc : Nat) (yr yx yw : Int), e = .returned (.agg #[.string yn, .string yt, .slice ya yl yc, .int .i64 yr, .int .i64 yx, .int .i64 yw]) ∧ Below W.heap.size W w' ∧ IdxCopy W ⟨tn, tt, ta, l.length, tc, tr, tx, tw⟩ l ⟨yn, yt, ya, yl, yc, yr, yx, yw⟩ w' from fun W hW =>
            (clone_idx ⟨tn, tt, ta, l.length, tc, tr, tx, tw⟩ l W (IntsAt.keep hW HCO.out) rfl (fun h => by have h2 : tc = 0 := hnone h; have h3 : l.length ≤ tc := hcc; exact ⟨List.length_eq_zero_iff.1 (by omega), h2⟩) (by omega)).mono (fun e w' ⟨⟨yn, yt, ya, yl, yc, yr, yx, yw⟩, h1, h2, h3⟩ => ⟨yn, yt, ya, yl, yc, yr, yx, yw, h1, h2, h3⟩))
          have HNEW := Lib.hid (show ∀ (w5 : World) (yn yt : ByteArray) (ya : Option Addr) (yl yc : Nat) (yr yx yw : Int), IdxCopy w4.drew ⟨tn, tt, ta, l.length, tc, tr, tx, tw⟩ l ⟨yn, yt, ya, yl, yc, yr, yx, yw⟩ w5 → ∀ (t : Idx) (l : List Int), xs[j]? = some (t, l) → ICopyAt wo.heap.size (.slice ua j uc) t l ⟨yn, yt, ya, yl, yc, yr, yx, yw⟩ w5 from fun w5 yn yt ya yl yc yr yx yw h t l2 hj => by
            rw [HX.out] at hj
            obtain ⟨rfl, rfl⟩ := Prod.mk.inj (Option.some.inj hj)
            obtain ⟨h1, h2, h3, h4, h5, h6, h7, h8, h9, h10⟩ := h
            refine ⟨h1, h2, h3, h4, h5, h6, h7, h8, fun a ha => ?_, h10⟩
            have hz := h9 a ha
            have hlt := HC4.out.grown.size
            have hd : w4.drew.heap.size = w4.heap.size := rfl
            refine ⟨by omega, hz.2, fun e => ?_⟩
            have := (HC4.out.own.lt _ e).2
            omega)
          have hW0 : Below w4.heap.size w4 w4.drew := (Below.refl _ _).drew
          have z0 : w4.drew.cell? ⟨w.heap.size + 1 + 1, 1, none⟩ = some (.slice ua j uc) := cell_of_row w4.drew _ 1 _ _ _ HC4.out.out
          have j0 : w4.drew.cell? ⟨wi.heap.size, 0, none⟩ = some (.string tn) := cell_of_row w4.drew _ 0 _ _ _ HQ4.out
          have j1 : w4.drew.cell? ⟨wi.heap.size, 1, none⟩ = some (.string tt) := cell_of_row w4.drew _ 1 _ _ _ HQ4.out
          have j2 : w4.drew.cell? ⟨wi.heap.size, 2, none⟩ = some (.slice ta l.length tc) := cell_of_row w4.drew _ 2 _ _ _ HQ4.out
          have j3 : w4.drew.cell? ⟨wi.heap.size, 3, none⟩ = some (.int .i64 tr) := cell_of_row w4.drew _ 3 _ _ _ HQ4.out
          have j4 : w4.drew.cell? ⟨wi.heap.size, 4, none⟩ = some (.int .i64 tx) := cell_of_row w4.drew _ 4 _ _ _ HQ4.out
          have j5 : w4.drew.cell? ⟨wi.heap.size, 5, none⟩ = some (.int .i64 tw) := cell_of_row w4.drew _ 5 _ _ _ HQ4.out
          clear hx hcells hkk hB4 hcol hnone
          go_wp2_with fail
          rw [← hw4]
          clear hw4 k0 k1 k2 k3 k4 k5
          go_region_law (first
            | (go_simp; go_at_call 37; (with_reducible refine (HCL.out _ hW0).mono ?_); rintro e w5 ⟨yn, yt, ya, yl, yc, yr, yx, yw, rfl, hB5, hP⟩
               have HB5 := Lib.hid hB5
               have HP := Lib.hid hP
               have HC5 := Lib.hid (HC4.out.keep (hW0.trans (hB5.mono hW0.size)))
               have z5 : w5.cell? ⟨w.heap.size + 1 + 1, 1, none⟩ = some (.slice ua j uc) := cell_of_row w5 _ 1 _ _ _ HC5.out.out
               have z5b : ∀ O, (w5.alloc O).cell? ⟨w.heap.size + 1 + 1, 1, none⟩ = some (.slice ua j uc) := fun O => cell_kept z5 (below1 w5 O)
               clear hB5 hP)
            | (refine step_idx _ (by rfl) (.tmp 31) (.tmp 34) (by rfl) wo.heap.size (.slice ua j uc) j (outx.map idxL).flatten (by rfl) (own_kept HC5.out.own (below1 w5 _) (Nat.le_refl _)) w5.heap.size 1 ⟨yn, yt, ya, yl, yc, yr, yx, yw⟩ (by rfl) (heap_alloc_new w5 _) (by omega) (by have := HC5.out.grown.size; simp; omega) ?_
               intro v6 w6 hown hgr hat
               obtain ⟨g, cap, rfl⟩ := own_slice hown
               have HMO := Lib.hid (HC5.out.more hown hgr hat (HNEW.out _ _ _ _ _ _ _ _ _ HP.out))
               have z6 := cell_of_row _ _ 1 _ _ _ HMO.out.2
               have g6 := frozen_of_row _ _ 1 _ _ HMO.out.2
               clear hown hgr hat)
            | fail)
          all_goals
            go_wp2_with fail
            go_roundw
            case rel => exact ⟨j + 1, _, _, _, by omega, by go_num, Lib.hid HMO.out.1⟩
            case measure => simp [intOf] <;> omega
        · obtain rfl : j = m := by omega
          have o0 : wi.cell? ⟨w.heap.size + 1 + 1, 0, none⟩ = some (.slice va k vc) := cell_of_row _ _ 0 _ _ _ HC.out.out
          have o1 : wi.cell? ⟨w.heap.size + 1 + 1, 1, none⟩ = some (.slice ua j uc) := cell_of_row _ _ 1 _ _ _ HC.out.out
          have hans := (HC.out.grown.block (w.heap.size + 1) (by have := HC.out.low; omega) (fun e => by have := Option.some.inj e; omega)).trans HI.out.ans
          have q0 := cell_of_row _ _ 0 _ _ _ hans
          have q1 := cell_of_row _ _ 1 _ _ _ hans
          have f0 := frozen_of_row _ _ 0 _ _ hans
          have f1 := frozen_of_row _ _ 1 _ _ hans
          clear hans
          go_wp2_with fail
          refine bodyPost_ret (v := .agg #[.slice va k vc, .slice ua j uc]) (by simp [results, Tryz.results10, go_sem, q0, q1]) rfl ?_
          obtain ⟨d1, d2, d3, d4, d5, d6, d7, d8⟩ := ClInd.fin HI.out HC.out (.slice va k vc) (.slice ua j uc)
          exact ⟨va, ua, vc, uc, outs, outx, wo.heap.size, by rw [← HN.out, ← HM.out], d1, d2, d3, by rw [← HN.out]; exact d4, by rw [← HN.out]; exact HI.out.len, by rw [← HN.out]; exact d5, by rw [← HN.out]; exact d6, by rw [← HM.out]; exact d7, by rw [← HM.out]; exact HC.out.len, by rw [← HM.out]; exact d8⟩
end Go.Proofs.YtcgpflkaejbkhaaGreatDoor
