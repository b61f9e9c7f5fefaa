/- The walk of Of. -/
import Derived.Test.YtcnkghcdjicldaaOfL
import Derived.Test.YtcnkghcdjicldaaHeld
import Derived.Deep.RegionLaw
namespace Go.Proofs.Ytcnkghcdjicldaa
open Go.RowKit

theorem ofK_stop (q : Qd) (k m : Nat) (h : q.beg.length ≤ k) : ofK q (k + m) = ofK q k := by
  induction m with
  | zero => rfl
  | succ m ih => rw [← Nat.add_assoc, ofK, if_neg (by omega), ih]
theorem stepR_le (q : Qd) (L : List (Int × List Int)) (f : Nat) (t : Int) : (stepR q L f t).length ≤ L.length + 8 * q.wh.length + 3 := by
  unfold stepR
  have h0 := held_le q f eqOps
  have h1 := held_le q f rangeOps
  have h2 := addR_le L t (heldR q f eqOps)
  have h3 := fold_add_le (fun c => behR ((heldR q f eqOps).take 2) [c]) t (heldR q f rangeOps) (addR L t (heldR q f eqOps))
  have h4 := behR_le (heldR q f eqOps) (heldR q f rangeOps)
  have h5 := fold_add_le (fun c => [c]) t (behR (heldR q f eqOps) (heldR q f rangeOps)) ((heldR q f rangeOps).foldl (fun L c => addR L t (behR ((heldR q f eqOps).take 2) [c])) (addR L t (heldR q f eqOps)))
  simp only at h3 h5 ⊢
  generalize (behR (heldR q f eqOps) (heldR q f rangeOps)).foldl (fun L c => addR L t [c]) ((heldR q f rangeOps).foldl (fun L c => addR L t (behR ((heldR q f eqOps).take 2) [c])) (addR L t (heldR q f eqOps))) = L3 at h5 ⊢
  have h6 := addR_le L3 t (byR q f)
  have h7 := addR_le (addR L3 t (byR q f)) t (behR (heldR q f eqOps) (byR q f))
  split <;> omega
theorem ofK_le (q : Qd) (k : Nat) : (ofK q k).length ≤ k * (8 * q.wh.length + 3) := by
  induction k with
  | zero => simp [ofK]
  | succ k ih =>
    rw [ofK, Nat.succ_mul]
    split
    · have := stepR_le q (ofK q k) k (q.tabs.getD k 0)
      omega
    · omega
/-- what holds in Of's loops -/
def OfIn (w wr : World) (cs : Array Value) (out : Value) (L : List (Int × List Int)) : Prop := Below w.heap.size w wr ∧ BoxC wr w.heap.size cs ∧ ∃ ds A c, out = .slice A ds.length c ∧ pureD ds = L ∧ DefsAt wr A c ds
theorem OfIn.call {w wr w2 : World} {cs : Array Value} {out : Value} {L : List (Int × List Int)} (h : OfIn w wr cs out L) (hB : Below wr.heap.size wr w2) : OfIn w w2 cs out L := by
  obtain ⟨h1, h2, ds, A, c, h3, h4, h5⟩ := h
  exact ⟨h1.trans (hB.mono h1.size), h2.keep hB, ds, A, c, h3, h4, h5.keep hB⟩
theorem OfIn.box {w wr : World} {cs : Array Value} {out : Value} {L : List (Int × List Int)} (h : OfIn w wr cs out L) : BoxC wr w.heap.size cs := h.2.1
theorem strs_of {W : World} {b : Nat} {ss : List ByteArray} (h : W.heap[b]? = some (.cells (ss.map Value.string).toArray 9 (0, 0))) (hs : ss.length ≤ 100) : Strs W (some ⟨b, 0, none⟩) ss := by
  refine ⟨by unfold maxLen; omega, .inr ⟨b, 0, rfl, heap_lt h, fun j s hj => ?_⟩⟩
  exact (cell_of_row W b _ _ _ _ h).trans (by rw [Nat.zero_add]; simp [hj])
theorem alloc2_new (W : World) (o1 o2 : Obj) : ((W.alloc o1).alloc o2).heap[W.heap.size + 1]? = some o2 := by
  have := heap_alloc_new (W.alloc o1) o2
  rwa [World.size_alloc] at this
/-- a call of held, seen from the round's beginning -/
theorem held_on (q : Qd) (f : Nat) (wo W : World) (b : Nat) (ss : List ByteArray) (hq : QAt wo q) (hB : Below wo.heap.size wo W) (h : W.heap[b]? = some (.cells (ss.map Value.string).toArray 9 (0, 0))) (n : Nat) (hn : ss.length = n) (hs : ss.length ≤ 100) (hw : q.wh.length ≤ 12) :
    Calls Try.prog 17 #[qV q, .int .i64 (f : Int), .slice (some ⟨b, 0, none⟩) n n] W (fun e w' => ∃ A c, e = .returned (.slice A (heldR q f ss).length c) ∧ Ints w' A c (heldR q f ss) ∧ Below W.heap.size W w' ∧ Below wo.heap.size wo w') := by
  subst hn
  exact (held_any q f _ ss.length ss W (hq.keep hB) (strs_of h hs) hw).mono fun e w' h => by
    obtain ⟨A, c, h1, h2, h3⟩ := RetO.toI h
    exact ⟨A, c, h1, h2, h3, hB.trans (h3.mono hB.size)⟩
set_option maxRecDepth 100000 in
set_option maxHeartbeats 16000000 in
theorem of10_any (q : Qd) (w : World) (hq : QAt w q) (hb1 : q.tabs.length ≤ 6) (hb3 : q.wh.length ≤ 12) (hb4 : q.ord.length ≤ 6) : Calls Try.prog 10 #[qV q] w (RetD (ofR q) w) := by
  have HLK := Lib.hid (ofK_le q)
  have HST := Lib.hid (ofK_stop q)
  obtain ⟨tA, tc, tabs, bA, bc, beg, width, wA, wc, wh, gA, gn, gc, grouped, iA, i_n, ic, oA, oc, ord, limit⟩ := q
  have HT := Lib.hid hq.1.at
  have HQ := Lib.hid hq
  have hbs := hq.2.1.small
  unfold maxLen at hbs
  obtain ⟨ofk, hofk⟩ : ∃ g, g = ofK ⟨tA, tc, tabs, bA, bc, beg, width, wA, wc, wh, gA, gn, gc, grouped, iA, i_n, ic, oA, oc, ord, limit⟩ := ⟨_, rfl⟩
  have HOK := Lib.hid (show ∀ k, ofk (k + 1) = if k < beg.length then stepR ⟨tA, tc, tabs, bA, bc, beg, width, wA, wc, wh, gA, gn, gc, grouped, iA, i_n, ic, oA, oc, ord, limit⟩ (ofk k) k (tabs.getD k 0) else ofk k from fun k => by rw [hofk]; rfl)
  have HO0 := Lib.hid (show ofk 0 = [] by rw [hofk]; rfl)
  rw [← hofk] at HLK HST
  have HR := Lib.hid (show ofR ⟨tA, tc, tabs, bA, bc, beg, width, wA, wc, wh, gA, gn, gc, grouped, iA, i_n, ic, oA, oc, ord, limit⟩ = ofk tabs.length by rw [hofk]; rfl)
  obtain ⟨R, hR⟩ : ∃ R, R = ofR ⟨tA, tc, tabs, bA, bc, beg, width, wA, wc, wh, gA, gn, gc, grouped, iA, i_n, ic, oA, oc, ord, limit⟩ := ⟨_, rfl⟩
  rw [← hR] at HR ⊢
  dsimp only at HT HLK HST hb1 hb3 hb4 hbs
  unfold qV Qd.cells
  dsimp only
  have HQQ := Lib.hid (show OfIn w (w.alloc (.cells #[.slice tA tabs.length tc, .slice bA beg.length bc, .int .i64 width, .slice wA wh.length wc, .slice gA gn gc, .bool grouped, .slice iA i_n ic, .slice oA ord.length oc, .int .i64 limit] 26)) #[.slice tA tabs.length tc, .slice bA beg.length bc, .int .i64 width, .slice wA wh.length wc, .slice gA gn gc, .bool grouped, .slice iA i_n ic, .slice oA ord.length oc, .int .i64 limit] (.slice none 0 0) [] from ⟨below1 _ _, heap_alloc_new w _, [], none, 0, rfl, rfl, DefsAt.nil _⟩)
  clear hR hofk hq
  go_enter Try.func10, Try.ntmps10
  go_wp2_with fail
  go_loopw [3, 18] (fun out i wr => ∃ k : Nat, k ≤ tabs.length ∧ i = .int .i64 k ∧ OfIn w wr #[.slice tA tabs.length tc, .slice bA beg.length bc, .int .i64 width, .slice wA wh.length wc, .slice gA gn gc, .bool grouped, .slice iA i_n ic, .slice oA ord.length oc, .int .i64 limit] out (ofk k)) (fun _ i _ => tabs.length - (intOf i).toNat)
  case atStart => exact ⟨0, Nat.zero_le _, rfl, by rw [HO0.out]; exact HQQ.out⟩
  case round =>
    obtain ⟨k, hk, rfl, hin⟩ := hrel
    obtain ⟨wo, rfl⟩ : ∃ wo : World, wo = wr := ⟨_, rfl⟩
    have HI := Lib.hid hin
    obtain ⟨hbw, hbx, ds, A0, c0, rfl, hL, hD⟩ := hin
    obtain ⟨q0, q1, q2, q3, q4, q5, q6, q7, q8⟩ := box9 _ _ _ _ _ _ _ _ _ _ _ hbx
    have HDD := Lib.hid hD
    have HL := Lib.hid hL
    have HBW := Lib.hid hbw
    have hlt0 := heap_lt hbx
    clear hL hD hbx hbw
    by_cases hlt : k < tabs.length
    · rcases HT.out with h0 | ⟨b, off, rfl, hbl, hc⟩
      · exfalso; rw [h0] at hlt; simp at hlt
      · obtain ⟨t, ht⟩ : ∃ t, tabs[k]? = some t := ⟨_, List.getElem?_eq_getElem hlt⟩
        have hct := (HBW.out.cell (p := ⟨b, off + k, none⟩) hbl).trans (hc k t ht)
        have HTT := Lib.hid (getD_of ht)
        clear hc ht HT HQQ
        by_cases hkb : k < beg.length
        · have hkb' : (k : Int) < (beg.length : Int) := by omega
          have HE1 := Lib.hid (fun (W : World) (b' : Nat) (hB : Below wo.heap.size wo W) (h : W.heap[b']? = some (.cells #[.string ⟨#[61]⟩] 9 (0, 0))) => held_on _ k wo W b' eqOps (HQ.out.keep HBW.out) hB h 1 rfl (by decide) hb3)
          have HE2 := Lib.hid (fun (W : World) (b' : Nat) (hB : Below wo.heap.size wo W) (h : W.heap[b']? = some (.cells #[.string ⟨#[60]⟩, .string ⟨#[60, 61]⟩, .string ⟨#[62]⟩, .string ⟨#[62, 61]⟩] 9 (0, 0))) => held_on _ k wo W b' rangeOps (HQ.out.keep HBW.out) hB h 4 rfl (by decide) hb3)
          have HSK := Lib.hid (HOK.out k)
          obtain ⟨E, hE⟩ : ∃ E, E = heldR ⟨some ⟨b, off, none⟩, tc, tabs, bA, bc, beg, width, wA, wc, wh, gA, gn, gc, grouped, iA, i_n, ic, oA, oc, ord, limit⟩ k eqOps := ⟨_, rfl⟩
          obtain ⟨G, hG⟩ : ∃ G, G = heldR ⟨some ⟨b, off, none⟩, tc, tabs, bA, bc, beg, width, wA, wc, wh, gA, gn, gc, grouped, iA, i_n, ic, oA, oc, ord, limit⟩ k rangeOps := ⟨_, rfl⟩
          rw [← hE] at HE1
          rw [← hG] at HE2
          have HEE := Lib.hid hE
          have HGG := Lib.hid hG
          have hW0 : Below wo.heap.size wo wo.drew := (Below.refl _ _).drew
          clear hE hG
          go_upto_region 6 with (fail)
          go_cut [6, 7, 18] from 18 to 110 (fun s6 s7 s18 wc => s18 = .int .i64 (k : Int) ∧ Below wo.heap.size wo wc ∧ ∃ A6 c6 A7 c7, s6 = .slice A6 E.length c6 ∧ s7 = .slice A7 G.length c7 ∧ Ints wc A6 c6 E ∧ Ints wc A7 c7 G)
          case first =>
            have HSX := Lib.hid (show ∀ wx, Below wo.heap.size wo wx → wx.cell? ⟨w.heap.size, 0, none⟩ = some (.slice (some ⟨b, off, none⟩) tabs.length tc) ∧ wx.cell? ⟨w.heap.size, 1, none⟩ = some (.slice bA beg.length bc) ∧ wx.cell? ⟨w.heap.size, 2, none⟩ = some (.int .i64 width) ∧ wx.cell? ⟨w.heap.size, 3, none⟩ = some (.slice wA wh.length wc) ∧ wx.cell? ⟨w.heap.size, 4, none⟩ = some (.slice gA gn gc) ∧ wx.cell? ⟨w.heap.size, 5, none⟩ = some (.bool grouped) ∧ wx.cell? ⟨w.heap.size, 6, none⟩ = some (.slice iA i_n ic) ∧ wx.cell? ⟨w.heap.size, 7, none⟩ = some (.slice oA ord.length oc) ∧ wx.cell? ⟨w.heap.size, 8, none⟩ = some (.int .i64 limit) ∧ w.heap.size < wx.heap.size ∧ Below wo.heap.size wo wx from fun wx h => by
              obtain ⟨q0, q1, q2, q3, q4, q5, q6, q7, q8⟩ := box9 _ _ _ _ _ _ _ _ _ _ _ (BoxC.keep (OfIn.box HI.out) h)
              exact ⟨q0, q1, q2, q3, q4, q5, q6, q7, q8, heap_lt (BoxC.keep (OfIn.box HI.out) h), h⟩)
            go_region_held3 (fun wx => wx.cell? ⟨w.heap.size, 0, none⟩ = some (.slice (some ⟨b, off, none⟩) tabs.length tc) ∧ wx.cell? ⟨w.heap.size, 1, none⟩ = some (.slice bA beg.length bc) ∧ wx.cell? ⟨w.heap.size, 2, none⟩ = some (.int .i64 width) ∧ wx.cell? ⟨w.heap.size, 3, none⟩ = some (.slice wA wh.length wc) ∧ wx.cell? ⟨w.heap.size, 4, none⟩ = some (.slice gA gn gc) ∧ wx.cell? ⟨w.heap.size, 5, none⟩ = some (.bool grouped) ∧ wx.cell? ⟨w.heap.size, 6, none⟩ = some (.slice iA i_n ic) ∧ wx.cell? ⟨w.heap.size, 7, none⟩ = some (.slice oA ord.length oc) ∧ wx.cell? ⟨w.heap.size, 8, none⟩ = some (.int .i64 limit) ∧ w.heap.size < wx.heap.size ∧ Below wo.heap.size wo wx)
              (first
                | exact HSX.out _ hW0
                | (with_reducible assumption)
                | exact HSX.out _ (below1 wo _).drew
                | exact HSX.out _ (below2 wo _ _).drew
                | exact HSX.out _ hW2
                | exact HSX.out _ (hW2.alloc hW2.size _)
                | fail)
              (first
              | (go_at_call 17; (with_reducible refine (HE1.out _ _ ?_ ?_).mono ?_)
                 · first | exact (below1 wo _).drew | exact (below2 wo _ _).drew | exact hW2 | exact hW2.alloc hW2.size _
                 · first | exact heap_alloc_new wo _ | exact alloc2_new wo _ _ | exact (Below.heap_alloc (wo.alloc _) _ _ (by simp)).trans (heap_alloc_new wo _) | exact heap_alloc_new w4 _ | exact heap_alloc_new w5 _ | exact (hB.block _ (by simp <;> omega)).trans (alloc2_new wo _ _) | exact (hB.block _ (by simp <;> omega)).trans ((Below.heap_alloc (wo.alloc _) _ _ (by simp)).trans (heap_alloc_new wo _))
                 rintro e w4 ⟨A6, c6, rfl, hI6, hB, hW2⟩
                 obtain ⟨q0, q1, q2, q3, q4, q5, q6, q7, q8⟩ := box9 _ _ _ _ _ _ _ _ _ _ _ (BoxC.keep (OfIn.box HI.out) hW2)
                 have hlt4 := heap_lt (BoxC.keep (OfIn.box HI.out) hW2)
                 try (first | (have hI7 := hI7.keep hB) | (have hI7 := (hI7.keep (below1 _ _)).keep hB)))
              | (go_at_call 17; (with_reducible refine (HE2.out _ _ ?_ ?_).mono ?_)
                 · first | exact (below1 wo _).drew | exact (below2 wo _ _).drew | exact hW2 | exact hW2.alloc hW2.size _
                 · first | exact heap_alloc_new wo _ | exact alloc2_new wo _ _ | exact (Below.heap_alloc (wo.alloc _) _ _ (by simp)).trans (heap_alloc_new wo _) | exact heap_alloc_new w4 _ | exact heap_alloc_new w5 _ | exact (hB.block _ (by simp <;> omega)).trans (alloc2_new wo _ _) | exact (hB.block _ (by simp <;> omega)).trans ((Below.heap_alloc (wo.alloc _) _ _ (by simp)).trans (heap_alloc_new wo _))
                 rintro e w5 ⟨A7, c7, rfl, hI7, hB, hW2⟩
                 obtain ⟨q0, q1, q2, q3, q4, q5, q6, q7, q8⟩ := box9 _ _ _ _ _ _ _ _ _ _ _ (BoxC.keep (OfIn.box HI.out) hW2)
                 have hlt4 := heap_lt (BoxC.keep (OfIn.box HI.out) hW2)
                 try (first | (have hI6 := hI6.keep hB) | (have hI6 := (hI6.keep (below1 _ _)).keep hB)))
              | fail)
            all_goals
              go_wp2_with fail
              go_meet
              exact ⟨rfl, hW2, A6, c6, A7, c7, rfl, rfl, hI6, hI7⟩
          case rest =>
            obtain ⟨rfl, hbo, A6, c6, A7, c7, rfl, rfl, hI6, hI7⟩ := hcut
            obtain ⟨w3, rfl⟩ : ∃ w3 : World, w3 = wc := ⟨_, rfl⟩
            have HB3 := Lib.hid hbo
            have HI6 := Lib.hid hI6
            have HI7 := Lib.hid hI7
            have HD3 := Lib.hid (HDD.out.keep hbo)
            have hEl : E.length ≤ 24 := by have := held_le ⟨some ⟨b, off, none⟩, tc, tabs, bA, bc, beg, width, wA, wc, wh, gA, gn, gc, grouped, iA, i_n, ic, oA, oc, ord, limit⟩ k eqOps; rw [← HEE.out] at this; dsimp only at this; omega
            have hGl : G.length ≤ 24 := by have := held_le ⟨some ⟨b, off, none⟩, tc, tabs, bA, bc, beg, width, wA, wc, wh, gA, gn, gc, grouped, iA, i_n, ic, oA, oc, ord, limit⟩ k rangeOps; rw [← HGG.out] at this; dsimp only at this; omega
            have hdl : ds.length ≤ 600 := by
              have h1 := HLK.out k
              rw [← HL.out] at h1
              have h2 : (pureD ds).length = ds.length := by simp [pureD]
              have h3 : k * (8 * wh.length + 3) ≤ 6 * 99 := Nat.mul_le_mul (by omega) (by omega)
              omega
            clear hbo hI6 hI7 q0 q1 q2 q3 q4 q5 q6 q7 q8
            have hL0 : OfL w3 w3 (.slice A0 ds.length c0) (ofk k) := ⟨Below.refl _ _, ds, A0, c0, rfl, HL.out, HD3.out⟩
            have HL0 := Lib.hid hL0
            have h0le : (ofk k).length ≤ 600 := by have h2 : (pureD ds).length = ds.length := by simp [pureD]
                                                   rw [← HL.out, h2]; exact hdl
            obtain ⟨en, hen⟩ : ∃ en, en = E.length := ⟨_, rfl⟩
            obtain ⟨gn', hgn⟩ : ∃ gn', gn' = G.length := ⟨_, rfl⟩
            have HEN := Lib.hid hen
            have HGN := Lib.hid hgn
            rw [← hen] at hEl ⊢
            rw [← hgn] at hGl ⊢
            obtain ⟨L0, hL0e⟩ : ∃ L0, L0 = ofk k := ⟨_, rfl⟩
            have HL0E := Lib.hid hL0e
            rw [← hL0e] at HL0 h0le
            obtain ⟨L1, hL1e⟩ : ∃ L1, L1 = addR L0 t E := ⟨_, rfl⟩
            have HL1E := Lib.hid hL1e
            have h1le := addR_le L0 t E
            rw [← hL1e] at h1le
            have HADD := Lib.hid (show Calls Try.prog 18 #[.slice A0 ds.length c0, .int .i64 t, .slice A6 en c6] w3 (RetL w3 w3 L1) from HL1E.out ▸ add_on HL0.out (by omega) HI6.out HEN.out (by omega))
            clear hen hgn hL0 hL0e hL1e
            go_wp2_with (first
              | (go_at_call 18; (with_reducible refine HADD.out.mono ?_); rintro e w4 ⟨A1, n1, c1, rfl, hL4, -⟩; have HL4 := Lib.hid hL4; clear hL4)
              | fail)
            go_loopw [3, 42] (fun out i wr => ∃ j : Nat, j ≤ gn' ∧ i = .int .i64 j ∧ OfL w3 wr out ((G.take j).foldl (fun L c => addR L t (behR (E.take 2) [c])) L1)) (fun _ i _ => gn' - (intOf i).toNat)
            case atStart => exact ⟨0, Nat.zero_le _, rfl, HL4.out⟩
            case round =>
              obtain ⟨j, hj, rfl, hin⟩ := hrel
              obtain ⟨w5, rfl⟩ : ∃ w5 : World, w5 = wr := ⟨_, rfl⟩
              obtain ⟨A5, n5, c5, rfl⟩ := hin.slice
              have HI5 := Lib.hid hin
              have HA6 := Lib.hid (HI6.out.keep hin.1)
              have HA7 := Lib.hid (HI7.out.keep hin.1)
              have h5le := fold_add_le (fun c => behR (E.take 2) [c]) t (G.take j) L1
              have hjt : (G.take j).length ≤ 24 := by rw [List.length_take]; have := HGN.out; omega
              clear hin HL4 HADD
              by_cases hjl : j < gn'
              · rcases HA7.out.at with h0 | ⟨b7, off7, rfl, hb7, hc7⟩
                · exfalso; have := HGN.out; rw [h0] at this; simp at this; omega
                · obtain ⟨z, hz⟩ : ∃ z, G[j]? = some z := ⟨_, List.getElem?_eq_getElem (by have := HGN.out; omega)⟩
                  have hcz := hc7 j z hz
                  have HZ := Lib.hid (fold_snoc (fun L c => addR L t (behR (E.take 2) [c])) L1 G j z hz)
                  obtain ⟨LJ, hLJ⟩ : ∃ LJ, LJ = (G.take j).foldl (fun L c => addR L t (behR (E.take 2) [c])) L1 := ⟨_, rfl⟩
                  rw [← hLJ] at HI5 HZ h5le
                  have hmn : 0 ≤ min (en : Int) 2 := by omega
                  have hec := HA6.out.len
                  rw [← HEN.out] at hec
                  have hmx : min (en : Int) 2 ≤ (c6 : Int) := by omega
                  have HBH := Lib.hid (show Calls Try.prog 19 #[.slice A6 (min (en : Int) 2).toNat c6, .slice (some ⟨w5.heap.size, 0, none⟩) 1 1] (w5.alloc (.cells #[.int .i64 z] 3)) (RetZ (behR (E.take 2) [z]) (w5.alloc (.cells #[.int .i64 z] 3))) from
                    behind_on ((HA6.out.keep (below1 _ _)).front_min 2) (Ints.one w5 z 3) (by rw [List.length_take, ← HEN.out]; omega) rfl (by rw [List.length_take]; omega) (by simp))
                  have hbl := behR_le (E.take 2) [z]
                  have hbl2 : (E.take 2).length ≤ 2 := by rw [List.length_take]; omega
                  have hbl3 : (behR (E.take 2) [z]).length ≤ 200 := by simp only [List.length_singleton] at hbl; omega
                  have HAD2 := Lib.hid (fun (w6 : World) (A8 : Option Addr) (n8 c8 : Nat) (h : n8 = (behR (E.take 2) [z]).length ∧ Ints w6 A8 c8 (behR (E.take 2) [z]) ∧ Below (w5.alloc (.cells #[.int .i64 z] 3)).heap.size (w5.alloc (.cells #[.int .i64 z] 3)) w6) =>
                    add_on (t := t) ((HI5.out.call (below1 w5 (.cells #[.int .i64 z] 3))).call h.2.2) (by omega) h.2.1 h.1 hbl3)
                  clear hz hc7 hLJ hbl hbl2 hbl3 hec
                  go_wp2_with (first
                    | (go_at_call 19; (with_reducible refine HBH.out.mono ?_); rintro e w6 ⟨A8, n8, c8, rfl, h8⟩; have H8 := Lib.hid h8; clear h8)
                    | (go_at_call 18; (with_reducible refine (HAD2.out _ _ _ _ H8.out).mono ?_); rintro e w7 ⟨A9, n9, c9, rfl, hL9, -⟩; have HL9 := Lib.hid hL9; clear hL9)
                    | fail)
                  go_roundw
                  case rel => exact ⟨j + 1, by omega, by go_num, by rw [HZ.out]; exact HL9.out⟩
                  case measure => simp [intOf] <;> omega
              · obtain ⟨L2, hL2e⟩ : ∃ L2, L2 = G.foldl (fun L c => addR L t (behR (E.take 2) [c])) L1 := ⟨_, rfl⟩
                have hG : G.take j = G := List.take_of_length_le (by have := HGN.out; omega)
                rw [hG] at h5le
                rw [hG, ← hL2e] at HI5
                rw [← hL2e] at h5le
                have h2le : L2.length ≤ 630 := by have := HGN.out; omega
                have HL2E := Lib.hid hL2e
                clear h5le hG hL2e
                obtain ⟨B, hBe⟩ : ∃ B, B = behR E G := ⟨_, rfl⟩
                have hBl := behR_le E G
                rw [← hBe, ← HEN.out, ← HGN.out] at hBl
                have HBE := Lib.hid hBe
                have HBH := Lib.hid (show Calls Try.prog 19 #[.slice A6 en c6, .slice A7 gn' c7] w5 (RetZ B w5) from HBE.out ▸ behind_on HA6.out HA7.out HEN.out HGN.out (by have := HEN.out; omega) (by have := HGN.out; omega))
                clear hBe
                go_wp2_with (first
                  | (go_at_call 19; (with_reducible refine HBH.out.mono ?_); rintro e w6 ⟨A8, n8, c8, rfl, hn8, hI8, hB8⟩; have HN8 := Lib.hid hn8; have HI8 := Lib.hid hI8; have HB8 := Lib.hid hB8; clear hn8 hI8 hB8)
                  | fail)
                have h8l : n8 ≤ 48 := by have := HN8.out; omega
                go_loopw [3, 62] (fun out i wr => ∃ j : Nat, j ≤ n8 ∧ i = .int .i64 j ∧ Below w6.heap.size w6 wr ∧ OfL w3 wr out ((B.take j).foldl (fun L c => addR L t [c]) L2)) (fun _ i _ => n8 - (intOf i).toNat)
                case atStart => exact ⟨0, Nat.zero_le _, rfl, Below.refl _ _, HI5.out.call HB8.out⟩
                case round =>
                  obtain ⟨j3, hj3, rfl, hb6, hin⟩ := hrel
                  obtain ⟨w7, rfl⟩ : ∃ w7 : World, w7 = wr := ⟨_, rfl⟩
                  obtain ⟨A9, n9, c9, rfl⟩ := hin.slice
                  have HI9 := Lib.hid hin
                  have HB67 := Lib.hid hb6
                  have HA8 := Lib.hid (HI8.out.keep hb6)
                  have h7le := fold_add_le (fun c => [c]) t (B.take j3) L2
                  have hjt3 : (B.take j3).length ≤ 48 := by rw [List.length_take]; have := HN8.out; omega
                  clear hin hb6 HBH
                  by_cases hjl3 : j3 < n8
                  · rcases HA8.out.at with h0 | ⟨b8, off8, rfl, hb8, hc8⟩
                    · exfalso; have := HN8.out; rw [h0] at this; simp at this; omega
                    · obtain ⟨z, hz⟩ : ∃ z, B[j3]? = some z := ⟨_, List.getElem?_eq_getElem (by have := HN8.out; omega)⟩
                      have hcz := hc8 j3 z hz
                      have HZ := Lib.hid (fold_snoc (fun L c => addR L t [c]) L2 B j3 z hz)
                      obtain ⟨LJ, hLJ⟩ : ∃ LJ, LJ = (B.take j3).foldl (fun L c => addR L t [c]) L2 := ⟨_, rfl⟩
                      rw [← hLJ] at HI9 HZ h7le
                      have HAD2 := Lib.hid (show Calls Try.prog 18 #[.slice A9 n9 c9, .int .i64 t, .slice (some ⟨w7.heap.size, 0, none⟩) 1 1] (w7.alloc (.cells #[.int .i64 z] 3)) (RetL w3 (w7.alloc (.cells #[.int .i64 z] 3)) (addR LJ t [z])) from
                        add_on (HI9.out.call (below1 _ _)) (by omega) (Ints.one w7 z 3) rfl (by simp))
                      clear hz hc8 hLJ
                      go_wp2_with (first
                        | (go_at_call 18; (with_reducible refine HAD2.out.mono ?_); rintro e w10 ⟨A10, n10, c10, rfl, hL9, hB9⟩; have HL9 := Lib.hid hL9; have HB9 := Lib.hid (HB67.out.trans (((below1 w7 (.cells #[.int .i64 z] 3)).trans (hB9.mono (below1 w7 (.cells #[.int .i64 z] 3)).size)).mono HB67.out.size)); clear hL9 hB9)
                        | fail)
                      go_roundw
                      case rel => exact ⟨j3 + 1, by omega, by go_num, HB9.out, by rw [HZ.out]; exact HL9.out⟩
                      case measure => simp [intOf] <;> omega
                  · obtain ⟨L3, hL3e⟩ : ∃ L3, L3 = B.foldl (fun L c => addR L t [c]) L2 := ⟨_, rfl⟩
                    have hG : B.take j3 = B := List.take_of_length_le (by have := HN8.out; omega)
                    rw [hG] at h7le
                    rw [hG, ← hL3e] at HI9
                    rw [← hL3e] at h7le
                    have h3le : L3.length ≤ 700 := by have := HN8.out; omega
                    have HL3E := Lib.hid hL3e
                    clear h7le hG hL3e
                    have hwo7 : Below wo.heap.size wo w7 := HB3.out.trans (HI9.out.1.mono HB3.out.size)
                    have HWO7 := Lib.hid hwo7
                    obtain ⟨q0, q1, q2, q3, q4, q5, q6, q7, q8⟩ := box9 _ _ _ _ _ _ _ _ _ _ _ (BoxC.keep (OfIn.box HI.out) hwo7)
                    have hlt7 := heap_lt (BoxC.keep (OfIn.box HI.out) hwo7)
                    have HQ7 := Lib.hid ((HQ.out.keep HBW.out).keep hwo7)
                    have HOA := Lib.hid (orders_any ⟨some ⟨b, off, none⟩, tc, tabs, bA, bc, beg, width, wA, wc, wh, gA, gn, gc, grouped, iA, i_n, ic, oA, oc, ord, limit⟩ w7)
                    obtain ⟨o1, ho1⟩ : ∃ o1, o1 = ordersR ⟨some ⟨b, off, none⟩, tc, tabs, bA, bc, beg, width, wA, wc, wh, gA, gn, gc, grouped, iA, i_n, ic, oA, oc, ord, limit⟩ := ⟨_, rfl⟩
                    rw [← ho1] at HOA
                    have HO1 := Lib.hid ho1
                    obtain ⟨d1, hd1⟩ : ∃ d1, d1 = ord.any (·.2) := ⟨_, rfl⟩
                    have HD1 := Lib.hid hd1
                    obtain ⟨Y, hY⟩ : ∃ Y, Y = byR ⟨some ⟨b, off, none⟩, tc, tabs, bA, bc, beg, width, wA, wc, wh, gA, gn, gc, grouped, iA, i_n, ic, oA, oc, ord, limit⟩ k := ⟨_, rfl⟩
                    have HY := Lib.hid hY
                    have HYC := Lib.hid (show Y = if (o1 && !d1) = true then placesR ⟨some ⟨b, off, none⟩, tc, tabs, bA, bc, beg, width, wA, wc, wh, gA, gn, gc, grouped, iA, i_n, ic, oA, oc, ord, limit⟩ k (ord.map (·.1)) else [] by rw [hY, ho1, hd1]; rfl)
                    obtain ⟨L4, hL4e⟩ : ∃ L4, L4 = addR L3 t Y := ⟨_, rfl⟩
                    have HL4E := Lib.hid hL4e
                    have HFIN := Lib.hid (show ofk (k + 1) = if Y = [] then L4 else addR L4 t (behR E Y) by
                      rw [HSK.out, if_pos hkb, HTT.out, hL4e, HL3E.out, HL2E.out, HL1E.out, HL0E.out, HBE.out, HEE.out, HGG.out, hY]; rfl)
                    clear hwo7 ho1 hd1 hY hL4e
                    have HB03 := Lib.hid (HBW.out.trans (HB3.out.mono HBW.out.size))
                    have HBX3 := Lib.hid (BoxC.keep (OfIn.box HI.out) HB3.out)
                    cases o1 with
                    | false =>
                      have HYN := Lib.hid (show Y = [] by rw [HYC.out]; rfl)
                      have HADN := Lib.hid (fun (W : World) (hB : Below w7.heap.size w7 W) => show Calls Try.prog 18 #[.slice A9 n9 c9, .int .i64 t, .slice none 0 0] W (RetL w3 W L4) by rw [HL4E.out, HYN.out]; exact add_on (HI9.out.call hB) (by omega) (Ints.nil W) rfl (by simp))
                      go_wp2_with (first
                        | (go_at_call 20; (with_reducible refine HOA.out.mono ?_); rintro e w8 ⟨rfl, hB8⟩; have HB78 := Lib.hid hB8; clear hB8)
                        | (go_at_call 18; (with_reducible refine (HADN.out _ HB78.out).mono ?_); rintro e w10 ⟨A10, n10, c10, rfl, hL9, -⟩; have HL9 := Lib.hid hL9; clear hL9)
                        | fail)
                      go_roundw
                      case rel => exact ⟨k + 1, by omega, by go_num, by rw [HFIN.out, if_pos HYN.out]; exact HL9.out.toIn HB03.out HBX3.out⟩
                      case measure => simp [intOf] <;> omega
                    | true =>
                      have HDN := Lib.hid (fun (W : World) (hB : Below w7.heap.size w7 W) => show Calls Try.prog 21 #[.slice oA ord.length oc, .func (.func 22) #[] #[]] W (RetV (.bool d1) W) from HD1.out ▸ down_any oA oc ord W (HQ7.out.keep hB).2.2.2)
                      cases d1 with
                      | true =>
                        have HYN := Lib.hid (show Y = [] by rw [HYC.out]; rfl)
                        have HADN := Lib.hid (fun (W : World) (hB : Below w7.heap.size w7 W) => show Calls Try.prog 18 #[.slice A9 n9 c9, .int .i64 t, .slice none 0 0] W (RetL w3 W L4) by rw [HL4E.out, HYN.out]; exact add_on (HI9.out.call hB) (by omega) (Ints.nil W) rfl (by simp))
                        go_wp2_with (first
                          | (go_at_call 20; (with_reducible refine HOA.out.mono ?_); rintro e w8 ⟨rfl, hB8⟩; have HB78 := Lib.hid hB8; have r7 := cell_kept q7 hB8; clear hB8)
                          | (go_at_call 21; (with_reducible refine (HDN.out _ HB78.out).mono ?_); rintro e w9 ⟨rfl, hB9⟩; have HB79 := Lib.hid (HB78.out.trans (hB9.mono HB78.out.size)); clear hB9)
                          | (go_at_call 18; (with_reducible refine (HADN.out _ HB79.out).mono ?_); rintro e w10 ⟨A10, n10, c10, rfl, hL9, -⟩; have HL9 := Lib.hid hL9; clear hL9)
                          | fail)
                        go_roundw
                        case rel => exact ⟨k + 1, by omega, by go_num, by rw [HFIN.out, if_pos HYN.out]; exact HL9.out.toIn HB03.out HBX3.out⟩
                        case measure => simp [intOf] <;> omega
                      | false =>
                        go_wp2_with (first
                          | (go_at_call 20; (with_reducible refine HOA.out.mono ?_); rintro e w8 ⟨rfl, hB8⟩; have HB78 := Lib.hid hB8; have r7 := cell_kept q7 hB8; clear hB8)
                          | (go_at_call 21; (with_reducible refine (HDN.out _ HB78.out).mono ?_); rintro e w9 ⟨rfl, hB9⟩; have HB79 := Lib.hid (HB78.out.trans (hB9.mono HB78.out.size)); have s7 := cell_kept r7 hB9; clear hB9)
                          | fail)
                        go_loopw [12, 83] (fun out i wr => ∃ j : Nat, j ≤ ord.length ∧ i = .int .i64 j ∧ ByIn w9 wr out ((ord.take j).map (·.1))) (fun _ i _ => ord.length - (intOf i).toNat)
                        case atStart => exact ⟨0, Nat.zero_le _, rfl, ByIn.start _⟩
                        case round =>
                          obtain ⟨j4, hj4, rfl, hin⟩ := hrel
                          obtain ⟨w10, rfl⟩ : ∃ w10 : World, w10 = wr := ⟨_, rfl⟩
                          obtain ⟨zs, hzs⟩ : ∃ zs, zs = (ord.take j4).map (·.1) := ⟨_, rfl⟩
                          rw [← hzs] at hin
                          have HZS := Lib.hid hzs
                          have HZL := Lib.hid (show zs.length = j4 by rw [hzs, List.length_map, List.length_take]; omega)
                          have HI10 := Lib.hid hin
                          have h710 : Below w7.heap.size w7 w10 := HB79.out.trans (hin.1.mono HB79.out.size)
                          have HB710 := Lib.hid h710
                          have HQ10 := Lib.hid (HQ7.out.keep h710)
                          obtain ⟨A11, c11, hv, -⟩ := hin.toI
                          subst hv
                          clear hin hzs h710
                          by_cases hjl4 : j4 < ord.length
                          · rcases HQ10.out.2.2.2.2 with h0 | ⟨bo, offo, rfl, hbo, hco⟩
                            · exfalso; dsimp only at h0; rw [h0] at hjl4; simp at hjl4
                            · obtain ⟨⟨sa, sd⟩, hs⟩ : ∃ s, ord[j4]? = some s := ⟨_, List.getElem?_eq_getElem hjl4⟩
                              obtain ⟨hk0, hk1⟩ := hco j4 _ hs
                              dsimp only at hk0 hk1
                              have HZ := Lib.hid (show (ord.take (j4 + 1)).map (·.1) = zs ++ [sa] by rw [HZS.out, List.take_add_one, hs]; simp)
                              have H47 := Lib.hid (show zs.length + 1 ≤ maxLen ∧ (zs.length + 1) * 8 ≤ 140737488355328 by have := HZL.out; unfold maxLen; omega)
                              obtain ⟨i0, hi0, hz0, hz1, hz2⟩ := info_parts info3
                              clear hco hs
                              go_wp2_with (first
                                | (at_builtin
                                   refine list_append _ (by rfl) (.tmp 87) (.tmp 90) 22 (by rfl) w9.heap.size 3 i0 (.int .i64 0) 8 Try.underlying22 hi0 hz0 hz1 hz2 (by rfl) (.slice A11 zs.length c11) zs.length (intsV zs) (by rfl)
                                     ((HI10.out.call (below1 w10 _)).call (below1 _ _)).own (w10.heap.size + 1 + 1) _ 1 1 [.int .i64 sa] (by rfl) (Src.new2 _ _ _ _) ?_ ?_ ?_ ?_ ?_
                                   · intro u hu; obtain rfl := List.mem_singleton.1 hu; rfl
                                   · exact H47.out.1
                                   · exact H47.out.2
                                   · have := HI10.out.1.size; simp; omega
                                   intro v1 w11 hown1 hg1 hat1
                                   have HI11 := Lib.hid (((HI10.out.call (below1 w10 (.cells #[.int .i64 sa, .bool sd] 44))).call (below1 _ _)).app hg1 hown1)
                                   clear hat1 hg1 hown1)
                                | fail)
                              go_roundw
                              case rel => exact ⟨j4 + 1, by omega, by go_num, by rw [HZ.out]; exact HI11.out⟩
                              case measure => simp [intOf] <;> omega
                          · have hlz := HZL.out
                            have HYZ := Lib.hid (show Y = placesR ⟨some ⟨b, off, none⟩, tc, tabs, bA, bc, beg, width, wA, wc, wh, gA, gn, gc, grouped, iA, i_n, ic, oA, oc, ord, limit⟩ k zs by
                              have : zs = ord.map (·.1) := by rw [HZS.out, List.take_of_length_le (by omega)]
                              rw [HYC.out, this]; rfl)
                            have HPL := Lib.hid (show Calls Try.prog 23 #[qV ⟨some ⟨b, off, none⟩, tc, tabs, bA, bc, beg, width, wA, wc, wh, gA, gn, gc, grouped, iA, i_n, ic, oA, oc, ord, limit⟩, .int .i64 (k : Int), .slice A11 zs.length c11] w10 (RetZ Y w10) from by
                              rw [HYZ.out]
                              obtain ⟨A', c', hv, hI⟩ := HI10.out.toI
                              cases hv
                              exact places_on HQ10.out hI rfl (by omega))
                            have hYl : Y.length ≤ 6 := by rw [HYZ.out]; exact Nat.le_trans (placesR_le _ _ _) (by omega)
                            have hbx10 := BoxC.keep (OfIn.box HI.out) (HWO7.out.trans (HB710.out.mono HWO7.out.size))
                            clear q0 q1 q2 q3 q4 q5 q6 q7 q8
                            obtain ⟨q0, q1, q2, q3, q4, q5, q6, q7, q8⟩ := box9 _ _ _ _ _ _ _ _ _ _ _ hbx10
                            have hlt10 := heap_lt hbx10
                            have HAD3 := Lib.hid (fun (W : World) (A12 : Option Addr) (n12 c12 : Nat) (h : n12 = Y.length ∧ Ints W A12 c12 Y ∧ Below w10.heap.size w10 W) => show Calls Try.prog 18 #[.slice A9 n9 c9, .int .i64 t, .slice A12 n12 c12] W (RetL w3 W L4) from HL4E.out ▸ add_on ((HI9.out.call HB710.out).call h.2.2) (by omega) h.2.1 h.1 (by omega))
                            clear hbx10 hlz
                            by_cases hYn : Y = []
                            · have HYN := Lib.hid hYn
                              clear hYn
                              go_wp2_with (first
                                | (go_at_call 23; (with_reducible refine HPL.out.mono ?_); rintro e w11 ⟨A12, n12, c12, rfl, h12⟩; have H12 := Lib.hid h12; obtain rfl : n12 = 0 := (by rw [h12.1, HYN.out]; rfl); clear h12)
                                | (go_at_call 18; (with_reducible refine (HAD3.out _ _ _ _ H12.out).mono ?_); rintro e w12 ⟨A13, n13, c13, rfl, hL9, -⟩; have HL9 := Lib.hid hL9; clear hL9)
                                | fail)
                              go_roundw
                              case rel => exact ⟨k + 1, by omega, by go_num, by rw [HFIN.out, if_pos HYN.out]; exact HL9.out.toIn HB03.out HBX3.out⟩
                              case measure => simp [intOf] <;> omega
                            · have HYN := Lib.hid hYn
                              have hY0 : 0 < Y.length := List.length_pos_iff.2 hYn
                              clear hYn
                              have hb5 := behR_le E Y
                              have HBH2 := Lib.hid (fun (W : World) (A12 : Option Addr) (n12 c12 : Nat) (h3 : Below w3.heap.size w3 W) (h1 : n12 = Y.length) (h2 : Ints W A12 c12 Y) => show Calls Try.prog 19 #[.slice A6 en c6, .slice A12 n12 c12] W (RetZ (behR E Y) W) from behind_on (HI6.out.keep h3) h2 HEN.out h1 (by have := HEN.out; omega) (by omega))
                              have h4le := addR_le L3 t Y
                              rw [← HL4E.out] at h4le
                              have HAD4 := Lib.hid (fun (W : World) (A12 A13 : Option Addr) (n12 c12 n13 c13 : Nat) (h : OfL w3 W (.slice A13 n13 c13) L4) (h1 : n12 = (behR E Y).length) (h2 : Ints W A12 c12 (behR E Y)) => show Calls Try.prog 18 #[.slice A13 n13 c13, .int .i64 t, .slice A12 n12 c12] W (RetL w3 W (addR L4 t (behR E Y))) from add_on h (by omega) h2 h1 (by have := HEN.out; omega))
                              go_wp2_with (first
                                | (go_at_call 23; (with_reducible refine HPL.out.mono ?_); rintro e w11 ⟨A12, n12, c12, rfl, h12⟩; have H12 := Lib.hid h12; have hn0 : 0 < n12 := (by rw [h12.1]; exact hY0); clear h12)
                                | (go_at_call 18; (with_reducible refine (HAD3.out _ _ _ _ H12.out).mono ?_); rintro e w12 ⟨A13, n13, c13, rfl, hL9, hB12⟩; have HL9 := Lib.hid hL9; have HI13 := Lib.hid (H12.out.2.1.keep hB12); clear hL9 hB12)
                                | (go_at_call 19; (with_reducible refine (HBH2.out _ _ _ _ HL9.out.below H12.out.1 HI13.out).mono ?_); rintro e w13 ⟨A14, n14, c14, rfl, h14⟩; have H14 := Lib.hid h14; clear h14)
                                | (go_at_call 18; (with_reducible refine (HAD4.out _ _ _ _ _ _ _ (HL9.out.call H14.out.2.2) H14.out.1 H14.out.2.1).mono ?_); rintro e w14 ⟨A15, n15, c15, rfl, hL15, -⟩; have HL15 := Lib.hid hL15; clear hL15)
                                | fail)
                              go_roundw
                              case rel => exact ⟨k + 1, by omega, by go_num, by rw [HFIN.out, if_neg HYN.out]; exact HL15.out.toIn HB03.out HBX3.out⟩
                              case measure => simp [intOf] <;> omega
        · have hkb' : ¬ (k : Int) < (beg.length : Int) := by omega
          have HE := Lib.hid (show R = ofk k by rw [HR.out, show tabs.length = k + (tabs.length - k) by omega]; exact HST.out k _ (by omega))
          go_wp2_with fail
          go_ret
          exact ⟨ds, A0, c0, by rw [HE.out]; exact HL.out, rfl, HDD.out, HBW.out⟩
    · have HE := Lib.hid (show R = ofk k by rw [HR.out, show tabs.length = k by omega])
      go_wp2_with fail
      go_ret
      exact ⟨ds, A0, c0, by rw [HE.out]; exact HL.out, rfl, HDD.out, HBW.out⟩
end Go.Proofs.Ytcnkghcdjicldaa
