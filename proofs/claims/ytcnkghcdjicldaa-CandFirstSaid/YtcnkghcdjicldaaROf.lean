/- The walk of the document's Of. -/
import Derived.Test.YtcnkghcdjicldaaROrder
import Derived.Test.YtcnkghcdjicldaaRAdd
import Derived.Test.YtcnkghcdjicldaaOf
namespace Go.Proofs.Ytcnkghcdjicldaa
open Go.RowKit

theorem radd_on {w3 wr : World} {A cA : Option Addr} {n c m cc : Nat} {L : List (Int × List Int)} {t : Int} {cols : List Int} (h : OfL w3 wr (.slice A n c) L) (hL : L.length ≤ 800) (hc : Ints wr cA cc cols) (hm : m = cols.length) :
    Calls Try.prog 25 #[.slice A n c, .int .i64 t, .slice cA m cc] wr (RetL w3 wr (addR L t cols)) := by
  obtain ⟨h1, ds, A', c', h3, rfl, h5⟩ := h
  cases h3
  subst hm
  exact (radd_any A cA c cc ds t cols wr h5 hc (by simpa [pureD] using hL)).mono fun e w' ⟨ds', A1, c1, g1, g2, g3, g4⟩ => ⟨A1, _, c1, g2, ⟨h1.trans (g4.mono h1.size), ds', A1, c1, rfl, g1, g3⟩, g4⟩
theorem toZ {zs : List Int} {w w' : World} {e : Ending} (h : RetI zs w e w') : RetZ zs w e w' := by
  obtain ⟨A, c, g1, g2, g3⟩ := h
  exact ⟨A, _, c, g1, rfl, g2, g3⟩
theorem together_on {w : World} {A1 A2 : Option Addr} {n1 n2 c1 c2 : Nat} {a l : List Int} (h1 : Ints w A1 c1 a) (h2 : Ints w A2 c2 l) (hn1 : n1 = a.length) (hn2 : n2 = l.length) (hb : a.length ≤ 100) (hb2 : l.length ≤ 100) :
    Calls Try.prog 28 #[.slice A1 n1 c1, .slice A2 n2 c2] w (RetZ (behR a l) w) := by
  subst hn1 hn2
  exact (together_any A1 A2 c1 c2 a l w h1 h2 hb hb2).mono fun e w' h => toZ h
theorem rheld_on (q : Qd) (f : Nat) (eq : Bool) (w : World) (hq : QAt w q) (hw : q.wh.length ≤ 12) :
    Calls Try.prog 24 #[qV q, .int .i64 (f : Int), .bool eq] w (RetZ (heldR q f (opsOf eq)) w) := (rheld_any q f eq w hq hw).mono fun _ _ h => toZ h
theorem rorder_on (q : Qd) (f : Nat) (w : World) (hq : QAt w q) (ho : q.ord.length ≤ 6) : Calls Try.prog 29 #[qV q, .int .i64 (f : Int)] w (RetZ (byR q f) w) := (rorder_any q f w hq ho).mono fun _ _ h => toZ h
theorem first_on {w : World} {A : Option Addr} {n c : Nat} {a : List Int} (h : Ints w A c a) (hn : n = a.length) : Calls Try.prog 27 #[.slice A n c, .int .i64 2] w (fun e w' => ∃ n' : Nat, e = .returned (.slice A n' c) ∧ n' = (a.take 2).length ∧ w = w') := by
  subst hn
  exact (first_any A c a 2 w h (by omega)).mono fun e w' h => ⟨_, h.1, rfl, h.2⟩
theorem once_on {w : World} {A : Option Addr} {n c : Nat} {a : List Int} {x : Int} (h : Ints w A c a) (hn : n = a.length) (hb : a.length ≤ 500) : Calls Try.prog 26 #[.slice A n c, .int .i64 x] w (RetZ (behR a [x]) w) := by
  subst hn
  exact (once_any A c a x w h hb).mono fun _ _ h => toZ h
set_option maxRecDepth 100000 in
set_option maxHeartbeats 16000000 in
theorem of11_any (q : Qd) (w : World) (hq : QAt w q) (hb1 : q.tabs.length ≤ 6) (hb3 : q.wh.length ≤ 12) (hb4 : q.ord.length ≤ 6) : Calls Try.prog 11 #[qV q] w (RetD (ofR q) w) := by
  have HLK := Lib.hid (ofK_le q)
  have HST := Lib.hid (ofK_stop q)
  obtain ⟨tA, tc, tabs, bA, bc, beg, width, wA, wc, wh, gA, gn, gc, grouped, iA, i_n, ic, oA, oc, ord, limit⟩ := q
  have HT := Lib.hid hq.1.at
  have HQ := Lib.hid hq
  have hbs := hq.2.1.small
  unfold maxLen at hbs
  obtain ⟨ofk, hofk⟩ : ∃ g, g = ofK ⟨tA, tc, tabs, bA, bc, beg, width, wA, wc, wh, gA, gn, gc, grouped, iA, i_n, ic, oA, oc, ord, limit⟩ := ⟨_, rfl⟩
  have HOK := Lib.hid (show ∀ k, ofk (k + 1) = if k < beg.length then stepR ⟨tA, tc, tabs, bA, bc, beg, width, wA, wc, wh, gA, gn, gc, grouped, iA, i_n, ic, oA, oc, ord, limit⟩ (ofk k) k (tabs.getD k 0) else ofk k from fun k => by rw [hofk]; rfl)
  have HO0 := Lib.hid (show ofk 0 = [] by rw [hofk]; rfl)
  rw [← hofk] at HLK HST
  have HR := Lib.hid (show ofR ⟨tA, tc, tabs, bA, bc, beg, width, wA, wc, wh, gA, gn, gc, grouped, iA, i_n, ic, oA, oc, ord, limit⟩ = ofk tabs.length by rw [hofk]; rfl)
  obtain ⟨R, hR⟩ : ∃ R, R = ofR ⟨tA, tc, tabs, bA, bc, beg, width, wA, wc, wh, gA, gn, gc, grouped, iA, i_n, ic, oA, oc, ord, limit⟩ := ⟨_, rfl⟩
  rw [← hR] at HR ⊢
  dsimp only at HT HLK HST hb1 hb3 hb4 hbs
  unfold qV Qd.cells
  dsimp only
  have HQQ := Lib.hid (show OfIn w (w.alloc (.cells #[.slice tA tabs.length tc, .slice bA beg.length bc, .int .i64 width, .slice wA wh.length wc, .slice gA gn gc, .bool grouped, .slice iA i_n ic, .slice oA ord.length oc, .int .i64 limit] 26)) #[.slice tA tabs.length tc, .slice bA beg.length bc, .int .i64 width, .slice wA wh.length wc, .slice gA gn gc, .bool grouped, .slice iA i_n ic, .slice oA ord.length oc, .int .i64 limit] (.slice none 0 0) [] from ⟨below1 _ _, heap_alloc_new w _, [], none, 0, rfl, rfl, DefsAt.nil _⟩)
  clear hR hofk hq
  go_enter Try.func11, Try.ntmps11
  go_wp2_with fail
  go_loopw [3, 4] (fun out i wr => ∃ k : Nat, k ≤ tabs.length ∧ i = .int .i64 k ∧ OfIn w wr #[.slice tA tabs.length tc, .slice bA beg.length bc, .int .i64 width, .slice wA wh.length wc, .slice gA gn gc, .bool grouped, .slice iA i_n ic, .slice oA ord.length oc, .int .i64 limit] out (ofk k)) (fun _ i _ => tabs.length - (intOf i).toNat)
  case atStart => exact ⟨0, Nat.zero_le _, rfl, by rw [HO0.out]; exact HQQ.out⟩
  case round =>
    obtain ⟨k, hk, rfl, hin⟩ := hrel
    obtain ⟨wo, rfl⟩ : ∃ wo : World, wo = wr := ⟨_, rfl⟩
    have HI := Lib.hid hin
    obtain ⟨hbw, hbx, ds, A0, c0, rfl, hL, hD⟩ := hin
    obtain ⟨q0, q1, q2, q3, q4, q5, q6, q7, q8⟩ := box9 _ _ _ _ _ _ _ _ _ _ _ hbx
    have HDD := Lib.hid hD
    have HL := Lib.hid hL
    have HBW := Lib.hid hbw
    have hlt0 := heap_lt hbx
    clear hL hD hbx hbw
    by_cases hlt : k < tabs.length
    · rcases HT.out with h0 | ⟨b, off, rfl, hbl, hc⟩
      · exfalso; rw [h0] at hlt; simp at hlt
      · obtain ⟨t, ht⟩ : ∃ t, tabs[k]? = some t := ⟨_, List.getElem?_eq_getElem hlt⟩
        have hct := (HBW.out.cell (p := ⟨b, off + k, none⟩) hbl).trans (hc k t ht)
        have HTT := Lib.hid (getD_of ht)
        clear hc ht HT HQQ
        by_cases hkb : k < beg.length
        · have hkb' : (k : Int) < (beg.length : Int) := by omega
          have HE1 := Lib.hid (fun (W : World) (hB : Below wo.heap.size wo W) => rheld_on _ k true W ((HQ.out.keep HBW.out).keep hB) hb3)
          have HE2 := Lib.hid (fun (W : World) (hB : Below wo.heap.size wo W) => rheld_on _ k false W ((HQ.out.keep HBW.out).keep hB) hb3)
          have HSK := Lib.hid (HOK.out k)
          obtain ⟨E, hE⟩ : ∃ E, E = heldR ⟨some ⟨b, off, none⟩, tc, tabs, bA, bc, beg, width, wA, wc, wh, gA, gn, gc, grouped, iA, i_n, ic, oA, oc, ord, limit⟩ k eqOps := ⟨_, rfl⟩
          obtain ⟨G, hG⟩ : ∃ G, G = heldR ⟨some ⟨b, off, none⟩, tc, tabs, bA, bc, beg, width, wA, wc, wh, gA, gn, gc, grouped, iA, i_n, ic, oA, oc, ord, limit⟩ k rangeOps := ⟨_, rfl⟩
          change Hid (∀ W, Below wo.heap.size wo W → Calls _ _ _ _ (RetZ (heldR ⟨some ⟨b, off, none⟩, tc, tabs, bA, bc, beg, width, wA, wc, wh, gA, gn, gc, grouped, iA, i_n, ic, oA, oc, ord, limit⟩ k eqOps) W)) at HE1
          change Hid (∀ W, Below wo.heap.size wo W → Calls _ _ _ _ (RetZ (heldR ⟨some ⟨b, off, none⟩, tc, tabs, bA, bc, beg, width, wA, wc, wh, gA, gn, gc, grouped, iA, i_n, ic, oA, oc, ord, limit⟩ k rangeOps) W)) at HE2
          rw [← hE] at HE1
          rw [← hG] at HE2
          have HEE := Lib.hid hE
          have HGG := Lib.hid hG
          have hW0 : Below wo.heap.size wo wo.drew := (Below.refl _ _).drew
          have hEl : E.length ≤ 24 := by have := held_le ⟨some ⟨b, off, none⟩, tc, tabs, bA, bc, beg, width, wA, wc, wh, gA, gn, gc, grouped, iA, i_n, ic, oA, oc, ord, limit⟩ k eqOps; rw [← hE] at this; dsimp only at this; omega
          have hGl : G.length ≤ 24 := by have := held_le ⟨some ⟨b, off, none⟩, tc, tabs, bA, bc, beg, width, wA, wc, wh, gA, gn, gc, grouped, iA, i_n, ic, oA, oc, ord, limit⟩ k rangeOps; rw [← hG] at this; dsimp only at this; omega
          clear hE hG
          go_upto_region 6 with (fail)
          go_cut [5, 6, 7] from 12 to 89 (fun s5 s6 s7 wc => s5 = .int .i64 t ∧ Below wo.heap.size wo wc ∧ ∃ A6 n6 c6 A7 n7 c7, s6 = .slice A6 n6 c6 ∧ s7 = .slice A7 n7 c7 ∧ n6 = E.length ∧ n7 = G.length ∧ Ints wc A6 c6 E ∧ Ints wc A7 c7 G)
          case first =>
            have HSX := Lib.hid (show ∀ wx, Below wo.heap.size wo wx → wx.cell? ⟨w.heap.size, 0, none⟩ = some (.slice (some ⟨b, off, none⟩) tabs.length tc) ∧ wx.cell? ⟨w.heap.size, 1, none⟩ = some (.slice bA beg.length bc) ∧ wx.cell? ⟨w.heap.size, 2, none⟩ = some (.int .i64 width) ∧ wx.cell? ⟨w.heap.size, 3, none⟩ = some (.slice wA wh.length wc) ∧ wx.cell? ⟨w.heap.size, 4, none⟩ = some (.slice gA gn gc) ∧ wx.cell? ⟨w.heap.size, 5, none⟩ = some (.bool grouped) ∧ wx.cell? ⟨w.heap.size, 6, none⟩ = some (.slice iA i_n ic) ∧ wx.cell? ⟨w.heap.size, 7, none⟩ = some (.slice oA ord.length oc) ∧ wx.cell? ⟨w.heap.size, 8, none⟩ = some (.int .i64 limit) ∧ w.heap.size < wx.heap.size ∧ Below wo.heap.size wo wx from fun wx h => by
              obtain ⟨q0, q1, q2, q3, q4, q5, q6, q7, q8⟩ := box9 _ _ _ _ _ _ _ _ _ _ _ (BoxC.keep (OfIn.box HI.out) h)
              exact ⟨q0, q1, q2, q3, q4, q5, q6, q7, q8, heap_lt (BoxC.keep (OfIn.box HI.out) h), h⟩)
            go_region_held3 (fun wx => wx.cell? ⟨w.heap.size, 0, none⟩ = some (.slice (some ⟨b, off, none⟩) tabs.length tc) ∧ wx.cell? ⟨w.heap.size, 1, none⟩ = some (.slice bA beg.length bc) ∧ wx.cell? ⟨w.heap.size, 2, none⟩ = some (.int .i64 width) ∧ wx.cell? ⟨w.heap.size, 3, none⟩ = some (.slice wA wh.length wc) ∧ wx.cell? ⟨w.heap.size, 4, none⟩ = some (.slice gA gn gc) ∧ wx.cell? ⟨w.heap.size, 5, none⟩ = some (.bool grouped) ∧ wx.cell? ⟨w.heap.size, 6, none⟩ = some (.slice iA i_n ic) ∧ wx.cell? ⟨w.heap.size, 7, none⟩ = some (.slice oA ord.length oc) ∧ wx.cell? ⟨w.heap.size, 8, none⟩ = some (.int .i64 limit) ∧ w.heap.size < wx.heap.size ∧ Below wo.heap.size wo wx)
              (first
                | exact HSX.out _ hW0
                | (with_reducible assumption)
                | exact HSX.out _ hW2
                | exact HSX.out _ hW5
                | fail)
              (first
              | (go_at_call 24; (with_reducible refine (HE1.out _ ?_).mono ?_)
                 · first | exact hW2 | exact hW0
                 rintro e w4 ⟨A6, n6, c6, rfl, h6, hI6, hB⟩
                 have hW2 : Below wo.heap.size wo w4 := (by first | exact hW2.trans (hB.mono hW2.size) | exact hW0.trans (hB.mono hW0.size))
                 have H6 := Lib.hid h6
                 clear h6
                 try (have hI7 := hI7.keep hB))
              | (go_at_call 24; (with_reducible refine (HE2.out _ ?_).mono ?_)
                 · first | exact hW2 | exact hW0
                 rintro e w5 ⟨A7, n7, c7, rfl, h7, hI7, hB⟩
                 have hW2 : Below wo.heap.size wo w5 := (by first | exact hW2.trans (hB.mono hW2.size) | exact hW0.trans (hB.mono hW0.size))
                 have H7 := Lib.hid h7
                 clear h7
                 try (have hI6 := hI6.keep hB))
              | fail)
            all_goals
              have HFI := Lib.hid (And.intro hW2 (And.intro H6.out (And.intro H7.out (And.intro hI6 hI7))))
              clear hI6 hI7
              go_wp2_with fail
              go_meet
              exact ⟨rfl, HFI.out.1, A6, n6, c6, A7, n7, c7, rfl, rfl, HFI.out.2.1, HFI.out.2.2.1, HFI.out.2.2.2.1, HFI.out.2.2.2.2⟩
          case rest =>
            obtain ⟨rfl, hbo, A6, en, c6, A7, gn', c7, rfl, rfl, hen, hgn, hI6, hI7⟩ := hcut
            obtain ⟨w3, rfl⟩ : ∃ w3 : World, w3 = wc := ⟨_, rfl⟩
            have HB3 := Lib.hid hbo
            have HI6 := Lib.hid hI6
            have HI7 := Lib.hid hI7
            have HD3 := Lib.hid (HDD.out.keep hbo)
            have hdl : ds.length ≤ 600 := by
              have h1 := HLK.out k
              rw [← HL.out] at h1
              have h2 : (pureD ds).length = ds.length := by simp [pureD]
              have h3 : k * (8 * wh.length + 3) ≤ 6 * 99 := Nat.mul_le_mul (by omega) (by omega)
              omega
            clear hbo hI6 hI7 q0 q1 q2 q3 q4 q5 q6 q7 q8 HE1 HE2
            have hL0 : OfL w3 w3 (.slice A0 ds.length c0) (ofk k) := ⟨Below.refl _ _, ds, A0, c0, rfl, HL.out, HD3.out⟩
            have HL0 := Lib.hid hL0
            have h0le : (ofk k).length ≤ 600 := by have h2 : (pureD ds).length = ds.length := by simp [pureD]
                                                   rw [← HL.out, h2]; exact hdl
            have HEN := Lib.hid hen
            have HGN := Lib.hid hgn
            have hEl' : en ≤ 24 := by omega
            have hGl' : gn' ≤ 24 := by omega
            obtain ⟨L0, hL0e⟩ : ∃ L0, L0 = ofk k := ⟨_, rfl⟩
            have HL0E := Lib.hid hL0e
            rw [← hL0e] at HL0 h0le
            obtain ⟨L1, hL1e⟩ : ∃ L1, L1 = addR L0 t E := ⟨_, rfl⟩
            have HL1E := Lib.hid hL1e
            have h1le := addR_le L0 t E
            rw [← hL1e] at h1le
            have HADD := Lib.hid (show Calls Try.prog 25 #[.slice A0 ds.length c0, .int .i64 t, .slice A6 en c6] w3 (RetL w3 w3 L1) from HL1E.out ▸ radd_on HL0.out (by omega) HI6.out HEN.out)
            clear hen hgn hL0 hL0e hL1e
            go_wp2_with (first
              | (go_at_call 25; (with_reducible refine HADD.out.mono ?_); rintro e w4 ⟨A1, n1, c1, rfl, hL4, -⟩; have HL4 := Lib.hid hL4; clear hL4)
              | fail)
            go_loopw [3, 8] (fun out i wr => ∃ j : Nat, j ≤ gn' ∧ i = .int .i64 j ∧ OfL w3 wr out ((G.take j).foldl (fun L c => addR L t (behR (E.take 2) [c])) L1)) (fun _ i _ => gn' - (intOf i).toNat)
            case atStart => exact ⟨0, Nat.zero_le _, rfl, HL4.out⟩
            case round =>
              obtain ⟨j, hj, rfl, hin⟩ := hrel
              obtain ⟨w5, rfl⟩ : ∃ w5 : World, w5 = wr := ⟨_, rfl⟩
              obtain ⟨A5, n5, c5, rfl⟩ := hin.slice
              have HI5 := Lib.hid hin
              have HA6 := Lib.hid (HI6.out.keep hin.1)
              have HA7 := Lib.hid (HI7.out.keep hin.1)
              have h5le := fold_add_le (fun c => behR (E.take 2) [c]) t (G.take j) L1
              have hjt : (G.take j).length ≤ 24 := by rw [List.length_take]; have := HGN.out; omega
              clear hin HL4 HADD
              by_cases hjl : j < gn'
              · rcases HA7.out.at with h0 | ⟨b7, off7, rfl, hb7, hc7⟩
                · exfalso; have := HGN.out; rw [h0] at this; simp at this; omega
                · obtain ⟨z, hz⟩ : ∃ z, G[j]? = some z := ⟨_, List.getElem?_eq_getElem (by have := HGN.out; omega)⟩
                  have hcz := hc7 j z hz
                  have HZ := Lib.hid (fold_snoc (fun L c => addR L t (behR (E.take 2) [c])) L1 G j z hz)
                  obtain ⟨LJ, hLJ⟩ : ∃ LJ, LJ = (G.take j).foldl (fun L c => addR L t (behR (E.take 2) [c])) L1 := ⟨_, rfl⟩
                  rw [← hLJ] at HI5 HZ h5le
                  have HF27 := Lib.hid (fun (W : World) (hB : Below w5.heap.size w5 W) => first_on (HA6.out.keep hB) HEN.out)
                  have hbl2 : (E.take 2).length ≤ 2 := by rw [List.length_take]; omega
                  have HO26 := Lib.hid (fun (W : World) (n : Nat) (hB : Below w5.heap.size w5 W) (hn : n = (E.take 2).length) => once_on (x := z) ((HA6.out.keep hB).front_min 2) hn (by omega))
                  have HAD2 := Lib.hid (fun (w6 : World) (A8 : Option Addr) (n8 c8 : Nat) (hB : Below w5.heap.size w5 w6) (h : n8 = (behR (E.take 2) [z]).length) (h2 : Ints w6 A8 c8 (behR (E.take 2) [z])) =>
                    radd_on (t := t) (HI5.out.call hB) (by omega) h2 h)
                  have HSZ := Lib.hid (show ∀ wx, Below w5.heap.size w5 wx → Below w5.heap.size w5 wx ∧ wx.cell? ⟨b7, off7 + j, none⟩ = some (.int .i64 z) ∧ b7 < wx.heap.size from fun wx h => ⟨h, cell_kept hcz h, Nat.lt_of_lt_of_le hb7 h.size⟩)
                  have hW0 : Below w5.heap.size w5 w5.drew := (Below.refl _ _).drew
                  clear hz hc7 hLJ hbl2
                  go_wp2_with fail
                  go_upto_region 11 with (fail)
                  go_region_held3 (fun wx => Below w5.heap.size w5 wx ∧ wx.cell? ⟨b7, off7 + j, none⟩ = some (.int .i64 z) ∧ b7 < wx.heap.size)
                    (first
                      | exact HSZ.out _ hW0
                      | (with_reducible assumption)
                      | exact HSZ.out _ hW6
                      | exact HSZ.out _ hW7
                      | fail)
                    (first
                    | (go_at_call 27; (with_reducible refine (HF27.out _ hW0).mono ?_); rintro e w6 ⟨n', rfl, hn', rfl⟩; have HN' := Lib.hid hn'; clear hn')
                    | (go_at_call 26; (with_reducible refine (HO26.out _ _ hW0 HN'.out).mono ?_); rintro e w6 ⟨A8, n8, c8, rfl, hn8, hI8, hB8⟩; have hW6 := hW0.trans (hB8.mono hW0.size); have H8 := Lib.hid (And.intro hn8 hI8); clear hn8 hI8 hB8)
                    | (go_at_call 25; (with_reducible refine (HAD2.out _ _ _ _ hW6 H8.out.1 H8.out.2).mono ?_); rintro e w7 ⟨A9, n9, c9, rfl, hL9, hB9⟩; have hW7 := hW6.trans (hB9.mono hW6.size); have HL9 := Lib.hid hL9; clear hL9)
                    | fail)
                  all_goals
                    go_wp2_with fail
                    go_roundw
                    case rel => exact ⟨j + 1, by omega, by go_num, by rw [HZ.out]; exact HL9.out⟩
                    case measure => simp [intOf] <;> omega
              · obtain ⟨L2, hL2e⟩ : ∃ L2, L2 = G.foldl (fun L c => addR L t (behR (E.take 2) [c])) L1 := ⟨_, rfl⟩
                have hG : G.take j = G := List.take_of_length_le (by have := HGN.out; omega)
                rw [hG] at h5le
                rw [hG, ← hL2e] at HI5
                rw [← hL2e] at h5le
                have h2le : L2.length ≤ 630 := by have := HGN.out; omega
                have HL2E := Lib.hid hL2e
                clear h5le hG hL2e
                obtain ⟨B, hBe⟩ : ∃ B, B = behR E G := ⟨_, rfl⟩
                have hBl := behR_le E G
                rw [← hBe, ← HEN.out, ← HGN.out] at hBl
                have HBE := Lib.hid hBe
                have HBH := Lib.hid (show Calls Try.prog 28 #[.slice A6 en c6, .slice A7 gn' c7] w5 (RetZ B w5) from HBE.out ▸ together_on HA6.out HA7.out HEN.out HGN.out (by have := HEN.out; omega) (by have := HGN.out; omega))
                clear hBe
                go_wp2_with (first
                  | (go_at_call 28; (with_reducible refine HBH.out.mono ?_); rintro e w6 ⟨A8, n8, c8, rfl, hn8, hI8, hB8⟩; have HN8 := Lib.hid hn8; have HI8 := Lib.hid hI8; have HB8 := Lib.hid hB8; clear hn8 hI8 hB8)
                  | fail)
                have h8l : n8 ≤ 48 := by have := HN8.out; omega
                go_loopw [3, 10] (fun out i wr => ∃ j : Nat, j ≤ n8 ∧ i = .int .i64 j ∧ Below w6.heap.size w6 wr ∧ OfL w3 wr out ((B.take j).foldl (fun L c => addR L t [c]) L2)) (fun _ i _ => n8 - (intOf i).toNat)
                case atStart => exact ⟨0, Nat.zero_le _, rfl, Below.refl _ _, HI5.out.call HB8.out⟩
                case round =>
                  obtain ⟨j3, hj3, rfl, hb6, hin⟩ := hrel
                  obtain ⟨w7, rfl⟩ : ∃ w7 : World, w7 = wr := ⟨_, rfl⟩
                  obtain ⟨A9, n9, c9, rfl⟩ := hin.slice
                  have HI9 := Lib.hid hin
                  have HB67 := Lib.hid hb6
                  have HA8 := Lib.hid (HI8.out.keep hb6)
                  have h7le := fold_add_le (fun c => [c]) t (B.take j3) L2
                  have hjt3 : (B.take j3).length ≤ 48 := by rw [List.length_take]; have := HN8.out; omega
                  clear hin hb6 HBH
                  by_cases hjl3 : j3 < n8
                  · rcases HA8.out.at with h0 | ⟨b8, off8, rfl, hb8, hc8⟩
                    · exfalso; have := HN8.out; rw [h0] at this; simp at this; omega
                    · obtain ⟨z, hz⟩ : ∃ z, B[j3]? = some z := ⟨_, List.getElem?_eq_getElem (by have := HN8.out; omega)⟩
                      have hcz := hc8 j3 z hz
                      have HZ := Lib.hid (fold_snoc (fun L c => addR L t [c]) L2 B j3 z hz)
                      obtain ⟨LJ, hLJ⟩ : ∃ LJ, LJ = (B.take j3).foldl (fun L c => addR L t [c]) L2 := ⟨_, rfl⟩
                      rw [← hLJ] at HI9 HZ h7le
                      have HAD2 := Lib.hid (show Calls Try.prog 25 #[.slice A9 n9 c9, .int .i64 t, .slice (some ⟨w7.heap.size, 0, none⟩) 1 1] (w7.alloc (.cells #[.int .i64 z] 3)) (RetL w3 (w7.alloc (.cells #[.int .i64 z] 3)) (addR LJ t [z])) from
                        radd_on (HI9.out.call (below1 _ _)) (by omega) (Ints.one w7 z 3) rfl)
                      clear hz hc8 hLJ
                      go_wp2_with (first
                        | (go_at_call 25; (with_reducible refine HAD2.out.mono ?_); rintro e w10 ⟨A10, n10, c10, rfl, hL9, hB9⟩; have HL9 := Lib.hid hL9; have HB9 := Lib.hid (HB67.out.trans (((below1 w7 (.cells #[.int .i64 z] 3)).trans (hB9.mono (below1 w7 (.cells #[.int .i64 z] 3)).size)).mono HB67.out.size)); clear hL9 hB9)
                        | fail)
                      go_roundw
                      case rel => exact ⟨j3 + 1, by omega, by go_num, HB9.out, by rw [HZ.out]; exact HL9.out⟩
                      case measure => simp [intOf] <;> omega
                  · obtain ⟨L3, hL3e⟩ : ∃ L3, L3 = B.foldl (fun L c => addR L t [c]) L2 := ⟨_, rfl⟩
                    have hG : B.take j3 = B := List.take_of_length_le (by have := HN8.out; omega)
                    rw [hG] at h7le
                    rw [hG, ← hL3e] at HI9
                    rw [← hL3e] at h7le
                    have h3le : L3.length ≤ 700 := by have := HN8.out; omega
                    have HL3E := Lib.hid hL3e
                    clear h7le hG hL3e
                    have hwo7 : Below wo.heap.size wo w7 := HB3.out.trans (HI9.out.1.mono HB3.out.size)
                    obtain ⟨q0, q1, q2, q3, q4, q5, q6, q7, q8⟩ := box9 _ _ _ _ _ _ _ _ _ _ _ (BoxC.keep (OfIn.box HI.out) hwo7)
                    have hlt7 := heap_lt (BoxC.keep (OfIn.box HI.out) hwo7)
                    have HQ7 := Lib.hid ((HQ.out.keep HBW.out).keep hwo7)
                    have HRO := Lib.hid (rorder_on ⟨some ⟨b, off, none⟩, tc, tabs, bA, bc, beg, width, wA, wc, wh, gA, gn, gc, grouped, iA, i_n, ic, oA, oc, ord, limit⟩ k w7 HQ7.out hb4)
                    obtain ⟨Y, hY⟩ : ∃ Y, Y = byR ⟨some ⟨b, off, none⟩, tc, tabs, bA, bc, beg, width, wA, wc, wh, gA, gn, gc, grouped, iA, i_n, ic, oA, oc, ord, limit⟩ k := ⟨_, rfl⟩
                    rw [← hY] at HRO
                    have hYl : Y.length ≤ 6 := by rw [hY]; exact Nat.le_trans (byR_le _ _) hb4
                    obtain ⟨L4, hL4e⟩ : ∃ L4, L4 = addR L3 t Y := ⟨_, rfl⟩
                    have HL4E := Lib.hid hL4e
                    have HFIN := Lib.hid (show ofk (k + 1) = if Y = [] then L4 else addR L4 t (behR E Y) by
                      rw [HSK.out, if_pos hkb, HTT.out, hL4e, HL3E.out, HL2E.out, HL1E.out, HL0E.out, HBE.out, HEE.out, HGG.out, hY]; rfl)
                    clear hwo7 hY hL4e
                    have HB03 := Lib.hid (HBW.out.trans (HB3.out.mono HBW.out.size))
                    have HBX3 := Lib.hid (BoxC.keep (OfIn.box HI.out) HB3.out)
                    have HAD3 := Lib.hid (fun (W : World) (A12 : Option Addr) (n12 c12 : Nat) (h : n12 = Y.length ∧ Ints W A12 c12 Y ∧ Below w7.heap.size w7 W) => show Calls Try.prog 25 #[.slice A9 n9 c9, .int .i64 t, .slice A12 n12 c12] W (RetL w3 W L4) from HL4E.out ▸ radd_on (HI9.out.call h.2.2) (by omega) h.2.1 h.1)
                    by_cases hYn : Y = []
                    · have HYN := Lib.hid hYn
                      clear hYn
                      go_wp2_with (first
                        | (go_at_call 29; (with_reducible refine HRO.out.mono ?_); rintro e w11 ⟨A12, n12, c12, rfl, h12⟩; have H12 := Lib.hid h12; obtain rfl : n12 = 0 := (by rw [h12.1, HYN.out]; rfl); clear h12)
                        | (go_at_call 25; (with_reducible refine (HAD3.out _ _ _ _ H12.out).mono ?_); rintro e w12 ⟨A13, n13, c13, rfl, hL9, -⟩; have HL9 := Lib.hid hL9; clear hL9)
                        | fail)
                      go_roundw
                      case rel => exact ⟨k + 1, by omega, by go_num, by rw [HFIN.out, if_pos HYN.out]; exact HL9.out.toIn HB03.out HBX3.out⟩
                      case measure => simp [intOf] <;> omega
                    · have HYN := Lib.hid hYn
                      have hY0 : 0 < Y.length := List.length_pos_iff.2 hYn
                      clear hYn
                      have hb5 := behR_le E Y
                      have HBH2 := Lib.hid (fun (W : World) (A12 : Option Addr) (n12 c12 : Nat) (h3 : Below w3.heap.size w3 W) (h1 : n12 = Y.length) (h2 : Ints W A12 c12 Y) => show Calls Try.prog 28 #[.slice A6 en c6, .slice A12 n12 c12] W (RetZ (behR E Y) W) from together_on (HI6.out.keep h3) h2 HEN.out h1 (by have := HEN.out; omega) (by omega))
                      have h4le := addR_le L3 t Y
                      rw [← HL4E.out] at h4le
                      have HAD4 := Lib.hid (fun (W : World) (A12 A13 : Option Addr) (n12 c12 n13 c13 : Nat) (h : OfL w3 W (.slice A13 n13 c13) L4) (h1 : n12 = (behR E Y).length) (h2 : Ints W A12 c12 (behR E Y)) => show Calls Try.prog 25 #[.slice A13 n13 c13, .int .i64 t, .slice A12 n12 c12] W (RetL w3 W (addR L4 t (behR E Y))) from radd_on h (by omega) h2 h1)
                      go_wp2_with (first
                        | (go_at_call 29; (with_reducible refine HRO.out.mono ?_); rintro e w11 ⟨A12, n12, c12, rfl, h12⟩; have H12 := Lib.hid h12; have hn0 : 0 < n12 := (by rw [h12.1]; exact hY0); clear h12)
                        | (go_at_call 25; (with_reducible refine (HAD3.out _ _ _ _ H12.out).mono ?_); rintro e w12 ⟨A13, n13, c13, rfl, hL9, hB12⟩; have HL9 := Lib.hid hL9; have HI13 := Lib.hid (H12.out.2.1.keep hB12); clear hL9 hB12)
                        | (go_at_call 28; (with_reducible refine (HBH2.out _ _ _ _ HL9.out.below H12.out.1 HI13.out).mono ?_); rintro e w13 ⟨A14, n14, c14, rfl, h14⟩; have H14 := Lib.hid h14; clear h14)
                        | (go_at_call 25; (with_reducible refine (HAD4.out _ _ _ _ _ _ _ (HL9.out.call H14.out.2.2) H14.out.1 H14.out.2.1).mono ?_); rintro e w14 ⟨A15, n15, c15, rfl, hL15, -⟩; have HL15 := Lib.hid hL15; clear hL15)
                        | fail)
                      go_roundw
                      case rel => exact ⟨k + 1, by omega, by go_num, by rw [HFIN.out, if_neg HYN.out]; exact HL15.out.toIn HB03.out HBX3.out⟩
                      case measure => simp [intOf] <;> omega
        · have hkb' : ¬ (k : Int) < (beg.length : Int) := by omega
          have HE := Lib.hid (show R = ofk k by rw [HR.out, show tabs.length = k + (tabs.length - k) by omega]; exact HST.out k _ (by omega))
          go_wp2_with fail
          go_ret
          exact ⟨ds, A0, c0, by rw [HE.out]; exact HL.out, rfl, HDD.out, HBW.out⟩
    · have HE := Lib.hid (show R = ofk k by rw [HR.out, show tabs.length = k by omega])
      go_wp2_with fail
      go_ret
      exact ⟨ds, A0, c0, by rw [HE.out]; exact HL.out, rfl, HDD.out, HBW.out⟩
end Go.Proofs.Ytcnkghcdjicldaa
