/- The walks of the statements' own same, and of CandOf. -/
import Derived.Test.YtcnkghcdjicldaaLaw
namespace Go.Proofs.Ytcnkghcdjicldaa
open Go.RowKit

set_option maxRecDepth 100000 in
set_option maxHeartbeats 4000000 in
theorem lsame_any (A1 A2 : Option Addr) (c1 c2 : Nat) (ds es : List DefT) (w : World) (h1 : DefsAt w A1 c1 ds) (h2 : DefsAt w A2 c2 es) (hp : pureD ds = pureD es) (hl : ds.length ≤ 2000) :
    Calls Try.prog 9 #[.slice A1 ds.length c1, .slice A2 es.length c2] w (RetT w) := by
  obtain ⟨n, hn⟩ : ∃ n, n = ds.length := ⟨_, rfl⟩
  have hne : es.length = n := by have := congrArg List.length hp; simp [pureD] at this; omega
  rw [hne, ← hn]
  have HN := Lib.hid hn
  have HNE := Lib.hid hne
  have H1 := Lib.hid h1
  have H2 := Lib.hid h2
  have HP := Lib.hid hp
  have hn2 : n ≤ 2000 := by omega
  clear h1 h2 hp hn hne hl
  go_enter Try.func9, Try.ntmps9
  go_wp2_with fail
  go_loopw [13] (fun i wr => ∃ k : Nat, k ≤ n ∧ i = .int .i64 k ∧ Below w.heap.size w wr) (fun i _ => n - (intOf i).toNat)
  case atStart => exact ⟨0, Nat.zero_le _, rfl, Below.refl _ _⟩
  case round =>
    obtain ⟨k, hk, rfl, hB⟩ := hrel
    obtain ⟨wo, rfl⟩ : ∃ wo : World, wo = wr := ⟨_, rfl⟩
    have HB := Lib.hid hB
    by_cases hlt : k < n
    · rcases H1.out.1.2 with h0 | ⟨b1, o1, rfl, hb1, hc1⟩
      · exfalso; have := HN.out; have h2 : ds = [] := by simpa using h0
        rw [h2] at this; simp at this; omega
      · rcases H2.out.1.2 with h0 | ⟨b2, o2, rfl, hb2, hc2⟩
        · exfalso; have := HNE.out; have h2 : es = [] := by simpa using h0
          rw [h2] at this; simp at this; omega
        · obtain ⟨d, hd⟩ : ∃ d, ds[k]? = some d := ⟨_, List.getElem?_eq_getElem (by have := HN.out; omega)⟩
          obtain ⟨e, he⟩ : ∃ e, es[k]? = some e := ⟨_, List.getElem?_eq_getElem (by have := HNE.out; omega)⟩
          have hde : (d.tab, d.cols) = (e.tab, e.cols) := by
            have h := congrArg (fun l => l[k]?) HP.out
            simpa [pureD, hd, he] using h
          have hdd := (hc1 k d.cells (by rw [List.getElem?_map, hd]; rfl)).2
          have hee := (hc2 k e.cells (by rw [List.getElem?_map, he]; rfl)).2
          have HSM := Lib.hid (show ∀ W, Below wo.heap.size wo W → Calls Try.prog 14 #[.agg d.cells.toArray, .agg e.cells.toArray] W (RetV (.bool true) W) from fun W hW => by
            have h := same_any d e W (((H1.out.2.1 d (List.mem_of_getElem? hd)).keep HB.out).keep hW) (((H2.out.2.1 e (List.mem_of_getElem? he)).keep HB.out).keep hW)
            have hs : sameR d e = true := by
              unfold sameR
              injection hde with g1 g2
              rw [g1, g2]; simp
            rw [hs] at h
            exact h)
          clear hde hd he
          obtain ⟨td, Ad, cd, ld⟩ := d
          obtain ⟨te, Ae, ce, le⟩ := e
          have k0 := (hB.cell (p := ⟨b1, o1 + k * 3 + 0, none⟩) hb1).trans (hdd 0 _ rfl)
          have k1 := (hB.cell (p := ⟨b1, o1 + k * 3 + 1, none⟩) hb1).trans (hdd 1 _ rfl)
          have k2 := (hB.cell (p := ⟨b1, o1 + k * 3 + 2, none⟩) hb1).trans (hdd 2 _ rfl)
          have m0 := (hB.cell (p := ⟨b2, o2 + k * 3 + 0, none⟩) hb2).trans (hee 0 _ rfl)
          have m1 := (hB.cell (p := ⟨b2, o2 + k * 3 + 1, none⟩) hb2).trans (hee 1 _ rfl)
          have m2 := (hB.cell (p := ⟨b2, o2 + k * 3 + 2, none⟩) hb2).trans (hee 2 _ rfl)
          rw [Nat.add_zero] at k0 m0
          have hbo1 : b1 < wo.heap.size := Nat.lt_of_lt_of_le hb1 hB.size
          have hbo2 : b2 < wo.heap.size := Nat.lt_of_lt_of_le hb2 hB.size
          dsimp only at k0 k1 k2 m0 m1 m2
          have HSX := Lib.hid (show ∀ wx, Below wo.heap.size wo wx → Below wo.heap.size wo wx ∧ wx.cell? ⟨b1, o1 + k * 3, none⟩ = some (.int .i64 td) ∧ wx.cell? ⟨b1, o1 + k * 3 + 1, none⟩ = some (.slice Ad ld.length cd) ∧ wx.cell? ⟨b1, o1 + k * 3 + 2, none⟩ = some (.bool false) ∧ wx.cell? ⟨b2, o2 + k * 3, none⟩ = some (.int .i64 te) ∧ wx.cell? ⟨b2, o2 + k * 3 + 1, none⟩ = some (.slice Ae le.length ce) ∧ wx.cell? ⟨b2, o2 + k * 3 + 2, none⟩ = some (.bool false) ∧ b1 < wx.heap.size ∧ b2 < wx.heap.size from fun wx h => ⟨h, cell_kept k0 h, cell_kept k1 h, cell_kept k2 h, cell_kept m0 h, cell_kept m1 h, cell_kept m2 h, Nat.lt_of_lt_of_le hbo1 h.size, Nat.lt_of_lt_of_le hbo2 h.size⟩)
          have hW0 : Below wo.heap.size wo wo.drew := (Below.refl _ _).drew
          clear hdd hee hc1 hc2 hB
          go_wp2_with fail
          go_region_held3 (fun wx => Below wo.heap.size wo wx ∧ wx.cell? ⟨b1, o1 + k * 3, none⟩ = some (.int .i64 td) ∧ wx.cell? ⟨b1, o1 + k * 3 + 1, none⟩ = some (.slice Ad ld.length cd) ∧ wx.cell? ⟨b1, o1 + k * 3 + 2, none⟩ = some (.bool false) ∧ wx.cell? ⟨b2, o2 + k * 3, none⟩ = some (.int .i64 te) ∧ wx.cell? ⟨b2, o2 + k * 3 + 1, none⟩ = some (.slice Ae le.length ce) ∧ wx.cell? ⟨b2, o2 + k * 3 + 2, none⟩ = some (.bool false) ∧ b1 < wx.heap.size ∧ b2 < wx.heap.size)
            (first
              | exact HSX.out _ hW0
              | (with_reducible assumption)
              | exact HSX.out _ hW4
              | fail)
            (first
              | (go_at_call 14; (with_reducible refine (HSM.out _ hW0).mono ?_); rintro e w4 ⟨rfl, hB4⟩; have hW4 := hW0.trans (hB4.mono hW0.size))
              | fail)
          all_goals
            have HW := Lib.hid (HB.out.trans (hW4.mono HB.out.size))
            go_wp2_with fail
            go_roundw
            case rel => exact ⟨k + 1, by omega, by go_num, HW.out⟩
            case measure => simp [intOf] <;> omega
    · go_wp2_with fail
      go_ret
      exact ⟨rfl, HB.out⟩
theorem ofR_le (q : Qd) (h1 : q.tabs.length ≤ 6) (h3 : q.wh.length ≤ 12) : (ofR q).length ≤ 600 := by
  have h := ofK_le q q.tabs.length
  have : q.tabs.length * (8 * q.wh.length + 3) ≤ 6 * 99 := Nat.mul_le_mul h1 (by omega)
  have e : (ofR q).length ≤ q.tabs.length * (8 * q.wh.length + 3) := h
  omega
set_option maxRecDepth 100000 in
set_option maxHeartbeats 4000000 in
theorem candOf_walk (q : Qd) (w : World) (hq : QAt w q) : Calls Try.prog 3 #[qV q] w (RetT w) := by
  have HQ := Lib.hid hq
  have HS := Lib.hid (show ∀ W, Below w.heap.size w W → Calls Try.prog 8 #[qV q] W (fun e w' => (∃ b : Bool, e = .returned (.bool b) ∧ (b = true → Small q)) ∧ Below W.heap.size W w') from fun W hB => small_any q W (hq.keep hB))
  have HO1 := Lib.hid (show ∀ W, Below w.heap.size w W → Small q → Calls Try.prog 10 #[qV q] W (RetD (ofR q) W) from fun W hB h => of10_any q W (hq.keep hB) h.1 h.2.2.1 h.2.2.2)
  have HO2 := Lib.hid (show ∀ W, Below w.heap.size w W → Small q → Calls Try.prog 11 #[qV q] W (RetD (ofR q) W) from fun W hB h => of11_any q W (hq.keep hB) h.1 h.2.2.1 h.2.2.2)
  have HLE := Lib.hid (show Small q → (ofR q).length ≤ 600 from fun h => ofR_le q h.1 h.2.2.1)
  generalize ofR q = L at HO1 HO2 HLE
  generalize Small q = SM at HO1 HO2 HLE HS
  clear hq HQ
  obtain ⟨tA, tc, tabs, bA, bc, beg, width, wA, wc, wh, gA, gn, gc, grouped, iA, i_n, ic, oA, oc, ord, limit⟩ := q
  unfold qV Qd.cells at *
  dsimp only at *
  have HBX := Lib.hid (show BoxC (w.alloc (.cells #[.slice tA tabs.length tc, .slice bA beg.length bc, .int .i64 width, .slice wA wh.length wc, .slice gA gn gc, .bool grouped, .slice iA i_n ic, .slice oA ord.length oc, .int .i64 limit] 26)) w.heap.size #[.slice tA tabs.length tc, .slice bA beg.length bc, .int .i64 width, .slice wA wh.length wc, .slice gA gn gc, .bool grouped, .slice iA i_n ic, .slice oA ord.length oc, .int .i64 limit] from heap_alloc_new w _)
  have HB0 := Lib.hid (below1 w (.cells #[.slice tA tabs.length tc, .slice bA beg.length bc, .int .i64 width, .slice wA wh.length wc, .slice gA gn gc, .bool grouped, .slice iA i_n ic, .slice oA ord.length oc, .int .i64 limit] 26))
  have HL1 := Lib.hid (lives_any (w.alloc (.cells #[.slice tA tabs.length tc, .slice bA beg.length bc, .int .i64 width, .slice wA wh.length wc, .slice gA gn gc, .bool grouped, .slice iA i_n ic, .slice oA ord.length oc, .int .i64 limit] 26)))
  go_enter Try.func3, Try.ntmps3
  go_wp2_with (first
    | (go_at_call 7; (with_reducible refine HL1.out.mono ?_); rintro e w2 ⟨rfl, hB2⟩; obtain ⟨q0, q1, q2, q3, q4, q5, q6, q7, q8⟩ := box9 _ _ _ _ _ _ _ _ _ _ _ (HBX.out.keep hB2); have HX2 := Lib.hid (HBX.out.keep hB2); have HB2 := Lib.hid (HB0.out.trans (hB2.mono HB0.out.size)); clear hB2)
    | (go_at_call 8; (with_reducible refine (HS.out _ HB2.out).mono ?_); rintro e w3 ⟨⟨b, rfl, hsm⟩, hB3⟩; have HX3 := Lib.hid (HX2.out.keep hB3); have HB3 := Lib.hid (HB2.out.trans (hB3.mono HB2.out.size)); have HSM := Lib.hid hsm; clear hB3 hsm q0 q1 q2 q3 q4 q5 q6 q7 q8; cases b)
    | (go_at_call 7; (with_reducible refine (lives_any _).mono ?_); rintro e w4 ⟨rfl, hB4⟩; have HB4 := Lib.hid (HB3.out.trans (hB4.mono HB3.out.size)); clear hB4)
    | fail)
  · go_ret
    exact ⟨rfl, HB4.out⟩
  · have HSS := Lib.hid (HSM.out (by simp))
    have HSX := Lib.hid (show ∀ wx, Below w3.heap.size w3 wx → Below w.heap.size w wx ∧ wx.cell? ⟨w.heap.size, 0, none⟩ = some (.slice tA tabs.length tc) ∧ wx.cell? ⟨w.heap.size, 1, none⟩ = some (.slice bA beg.length bc) ∧ wx.cell? ⟨w.heap.size, 2, none⟩ = some (.int .i64 width) ∧ wx.cell? ⟨w.heap.size, 3, none⟩ = some (.slice wA wh.length wc) ∧ wx.cell? ⟨w.heap.size, 4, none⟩ = some (.slice gA gn gc) ∧ wx.cell? ⟨w.heap.size, 5, none⟩ = some (.bool grouped) ∧ wx.cell? ⟨w.heap.size, 6, none⟩ = some (.slice iA i_n ic) ∧ wx.cell? ⟨w.heap.size, 7, none⟩ = some (.slice oA ord.length oc) ∧ wx.cell? ⟨w.heap.size, 8, none⟩ = some (.int .i64 limit) ∧ w.heap.size < wx.heap.size from fun wx h => by
      obtain ⟨q0, q1, q2, q3, q4, q5, q6, q7, q8⟩ := box9 _ _ _ _ _ _ _ _ _ _ _ (HX3.out.keep h)
      exact ⟨HB3.out.trans (h.mono HB3.out.size), q0, q1, q2, q3, q4, q5, q6, q7, q8, heap_lt (HX3.out.keep h)⟩)
    have hW0 : Below w3.heap.size w3 w3.drew := (Below.refl _ _).drew
    have HC1 := Lib.hid (fun (W : World) (hB : Below w3.heap.size w3 W) => HO1.out W (HB3.out.trans (hB.mono HB3.out.size)) HSS.out)
    have HC2 := Lib.hid (fun (W : World) (hB : Below w3.heap.size w3 W) => HO2.out W (HB3.out.trans (hB.mono HB3.out.size)) HSS.out)
    have HLEN := Lib.hid (HLE.out HSS.out)
    go_wp2_with fail
    go_region_held3 (fun wx => Below w.heap.size w wx ∧ wx.cell? ⟨w.heap.size, 0, none⟩ = some (.slice tA tabs.length tc) ∧ wx.cell? ⟨w.heap.size, 1, none⟩ = some (.slice bA beg.length bc) ∧ wx.cell? ⟨w.heap.size, 2, none⟩ = some (.int .i64 width) ∧ wx.cell? ⟨w.heap.size, 3, none⟩ = some (.slice wA wh.length wc) ∧ wx.cell? ⟨w.heap.size, 4, none⟩ = some (.slice gA gn gc) ∧ wx.cell? ⟨w.heap.size, 5, none⟩ = some (.bool grouped) ∧ wx.cell? ⟨w.heap.size, 6, none⟩ = some (.slice iA i_n ic) ∧ wx.cell? ⟨w.heap.size, 7, none⟩ = some (.slice oA ord.length oc) ∧ wx.cell? ⟨w.heap.size, 8, none⟩ = some (.int .i64 limit) ∧ w.heap.size < wx.heap.size)
      (first
        | exact HSX.out _ hW0
        | (with_reducible assumption)
        | exact HSX.out _ hW4
        | fail)
      (first
        | (go_at_call 10; (with_reducible refine (HC1.out _ ?_).mono ?_)
           · first | exact hW4 | exact hW0
           rintro e w4 ⟨ds, A1, c1, hp1, rfl, hd1, hB4⟩
           have hW4 : Below w3.heap.size w3 w4 := (by first | exact hW4.trans (hB4.mono hW4.size) | exact hW0.trans (hB4.mono hW0.size))
           have HP1 := Lib.hid hp1
           clear hp1
           try (have hd2 := hd2.keep hB4))
        | (go_at_call 11; (with_reducible refine (HC2.out _ ?_).mono ?_)
           · first | exact hW4 | exact hW0
           rintro e w5 ⟨es, A2, c2, hp2, rfl, hd2, hB4⟩
           have hW4 : Below w3.heap.size w3 w5 := (by first | exact hW4.trans (hB4.mono hW4.size) | exact hW0.trans (hB4.mono hW0.size))
           have HP2 := Lib.hid hp2
           clear hp2
           try (have hd1 := hd1.keep hB4))
        | (go_at_call 9; (with_reducible refine (lsame_any _ _ _ _ _ _ _ hd1 hd2 (HP1.out.trans HP2.out.symm) ?_).mono ?_)
           · have := HLEN.out; rw [← HP1.out] at this; simp [pureD] at this; omega
           rintro e w6 ⟨rfl, hB4⟩
           have hW4 := hW4.trans (hB4.mono hW4.size))
        | fail)
    all_goals
      have HW := Lib.hid (HB3.out.trans (hW4.mono HB3.out.size))
      go_wp2_with fail
      go_ret
      exact ⟨rfl, HW.out⟩
end Go.Proofs.Ytcnkghcdjicldaa
