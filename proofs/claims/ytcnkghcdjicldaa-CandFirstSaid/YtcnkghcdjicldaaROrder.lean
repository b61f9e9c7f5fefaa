/- The walk of the document's order. -/
import Derived.Test.YtcnkghcdjicldaaRHeld
namespace Go.Proofs.Ytcnkghcdjicldaa
open Go.RowKit

/-- is a place of the order one that serves? -/
def goodR (q : Qd) (f : Nat) (s : Int × Bool) : Bool := !s.2 && decide (tabR q s.1 = some f)
theorem byR_good (q : Qd) (f : Nat) (h : q.ord.all (goodR q f) = true) : byR q f = if ordersR q = true then colsR q f (q.ord.map (·.1)) else [] := by
  have h1 : q.ord.any (·.2) = false := by
    rw [List.any_eq_false]
    intro s hs
    have := List.all_eq_true.1 h s hs
    unfold goodR at this
    simp at this
    simp [this.1]
  have h2 : allIn q f (q.ord.map (·.1)) = true := by
    unfold allIn
    rw [List.all_map, List.all_eq_true]
    intro s hs
    have := List.all_eq_true.1 h s hs
    unfold goodR at this
    simp at this
    simp [this.2]
  unfold byR placesR
  rw [h1, h2]
  simp
theorem byR_bad (q : Qd) (f : Nat) (s : Int × Bool) (hs : s ∈ q.ord) (h : goodR q f s = false) : byR q f = [] := by
  unfold byR
  split
  · rename_i hc
    have h1 : q.ord.any (·.2) = false := by simpa using (Bool.and_eq_true_iff.1 hc).2
    have h2 := List.any_eq_false.1 h1 s hs
    have h3 : decide (tabR q s.1 = some f) = false := by
      unfold goodR at h
      simp at h2
      rw [h2] at h
      simpa using h
    unfold placesR
    rw [if_neg]
    intro h4
    unfold allIn at h4
    have := List.all_eq_true.1 h4 s.1 (List.mem_map_of_mem hs)
    rw [h3] at this
    cases this
  · rfl
set_option maxRecDepth 100000 in
set_option maxHeartbeats 16000000 in
theorem rorder_any (q : Qd) (f : Nat) (w : World) (hq : QAt w q) (ho : q.ord.length ≤ 6) : Calls Try.prog 29 #[qV q, .int .i64 (f : Int)] w (RetI (byR q f) w) := by
  obtain ⟨tA, tc, tabs, bA, bc, beg, width, wA, wc, wh, gA, gn, gc, grouped, iA, i_n, ic, oA, oc, ord, limit⟩ := q
  have HTAB := Lib.hid (fun (a : Int) (W : World) (hB : Below w.heap.size w W) => table_any _ a W (hq.keep hB))
  have HOR := Lib.hid (fun (W : World) => rorders_any ⟨tA, tc, tabs, bA, bc, beg, width, wA, wc, wh, gA, gn, gc, grouped, iA, i_n, ic, oA, oc, ord, limit⟩ W)
  have HBG := Lib.hid hq.2.1.at
  have hbs := hq.2.1.small
  unfold maxLen at hbs
  have HSO := Lib.hid hq.2.2.2.2
  have HGOOD := Lib.hid (byR_good ⟨tA, tc, tabs, bA, bc, beg, width, wA, wc, wh, gA, gn, gc, grouped, iA, i_n, ic, oA, oc, ord, limit⟩ f)
  have HBAD := Lib.hid (byR_bad ⟨tA, tc, tabs, bA, bc, beg, width, wA, wc, wh, gA, gn, gc, grouped, iA, i_n, ic, oA, oc, ord, limit⟩ f)
  have HGD := Lib.hid (show ∀ s, goodR ⟨tA, tc, tabs, bA, bc, beg, width, wA, wc, wh, gA, gn, gc, grouped, iA, i_n, ic, oA, oc, ord, limit⟩ f s = (!s.2 && decide (tabR ⟨tA, tc, tabs, bA, bc, beg, width, wA, wc, wh, gA, gn, gc, grouped, iA, i_n, ic, oA, oc, ord, limit⟩ s.1 = some f)) from fun _ => rfl)
  obtain ⟨good, hgood⟩ : ∃ g, g = goodR ⟨tA, tc, tabs, bA, bc, beg, width, wA, wc, wh, gA, gn, gc, grouped, iA, i_n, ic, oA, oc, ord, limit⟩ f := ⟨_, rfl⟩
  rw [← hgood] at HGOOD HBAD HGD
  obtain ⟨R, hR⟩ : ∃ R, R = byR ⟨tA, tc, tabs, bA, bc, beg, width, wA, wc, wh, gA, gn, gc, grouped, iA, i_n, ic, oA, oc, ord, limit⟩ f := ⟨_, rfl⟩
  rw [← hR] at HGOOD HBAD ⊢
  obtain ⟨cols, hcols⟩ : ∃ g, g = colsR ⟨tA, tc, tabs, bA, bc, beg, width, wA, wc, wh, gA, gn, gc, grouped, iA, i_n, ic, oA, oc, ord, limit⟩ f := ⟨_, rfl⟩
  have HCS := Lib.hid (show ∀ l, cols l = l.foldl (fun out a => onceR out (colR ⟨tA, tc, tabs, bA, bc, beg, width, wA, wc, wh, gA, gn, gc, grouped, iA, i_n, ic, oA, oc, ord, limit⟩ f a)) [] from fun l => by rw [hcols]; rfl)
  have HLE := Lib.hid (show ∀ k, (cols ((ord.take k).map (·.1))).length ≤ k from fun k => by
    have h := colsR_le ⟨tA, tc, tabs, bA, bc, beg, width, wA, wc, wh, gA, gn, gc, grouped, iA, i_n, ic, oA, oc, ord, limit⟩ f (ord.map (·.1)) k
    rw [hcols, List.map_take]
    exact h)
  rw [← hcols] at HGOOD
  obtain ⟨o1, ho1⟩ : ∃ o1, o1 = ordersR ⟨tA, tc, tabs, bA, bc, beg, width, wA, wc, wh, gA, gn, gc, grouped, iA, i_n, ic, oA, oc, ord, limit⟩ := ⟨_, rfl⟩
  rw [← ho1] at HGOOD HOR
  have ho' : ord.length ≤ 6 := ho
  dsimp only at HTAB HSO HBG hbs HGOOD HBAD
  unfold qV Qd.cells
  dsimp only
  have HQQ := Lib.hid (show RHeldIn w (w.alloc (.cells #[.slice tA tabs.length tc, .slice bA beg.length bc, .int .i64 width, .slice wA wh.length wc, .slice gA gn gc, .bool grouped, .slice iA i_n ic, .slice oA ord.length oc, .int .i64 limit] 26)) #[.slice tA tabs.length tc, .slice bA beg.length bc, .int .i64 width, .slice wA wh.length wc, .slice gA gn gc, .bool grouped, .slice iA i_n ic, .slice oA ord.length oc, .int .i64 limit] (.slice none 0 0) [] from ⟨below1 _ _, heap_alloc_new w _, none, 0, rfl, Ints.nil _⟩)
  clear hR hq ho hgood hcols ho1
  go_enter Try.func29, Try.ntmps29
  go_wp2_with fail
  go_loopw [5, 6] (fun out i wr => ∃ k : Nat, k ≤ ord.length ∧ i = .int .i64 k ∧ RHeldIn w wr #[.slice tA tabs.length tc, .slice bA beg.length bc, .int .i64 width, .slice wA wh.length wc, .slice gA gn gc, .bool grouped, .slice iA i_n ic, .slice oA ord.length oc, .int .i64 limit] out (cols ((ord.take k).map (·.1))) ∧ Hid ((ord.take k).all good = true)) (fun _ i _ => ord.length - (intOf i).toNat)
  case atStart => exact ⟨0, Nat.zero_le _, rfl, by rw [HCS.out]; exact HQQ.out, Lib.hid rfl⟩
  case round =>
    obtain ⟨k, hk, rfl, hin, HG⟩ := hrel
    obtain ⟨wo, rfl⟩ : ∃ wo : World, wo = wr := ⟨_, rfl⟩
    have hlen := HLE.out k
    obtain ⟨cur, hcur⟩ : ∃ c, c = cols ((ord.take k).map (·.1)) := ⟨_, rfl⟩
    rw [← hcur] at hin hlen
    have HC := Lib.hid hcur
    have HI := Lib.hid hin
    obtain ⟨A0, c0, hv⟩ := hin.slice
    subst hv
    obtain ⟨q0, q1, q2, q3, q4, q5, q6, q7, q8⟩ := box9 _ _ _ _ _ _ _ _ _ _ _ hin.2.1
    have hlt0 := heap_lt hin.2.1
    clear hin hcur
    by_cases hlt : k < ord.length
    · rcases HSO.out with h0 | ⟨bo, offo, rfl, hbo, hco⟩
      · exfalso; rw [h0] at hlt; simp at hlt
      · obtain ⟨⟨sa, sd⟩, hs⟩ : ∃ s, ord[k]? = some s := ⟨_, List.getElem?_eq_getElem hlt⟩
        obtain ⟨s0, s1⟩ := hco k _ hs
        have s0 := ((RHeldIn.below HI.out).cell (p := ⟨bo, offo + k * 2, none⟩) hbo).trans s0
        have s1 := ((RHeldIn.below HI.out).cell (p := ⟨bo, offo + k * 2 + 1, none⟩) hbo).trans s1
        dsimp only at s0 s1
        have HMEM := Lib.hid (List.mem_of_getElem? hs)
        have HG1 := Lib.hid (all_take_snoc ord good k _ hs)
        have HNX1 := Lib.hid (show cols ((ord.take (k + 1)).map (·.1)) = onceR cur (colR ⟨tA, tc, tabs, bA, bc, beg, width, wA, wc, wh, gA, gn, gc, grouped, iA, i_n, ic, (some ⟨bo, offo, none⟩), oc, ord, limit⟩ f sa) by
          rw [HC.out, HCS.out, HCS.out, List.take_add_one, hs]; simp)
        have HSX := Lib.hid (show ∀ wx, Below wo.heap.size wo wx → Below wo.heap.size wo wx ∧ wx.cell? ⟨w.heap.size, 0, none⟩ = some (.slice tA tabs.length tc) ∧ wx.cell? ⟨w.heap.size, 1, none⟩ = some (.slice bA beg.length bc) ∧ wx.cell? ⟨w.heap.size, 2, none⟩ = some (.int .i64 width) ∧ wx.cell? ⟨w.heap.size, 3, none⟩ = some (.slice wA wh.length wc) ∧ wx.cell? ⟨w.heap.size, 4, none⟩ = some (.slice gA gn gc) ∧ wx.cell? ⟨w.heap.size, 5, none⟩ = some (.bool grouped) ∧ wx.cell? ⟨w.heap.size, 6, none⟩ = some (.slice iA i_n ic) ∧ wx.cell? ⟨w.heap.size, 7, none⟩ = some (.slice (some ⟨bo, offo, none⟩) ord.length oc) ∧ wx.cell? ⟨w.heap.size, 8, none⟩ = some (.int .i64 limit) ∧ wx.cell? ⟨bo, offo + k * 2, none⟩ = some (.int .i64 sa) ∧ wx.cell? ⟨bo, offo + k * 2 + 1, none⟩ = some (.bool sd) from fun wx h => ⟨h, cell_kept q0 h, cell_kept q1 h, cell_kept q2 h, cell_kept q3 h, cell_kept q4 h, cell_kept q5 h, cell_kept q6 h, cell_kept q7 h, cell_kept q8 h, cell_kept s0 h, cell_kept s1 h⟩)
        clear hco hs
        cases sd with
        | true =>
          have HRN := Lib.hid (HBAD.out _ HMEM.out (by rw [HGD.out]; rfl))
          go_wp2_with fail
          refine wp_region_held_drew (S := (fun wx => Below wo.heap.size wo wx ∧ wx.cell? ⟨w.heap.size, 0, none⟩ = some (.slice tA tabs.length tc) ∧ wx.cell? ⟨w.heap.size, 1, none⟩ = some (.slice bA beg.length bc) ∧ wx.cell? ⟨w.heap.size, 2, none⟩ = some (.int .i64 width) ∧ wx.cell? ⟨w.heap.size, 3, none⟩ = some (.slice wA wh.length wc) ∧ wx.cell? ⟨w.heap.size, 4, none⟩ = some (.slice gA gn gc) ∧ wx.cell? ⟨w.heap.size, 5, none⟩ = some (.bool grouped) ∧ wx.cell? ⟨w.heap.size, 6, none⟩ = some (.slice iA i_n ic) ∧ wx.cell? ⟨w.heap.size, 7, none⟩ = some (.slice (some ⟨bo, offo, none⟩) ord.length oc) ∧ wx.cell? ⟨w.heap.size, 8, none⟩ = some (.int .i64 limit) ∧ wx.cell? ⟨bo, offo + k * 2, none⟩ = some (.int .i64 sa) ∧ wx.cell? ⟨bo, offo + k * 2 + 1, none⟩ = some (.bool true))) (by kernel_rfl) (HSX.out _ (Below.refl _ _).drew) (fun hHeld => ?_)
          (try dsimp only at hHeld)
          refine wpAnyH_take (i := 0) (v := ?_) (List.getElem?_toArray.trans rfl) (by kernel_rfl) (by kernel_rfl) (by kernel_rfl) (fun _ _ _ h => h) (Or.inl ⟨by rfl, ?_⟩) hHeld ?_
          rotate_left
          · intro wx hSw
            (try dsimp only at hSw)
            go_simp
            (try with_reducible rfl)
          (try simp only [Act.put, List.setIfInBounds_toArray, List.set_cons_zero, List.set_cons_succ])
          refine wpAnyH_take (i := 1) (v := ?_) (List.getElem?_toArray.trans rfl) (by kernel_rfl) (by kernel_rfl) (by kernel_rfl) (fun _ _ _ h => h) (Or.inl ⟨by rfl, ?_⟩) hHeld ?_
          rotate_left
          · intro wx hSw
            (try dsimp only at hSw)
            go_simp
            (try with_reducible rfl)
          (try simp only [Act.put, List.setIfInBounds_toArray, List.set_cons_zero, List.set_cons_succ])
          refine wpAnyH_take (i := 2) (v := ?_) (List.getElem?_toArray.trans rfl) (by kernel_rfl) (by kernel_rfl) (by kernel_rfl) (fun _ _ _ h => h) (Or.inl ⟨by rfl, ?_⟩) hHeld ?_
          rotate_left
          · intro wx hSw
            (try dsimp only at hSw)
            go_simp
            (try with_reducible rfl)
          (try simp only [Act.put, List.setIfInBounds_toArray, List.set_cons_zero, List.set_cons_succ])
          refine wpAnyH_take (i := 3) (v := ?_) (List.getElem?_toArray.trans rfl) (by kernel_rfl) (by kernel_rfl) (by kernel_rfl) (fun _ _ _ h => h) (Or.inl ⟨by rfl, ?_⟩) hHeld ?_
          rotate_left
          · intro wx hSw
            (try dsimp only at hSw)
            go_simp
            (try with_reducible rfl)
          (try simp only [Act.put, List.setIfInBounds_toArray, List.set_cons_zero, List.set_cons_succ])
          refine wpAnyH_take (i := 4) (v := ?_) (List.getElem?_toArray.trans rfl) (by kernel_rfl) (by kernel_rfl) (by kernel_rfl) (fun _ _ _ h => h) (Or.inl ⟨by rfl, ?_⟩) hHeld ?_
          rotate_left
          · intro wx hSw
            (try dsimp only at hSw)
            go_simp
            (try with_reducible rfl)
          (try simp only [Act.put, List.setIfInBounds_toArray, List.set_cons_zero, List.set_cons_succ])
          refine wpAnyH_take (i := 5) (v := ?_) (List.getElem?_toArray.trans rfl) (by kernel_rfl) (by kernel_rfl) (by kernel_rfl) (fun _ _ _ h => h) (Or.inl ⟨by rfl, ?_⟩) hHeld ?_
          rotate_left
          · intro wx hSw
            (try dsimp only at hSw)
            go_simp
            (try with_reducible rfl)
          (try simp only [Act.put, List.setIfInBounds_toArray, List.set_cons_zero, List.set_cons_succ])
          refine wpAnyH_take (i := 6) (v := ?_) (List.getElem?_toArray.trans rfl) (by kernel_rfl) (by kernel_rfl) (by kernel_rfl) (fun _ _ _ h => h) (Or.inl ⟨by rfl, ?_⟩) hHeld ?_
          rotate_left
          · intro wx hSw
            (try dsimp only at hSw)
            go_simp
            (try with_reducible rfl)
          (try simp only [Act.put, List.setIfInBounds_toArray, List.set_cons_zero, List.set_cons_succ])
          refine wpAnyH_take (i := 7) (List.getElem?_toArray.trans rfl) (by kernel_rfl) (by kernel_rfl) (by kernel_rfl) (fun _ _ _ h => h) (Or.inr ⟨by rfl, rfl⟩) hHeld ?_
          (try simp only [Act.put, List.setIfInBounds_toArray, List.set_cons_zero, List.set_cons_succ])
          refine wpAnyH_take (i := 8) (List.getElem?_toArray.trans rfl) (by kernel_rfl) (by kernel_rfl) (by kernel_rfl) (fun _ _ _ h => h) (Or.inr ⟨by rfl, rfl⟩) hHeld ?_
          (try simp only [Act.put, List.setIfInBounds_toArray, List.set_cons_zero, List.set_cons_succ])
          refine wpAnyH_take (i := 9) (List.getElem?_toArray.trans rfl) (by kernel_rfl) (by kernel_rfl) (by kernel_rfl) (fun _ _ _ h => h) (Or.inr ⟨by rfl, rfl⟩) hHeld ?_
          (try simp only [Act.put, List.setIfInBounds_toArray, List.set_cons_zero, List.set_cons_succ])
          refine wpAnyH_take (i := 10) (List.getElem?_toArray.trans rfl) (by kernel_rfl) (by kernel_rfl) (by kernel_rfl) (fun _ _ _ h => h) (Or.inr ⟨by rfl, rfl⟩) hHeld ?_
          (try simp only [Act.put, List.setIfInBounds_toArray, List.set_cons_zero, List.set_cons_succ])
          refine wpAnyH_take (i := 11) (List.getElem?_toArray.trans rfl) (by kernel_rfl) (by kernel_rfl) (by kernel_rfl) (fun _ _ _ h => h) (Or.inr ⟨by rfl, rfl⟩) hHeld ?_
          (try simp only [Act.put, List.setIfInBounds_toArray, List.set_cons_zero, List.set_cons_succ])
          refine wpAnyH_take (i := 12) (List.getElem?_toArray.trans rfl) (by kernel_rfl) (by kernel_rfl) (by kernel_rfl) (fun _ _ _ h => h) (Or.inr ⟨by rfl, rfl⟩) hHeld ?_
          (try simp only [Act.put, List.setIfInBounds_toArray, List.set_cons_zero, List.set_cons_succ])
          refine wpAnyH_take (i := 13) (List.getElem?_toArray.trans rfl) (by kernel_rfl) (by kernel_rfl) (by kernel_rfl) (fun _ _ _ h => h) (Or.inr ⟨by rfl, rfl⟩) hHeld ?_
          (try simp only [Act.put, List.setIfInBounds_toArray, List.set_cons_zero, List.set_cons_succ])
          refine wpAnyH_take (i := 14) (List.getElem?_toArray.trans rfl) (by kernel_rfl) (by kernel_rfl) (by kernel_rfl) (fun _ _ _ h => h) (Or.inr ⟨by rfl, rfl⟩) hHeld ?_
          (try simp only [Act.put, List.setIfInBounds_toArray, List.set_cons_zero, List.set_cons_succ])
          refine wpAnyH_take (i := 15) (List.getElem?_toArray.trans rfl) (by kernel_rfl) (by kernel_rfl) (by kernel_rfl) (fun _ _ _ h => h) (Or.inr ⟨by rfl, rfl⟩) hHeld ?_
          (try simp only [Act.put, List.setIfInBounds_toArray, List.set_cons_zero, List.set_cons_succ])
          refine wpAnyH_take (i := 16) (List.getElem?_toArray.trans rfl) (by kernel_rfl) (by kernel_rfl) (by kernel_rfl) (fun _ _ _ h => h) (Or.inr ⟨by rfl, rfl⟩) hHeld ?_
          (try simp only [Act.put, List.setIfInBounds_toArray, List.set_cons_zero, List.set_cons_succ])
          refine wpAnyH_take (i := 17) (v := ?_) (List.getElem?_toArray.trans rfl) (by kernel_rfl) (by kernel_rfl) (by kernel_rfl) (fun _ _ _ h => h) (Or.inl ⟨by rfl, ?_⟩) hHeld ?_
          rotate_left
          · intro wx hSw
            (try dsimp only at hSw)
            go_simp
            (try with_reducible rfl)
          (try simp only [Act.put, List.setIfInBounds_toArray, List.set_cons_zero, List.set_cons_succ])
          refine wpAnyH_done (by kernel_rfl) ?_ _
          go_wp2_with fail
          go_ret
          exact ⟨none, 0, by rw [HRN.out]; rfl, by rw [HRN.out]; exact Ints.nil _, (RHeldIn.below HI.out).trans (hHeld.1.mono (RHeldIn.below HI.out).size)⟩
        | false =>
          have HTC0 := Lib.hid (HTAB.out sa)
          by_cases htf : tabR ⟨tA, tc, tabs, bA, bc, beg, width, wA, wc, wh, gA, gn, gc, grouped, iA, i_n, ic, (some ⟨bo, offo, none⟩), oc, ord, limit⟩ sa = some f
          · have HTC := Lib.hid (show ∀ W, Below w.heap.size w W → Calls Try.prog 43 #[qV ⟨tA, tc, tabs, bA, bc, beg, width, wA, wc, wh, gA, gn, gc, grouped, iA, i_n, ic, (some ⟨bo, offo, none⟩), oc, ord, limit⟩, .int .i64 sa] W (RetV (.int .i64 (f : Int)) W) from fun W hB => by have := HTC0.out W hB; rw [htf] at this; exact this)
            have HTB := Lib.hid htf
            have HG2 := Lib.hid (show (ord.take (k + 1)).all good = true by rw [HG1.out, HG.out, HGD.out]; dsimp only; rw [HTB.out]; simp)
            obtain ⟨cl, hcl⟩ : ∃ cl, cl = colR ⟨tA, tc, tabs, bA, bc, beg, width, wA, wc, wh, gA, gn, gc, grouped, iA, i_n, ic, (some ⟨bo, offo, none⟩), oc, ord, limit⟩ f sa := ⟨_, rfl⟩
            have HNX := Lib.hid (show cols ((ord.take (k + 1)).map (·.1)) = onceR cur cl by rw [HNX1.out, hcl])
            have HCLE := Lib.hid hcl
            clear htf hcl HTC0
            go_wp2_with fail
            refine wp_region_held_drew (S := (fun wx => Below wo.heap.size wo wx ∧ wx.cell? ⟨w.heap.size, 0, none⟩ = some (.slice tA tabs.length tc) ∧ wx.cell? ⟨w.heap.size, 1, none⟩ = some (.slice bA beg.length bc) ∧ wx.cell? ⟨w.heap.size, 2, none⟩ = some (.int .i64 width) ∧ wx.cell? ⟨w.heap.size, 3, none⟩ = some (.slice wA wh.length wc) ∧ wx.cell? ⟨w.heap.size, 4, none⟩ = some (.slice gA gn gc) ∧ wx.cell? ⟨w.heap.size, 5, none⟩ = some (.bool grouped) ∧ wx.cell? ⟨w.heap.size, 6, none⟩ = some (.slice iA i_n ic) ∧ wx.cell? ⟨w.heap.size, 7, none⟩ = some (.slice (some ⟨bo, offo, none⟩) ord.length oc) ∧ wx.cell? ⟨w.heap.size, 8, none⟩ = some (.int .i64 limit) ∧ wx.cell? ⟨bo, offo + k * 2, none⟩ = some (.int .i64 sa) ∧ wx.cell? ⟨bo, offo + k * 2 + 1, none⟩ = some (.bool false))) (by kernel_rfl) (HSX.out _ (Below.refl _ _).drew) (fun hHeld => ?_)
            (try dsimp only at hHeld)
            refine wpAnyH_take (i := 0) (v := ?_) (List.getElem?_toArray.trans rfl) (by kernel_rfl) (by kernel_rfl) (by kernel_rfl) (fun _ _ _ h => h) (Or.inl ⟨by rfl, ?_⟩) hHeld ?_
            rotate_left
            · intro wx hSw
              (try dsimp only at hSw)
              go_simp
              (try with_reducible rfl)
            (try simp only [Act.put, List.setIfInBounds_toArray, List.set_cons_zero, List.set_cons_succ])
            refine wpAnyH_take (i := 1) (v := ?_) (List.getElem?_toArray.trans rfl) (by kernel_rfl) (by kernel_rfl) (by kernel_rfl) (fun _ _ _ h => h) (Or.inl ⟨by rfl, ?_⟩) hHeld ?_
            rotate_left
            · intro wx hSw
              (try dsimp only at hSw)
              go_simp
              (try with_reducible rfl)
            (try simp only [Act.put, List.setIfInBounds_toArray, List.set_cons_zero, List.set_cons_succ])
            refine wpAnyH_take (i := 2) (v := ?_) (List.getElem?_toArray.trans rfl) (by kernel_rfl) (by kernel_rfl) (by kernel_rfl) (fun _ _ _ h => h) (Or.inl ⟨by rfl, ?_⟩) hHeld ?_
            rotate_left
            · intro wx hSw
              (try dsimp only at hSw)
              go_simp
              (try with_reducible rfl)
            (try simp only [Act.put, List.setIfInBounds_toArray, List.set_cons_zero, List.set_cons_succ])
            refine wpAnyH_take (i := 3) (v := ?_) (List.getElem?_toArray.trans rfl) (by kernel_rfl) (by kernel_rfl) (by kernel_rfl) (fun _ _ _ h => h) (Or.inl ⟨by rfl, ?_⟩) hHeld ?_
            rotate_left
            · intro wx hSw
              (try dsimp only at hSw)
              go_simp
              (try with_reducible rfl)
            (try simp only [Act.put, List.setIfInBounds_toArray, List.set_cons_zero, List.set_cons_succ])
            refine wpAnyH_take (i := 4) (v := ?_) (List.getElem?_toArray.trans rfl) (by kernel_rfl) (by kernel_rfl) (by kernel_rfl) (fun _ _ _ h => h) (Or.inl ⟨by rfl, ?_⟩) hHeld ?_
            rotate_left
            · intro wx hSw
              (try dsimp only at hSw)
              go_simp
              (try with_reducible rfl)
            (try simp only [Act.put, List.setIfInBounds_toArray, List.set_cons_zero, List.set_cons_succ])
            refine wpAnyH_take (i := 5) (v := ?_) (List.getElem?_toArray.trans rfl) (by kernel_rfl) (by kernel_rfl) (by kernel_rfl) (fun _ _ _ h => h) (Or.inl ⟨by rfl, ?_⟩) hHeld ?_
            rotate_left
            · intro wx hSw
              (try dsimp only at hSw)
              go_simp
              (try with_reducible rfl)
            (try simp only [Act.put, List.setIfInBounds_toArray, List.set_cons_zero, List.set_cons_succ])
            refine wpAnyH_take (i := 6) (v := ?_) (List.getElem?_toArray.trans rfl) (by kernel_rfl) (by kernel_rfl) (by kernel_rfl) (fun _ _ _ h => h) (Or.inl ⟨by rfl, ?_⟩) hHeld ?_
            rotate_left
            · intro wx hSw
              (try dsimp only at hSw)
              go_simp
              (try with_reducible rfl)
            (try simp only [Act.put, List.setIfInBounds_toArray, List.set_cons_zero, List.set_cons_succ])
            refine wpAnyH_take (i := 7) (v := ?_) (List.getElem?_toArray.trans rfl) (by kernel_rfl) (by kernel_rfl) (by kernel_rfl) (fun _ _ _ h => h) (Or.inl ⟨by rfl, ?_⟩) hHeld ?_
            rotate_left
            · intro wx hSw
              (try dsimp only at hSw)
              go_simp
              (try with_reducible rfl)
            (try simp only [Act.put, List.setIfInBounds_toArray, List.set_cons_zero, List.set_cons_succ])
            refine wpAnyH_take (i := 8) (v := ?_) (List.getElem?_toArray.trans rfl) (by kernel_rfl) (by kernel_rfl) (by kernel_rfl) (fun _ _ _ h => h) (Or.inl ⟨by rfl, ?_⟩) hHeld ?_
            rotate_left
            · intro wx hSw
              (try dsimp only at hSw)
              go_simp
              (try with_reducible rfl)
            (try simp only [Act.put, List.setIfInBounds_toArray, List.set_cons_zero, List.set_cons_succ])
            refine wpAnyH_take (i := 9) (v := ?_) (List.getElem?_toArray.trans rfl) (by kernel_rfl) (by kernel_rfl) (by kernel_rfl) (fun _ _ _ h => h) (Or.inl ⟨by rfl, ?_⟩) hHeld ?_
            rotate_left
            · intro wx hSw
              (try dsimp only at hSw)
              go_simp
              (try with_reducible rfl)
            (try simp only [Act.put, List.setIfInBounds_toArray, List.set_cons_zero, List.set_cons_succ])
            refine wpAnyH_take (i := 10) (v := ?_) (List.getElem?_toArray.trans rfl) (by kernel_rfl) (by kernel_rfl) (by kernel_rfl) (fun _ _ _ h => h) (Or.inl ⟨by rfl, ?_⟩) hHeld ?_
            rotate_left
            · intro wx hSw
              (try dsimp only at hSw)
              go_simp
              (try with_reducible rfl)
            (try simp only [Act.put, List.setIfInBounds_toArray, List.set_cons_zero, List.set_cons_succ])
            refine wpAnyH_take (i := 11) (v := ?_) (List.getElem?_toArray.trans rfl) (by kernel_rfl) (by kernel_rfl) (by kernel_rfl) (fun _ _ _ h => h) (Or.inl ⟨by rfl, ?_⟩) hHeld ?_
            rotate_left
            · intro wx hSw
              (try dsimp only at hSw)
              go_simp
              (try with_reducible rfl)
            (try simp only [Act.put, List.setIfInBounds_toArray, List.set_cons_zero, List.set_cons_succ])
            refine wpAnyH_take (i := 12) (v := ?_) (List.getElem?_toArray.trans rfl) (by kernel_rfl) (by kernel_rfl) (by kernel_rfl) (fun _ _ _ h => h) (Or.inl ⟨by rfl, ?_⟩) hHeld ?_
            rotate_left
            · intro wx hSw
              (try dsimp only at hSw)
              go_simp
              (try with_reducible rfl)
            (try simp only [Act.put, List.setIfInBounds_toArray, List.set_cons_zero, List.set_cons_succ])
            refine wpAnyH_take (i := 13) (v := ?_) (List.getElem?_toArray.trans rfl) (by kernel_rfl) (by kernel_rfl) (by kernel_rfl) (fun _ _ _ h => h) (Or.inl ⟨by rfl, ?_⟩) hHeld ?_
            rotate_left
            · intro wx hSw
              (try dsimp only at hSw)
              go_simp
              (try with_reducible rfl)
            (try simp only [Act.put, List.setIfInBounds_toArray, List.set_cons_zero, List.set_cons_succ])
            refine wpAnyH_take (i := 15) (v := ?_) (List.getElem?_toArray.trans rfl) (by kernel_rfl) (by kernel_rfl) (by kernel_rfl) (fun _ _ _ h => h) (Or.inl ⟨by rfl, ?_⟩) hHeld ?_
            rotate_left
            · intro wx hSw
              (try dsimp only at hSw)
              go_simp
              (try with_reducible rfl)
            (try simp only [Act.put, List.setIfInBounds_toArray, List.set_cons_zero, List.set_cons_succ])
            refine wpAnyH_ready (rs := [14]) (by kernel_rfl) (by simp) ?_
            refine AllReadyH.cons (List.getElem?_toArray.trans rfl) (fun K hK => ?_) AllReadyH.nil
            go_simp
            go_at_call 43
            with_reducible refine Calls.mono (HTC.out _ (below_on (RHeldIn.below HI.out) hHeld.1)) ?_
            rintro e w3 ⟨rfl, hB3⟩
            have hHeld2 := HSX.out _ (hHeld.1.trans (hB3.mono hHeld.1.size))
            refine hK.out _ _ hHeld2 (fun _ => ?_)
            clear hK K hHeld hB3
            have hHeld := hHeld2
            clear hHeld2
            (try simp only [Act.put, List.setIfInBounds_toArray, List.set_cons_zero, List.set_cons_succ])
            refine wpAnyH_take (i := 16) (v := ?_) (List.getElem?_toArray.trans rfl) (by kernel_rfl) (by kernel_rfl) (by kernel_rfl) (fun _ _ _ h => h) (Or.inl ⟨by rfl, ?_⟩) hHeld ?_
            rotate_left
            · intro wx hSw
              (try dsimp only at hSw)
              go_simp
              (try with_reducible rfl)
            (try simp only [Act.put, List.setIfInBounds_toArray, List.set_cons_zero, List.set_cons_succ])
            refine wpAnyH_take (i := 17) (v := ?_) (List.getElem?_toArray.trans rfl) (by kernel_rfl) (by kernel_rfl) (by kernel_rfl) (fun _ _ _ h => h) (Or.inl ⟨by rfl, ?_⟩) hHeld ?_
            rotate_left
            · intro wx hSw
              (try dsimp only at hSw)
              go_simp
              (try with_reducible rfl)
            (try simp only [Act.put, List.setIfInBounds_toArray, List.set_cons_zero, List.set_cons_succ])
            refine wpAnyH_done (by kernel_rfl) ?_ _
            obtain ⟨w6, rfl⟩ : ∃ w6 : World, w6 = w3 := ⟨_, rfl⟩
            have HB56 := Lib.hid hHeld.1
            have r0 := hHeld.2.2.2.2.2.2.2.2.2.2.1
            have r7 := hHeld.2.2.2.2.2.2.2.2.1
            have r1 := hHeld.2.2.1
            have hbl : f < beg.length := (tabR_lt HTB.out).1
            rcases HBG.out with hb0 | ⟨bb, offb, rfl, hbb, hbc⟩
            · exfalso; rw [hb0] at hbl; simp at hbl
            obtain ⟨z, hz⟩ : ∃ z, beg[f]? = some z := ⟨_, List.getElem?_eq_getElem hbl⟩
            have hwb : Below w.heap.size w w6 := (RHeldIn.below HI.out).trans (HB56.out.mono (RHeldIn.below HI.out).size)
            have r2 := (hwb.cell (p := ⟨bb, offb + f, none⟩) hbb).trans (hbc f z hz)
            have hl6a := World.block_lt_of_cell? w6 _ r0
            have hl6b := World.block_lt_of_cell? w6 _ r1
            have hl6c := World.block_lt_of_cell? w6 _ r2
            dsimp only at hl6a hl6b hl6c
            have HCL := Lib.hid (show IntKind.i64.wrap (sa - z) = cl by rw [HCLE.out]; unfold colR; rw [getD_of hz]; exact wrap_eq _)
            have HI6 := Lib.hid (HI.out.call HB56.out)
            have HON := Lib.hid (fun (W : World) (hB : Below w6.heap.size w6 W) => show Calls Try.prog 26 #[.slice A0 cur.length c0, .int .i64 cl] W (RetI (onceR cur cl) W) from once_any A0 c0 cur cl W ((HI6.out.ints).keep hB) (by omega))
            have HSY := Lib.hid (show ∀ wx, Below w6.heap.size w6 wx → Below w6.heap.size w6 wx ∧ wx.cell? ⟨bo, offo + k * 2, none⟩ = some (.int .i64 sa) ∧ wx.cell? ⟨w.heap.size, 7, none⟩ = some (.slice (some ⟨bo, offo, none⟩) ord.length oc) ∧ wx.cell? ⟨w.heap.size, 1, none⟩ = some (.slice (some ⟨bb, offb, none⟩) beg.length bc) ∧ wx.cell? ⟨bb, offb + f, none⟩ = some (.int .i64 z) ∧ bo < wx.heap.size ∧ w.heap.size < wx.heap.size ∧ bb < wx.heap.size from fun wx h => ⟨h, cell_kept r0 h, cell_kept r7 h, cell_kept r1 h, cell_kept r2 h, Nat.lt_of_lt_of_le hl6a h.size, Nat.lt_of_lt_of_le hl6b h.size, Nat.lt_of_lt_of_le hl6c h.size⟩)
            have hW0 : Below w6.heap.size w6 w6.drew := (Below.refl _ _).drew
            clear hHeld hbc hz hwb
            go_wp2_with fail
            go_region_held3 (fun wx => Below w6.heap.size w6 wx ∧ wx.cell? ⟨bo, offo + k * 2, none⟩ = some (.int .i64 sa) ∧ wx.cell? ⟨w.heap.size, 7, none⟩ = some (.slice (some ⟨bo, offo, none⟩) ord.length oc) ∧ wx.cell? ⟨w.heap.size, 1, none⟩ = some (.slice (some ⟨bb, offb, none⟩) beg.length bc) ∧ wx.cell? ⟨bb, offb + f, none⟩ = some (.int .i64 z) ∧ bo < wx.heap.size ∧ w.heap.size < wx.heap.size ∧ bb < wx.heap.size)
              (first
                | exact HSY.out _ hW0
                | (with_reducible assumption)
                | exact HSY.out _ hW7
                | fail)
              (first
              | (go_at_call 26; rw [HCL.out]; (with_reducible refine (HON.out _ hW0).mono ?_); rintro e w7 ⟨A7, c7, rfl, hI7, hB7⟩; have hW7 := hW0.trans (hB7.mono hW0.size))
              | fail)
            all_goals
              have HI7 := Lib.hid hI7
              have HW7 := Lib.hid hW7
              go_wp2_with fail
              go_roundw
              case rel => exact ⟨k + 1, by omega, by go_num, by rw [HNX.out]; exact ⟨HI6.out.1.trans (HW7.out.mono HI6.out.1.size), HI6.out.2.1.keep HW7.out, A7, c7, rfl, HI7.out⟩, HG2⟩
              case measure => simp [intOf] <;> omega
          · have hne : (tabI (tabR ⟨tA, tc, tabs, bA, bc, beg, width, wA, wc, wh, gA, gn, gc, grouped, iA, i_n, ic, (some ⟨bo, offo, none⟩), oc, ord, limit⟩ sa) != (f : Int)) = true := by rw [bne, tab_eq, decide_eq_false htf]; rfl
            have HRN := Lib.hid (HBAD.out _ HMEM.out (by rw [HGD.out]; dsimp only; rw [decide_eq_false htf]; rfl))
            have HTC := HTC0
            clear htf HTC0
            generalize tabI (tabR ⟨tA, tc, tabs, bA, bc, beg, width, wA, wc, wh, gA, gn, gc, grouped, iA, i_n, ic, (some ⟨bo, offo, none⟩), oc, ord, limit⟩ sa) = tv at HTC hne
            go_wp2_with fail
            refine wp_region_held_drew (S := (fun wx => Below wo.heap.size wo wx ∧ wx.cell? ⟨w.heap.size, 0, none⟩ = some (.slice tA tabs.length tc) ∧ wx.cell? ⟨w.heap.size, 1, none⟩ = some (.slice bA beg.length bc) ∧ wx.cell? ⟨w.heap.size, 2, none⟩ = some (.int .i64 width) ∧ wx.cell? ⟨w.heap.size, 3, none⟩ = some (.slice wA wh.length wc) ∧ wx.cell? ⟨w.heap.size, 4, none⟩ = some (.slice gA gn gc) ∧ wx.cell? ⟨w.heap.size, 5, none⟩ = some (.bool grouped) ∧ wx.cell? ⟨w.heap.size, 6, none⟩ = some (.slice iA i_n ic) ∧ wx.cell? ⟨w.heap.size, 7, none⟩ = some (.slice (some ⟨bo, offo, none⟩) ord.length oc) ∧ wx.cell? ⟨w.heap.size, 8, none⟩ = some (.int .i64 limit) ∧ wx.cell? ⟨bo, offo + k * 2, none⟩ = some (.int .i64 sa) ∧ wx.cell? ⟨bo, offo + k * 2 + 1, none⟩ = some (.bool false))) (by kernel_rfl) (HSX.out _ (Below.refl _ _).drew) (fun hHeld => ?_)
            (try dsimp only at hHeld)
            refine wpAnyH_take (i := 0) (v := ?_) (List.getElem?_toArray.trans rfl) (by kernel_rfl) (by kernel_rfl) (by kernel_rfl) (fun _ _ _ h => h) (Or.inl ⟨by rfl, ?_⟩) hHeld ?_
            rotate_left
            · intro wx hSw
              (try dsimp only at hSw)
              go_simp
              (try with_reducible rfl)
            (try simp only [Act.put, List.setIfInBounds_toArray, List.set_cons_zero, List.set_cons_succ])
            refine wpAnyH_take (i := 1) (v := ?_) (List.getElem?_toArray.trans rfl) (by kernel_rfl) (by kernel_rfl) (by kernel_rfl) (fun _ _ _ h => h) (Or.inl ⟨by rfl, ?_⟩) hHeld ?_
            rotate_left
            · intro wx hSw
              (try dsimp only at hSw)
              go_simp
              (try with_reducible rfl)
            (try simp only [Act.put, List.setIfInBounds_toArray, List.set_cons_zero, List.set_cons_succ])
            refine wpAnyH_take (i := 2) (v := ?_) (List.getElem?_toArray.trans rfl) (by kernel_rfl) (by kernel_rfl) (by kernel_rfl) (fun _ _ _ h => h) (Or.inl ⟨by rfl, ?_⟩) hHeld ?_
            rotate_left
            · intro wx hSw
              (try dsimp only at hSw)
              go_simp
              (try with_reducible rfl)
            (try simp only [Act.put, List.setIfInBounds_toArray, List.set_cons_zero, List.set_cons_succ])
            refine wpAnyH_take (i := 3) (v := ?_) (List.getElem?_toArray.trans rfl) (by kernel_rfl) (by kernel_rfl) (by kernel_rfl) (fun _ _ _ h => h) (Or.inl ⟨by rfl, ?_⟩) hHeld ?_
            rotate_left
            · intro wx hSw
              (try dsimp only at hSw)
              go_simp
              (try with_reducible rfl)
            (try simp only [Act.put, List.setIfInBounds_toArray, List.set_cons_zero, List.set_cons_succ])
            refine wpAnyH_take (i := 4) (v := ?_) (List.getElem?_toArray.trans rfl) (by kernel_rfl) (by kernel_rfl) (by kernel_rfl) (fun _ _ _ h => h) (Or.inl ⟨by rfl, ?_⟩) hHeld ?_
            rotate_left
            · intro wx hSw
              (try dsimp only at hSw)
              go_simp
              (try with_reducible rfl)
            (try simp only [Act.put, List.setIfInBounds_toArray, List.set_cons_zero, List.set_cons_succ])
            refine wpAnyH_take (i := 5) (v := ?_) (List.getElem?_toArray.trans rfl) (by kernel_rfl) (by kernel_rfl) (by kernel_rfl) (fun _ _ _ h => h) (Or.inl ⟨by rfl, ?_⟩) hHeld ?_
            rotate_left
            · intro wx hSw
              (try dsimp only at hSw)
              go_simp
              (try with_reducible rfl)
            (try simp only [Act.put, List.setIfInBounds_toArray, List.set_cons_zero, List.set_cons_succ])
            refine wpAnyH_take (i := 6) (v := ?_) (List.getElem?_toArray.trans rfl) (by kernel_rfl) (by kernel_rfl) (by kernel_rfl) (fun _ _ _ h => h) (Or.inl ⟨by rfl, ?_⟩) hHeld ?_
            rotate_left
            · intro wx hSw
              (try dsimp only at hSw)
              go_simp
              (try with_reducible rfl)
            (try simp only [Act.put, List.setIfInBounds_toArray, List.set_cons_zero, List.set_cons_succ])
            refine wpAnyH_take (i := 7) (v := ?_) (List.getElem?_toArray.trans rfl) (by kernel_rfl) (by kernel_rfl) (by kernel_rfl) (fun _ _ _ h => h) (Or.inl ⟨by rfl, ?_⟩) hHeld ?_
            rotate_left
            · intro wx hSw
              (try dsimp only at hSw)
              go_simp
              (try with_reducible rfl)
            (try simp only [Act.put, List.setIfInBounds_toArray, List.set_cons_zero, List.set_cons_succ])
            refine wpAnyH_take (i := 8) (v := ?_) (List.getElem?_toArray.trans rfl) (by kernel_rfl) (by kernel_rfl) (by kernel_rfl) (fun _ _ _ h => h) (Or.inl ⟨by rfl, ?_⟩) hHeld ?_
            rotate_left
            · intro wx hSw
              (try dsimp only at hSw)
              go_simp
              (try with_reducible rfl)
            (try simp only [Act.put, List.setIfInBounds_toArray, List.set_cons_zero, List.set_cons_succ])
            refine wpAnyH_take (i := 9) (v := ?_) (List.getElem?_toArray.trans rfl) (by kernel_rfl) (by kernel_rfl) (by kernel_rfl) (fun _ _ _ h => h) (Or.inl ⟨by rfl, ?_⟩) hHeld ?_
            rotate_left
            · intro wx hSw
              (try dsimp only at hSw)
              go_simp
              (try with_reducible rfl)
            (try simp only [Act.put, List.setIfInBounds_toArray, List.set_cons_zero, List.set_cons_succ])
            refine wpAnyH_take (i := 10) (v := ?_) (List.getElem?_toArray.trans rfl) (by kernel_rfl) (by kernel_rfl) (by kernel_rfl) (fun _ _ _ h => h) (Or.inl ⟨by rfl, ?_⟩) hHeld ?_
            rotate_left
            · intro wx hSw
              (try dsimp only at hSw)
              go_simp
              (try with_reducible rfl)
            (try simp only [Act.put, List.setIfInBounds_toArray, List.set_cons_zero, List.set_cons_succ])
            refine wpAnyH_take (i := 11) (v := ?_) (List.getElem?_toArray.trans rfl) (by kernel_rfl) (by kernel_rfl) (by kernel_rfl) (fun _ _ _ h => h) (Or.inl ⟨by rfl, ?_⟩) hHeld ?_
            rotate_left
            · intro wx hSw
              (try dsimp only at hSw)
              go_simp
              (try with_reducible rfl)
            (try simp only [Act.put, List.setIfInBounds_toArray, List.set_cons_zero, List.set_cons_succ])
            refine wpAnyH_take (i := 12) (v := ?_) (List.getElem?_toArray.trans rfl) (by kernel_rfl) (by kernel_rfl) (by kernel_rfl) (fun _ _ _ h => h) (Or.inl ⟨by rfl, ?_⟩) hHeld ?_
            rotate_left
            · intro wx hSw
              (try dsimp only at hSw)
              go_simp
              (try with_reducible rfl)
            (try simp only [Act.put, List.setIfInBounds_toArray, List.set_cons_zero, List.set_cons_succ])
            refine wpAnyH_take (i := 13) (v := ?_) (List.getElem?_toArray.trans rfl) (by kernel_rfl) (by kernel_rfl) (by kernel_rfl) (fun _ _ _ h => h) (Or.inl ⟨by rfl, ?_⟩) hHeld ?_
            rotate_left
            · intro wx hSw
              (try dsimp only at hSw)
              go_simp
              (try with_reducible rfl)
            (try simp only [Act.put, List.setIfInBounds_toArray, List.set_cons_zero, List.set_cons_succ])
            refine wpAnyH_take (i := 15) (v := ?_) (List.getElem?_toArray.trans rfl) (by kernel_rfl) (by kernel_rfl) (by kernel_rfl) (fun _ _ _ h => h) (Or.inl ⟨by rfl, ?_⟩) hHeld ?_
            rotate_left
            · intro wx hSw
              (try dsimp only at hSw)
              go_simp
              (try with_reducible rfl)
            (try simp only [Act.put, List.setIfInBounds_toArray, List.set_cons_zero, List.set_cons_succ])
            refine wpAnyH_ready (rs := [14]) (by kernel_rfl) (by simp) ?_
            refine AllReadyH.cons (List.getElem?_toArray.trans rfl) (fun K hK => ?_) AllReadyH.nil
            go_simp
            go_at_call 43
            with_reducible refine Calls.mono (HTC.out _ (below_on (RHeldIn.below HI.out) hHeld.1)) ?_
            rintro e w3 ⟨rfl, hB3⟩
            have hHeld2 := HSX.out _ (hHeld.1.trans (hB3.mono hHeld.1.size))
            refine hK.out _ _ hHeld2 (fun _ => ?_)
            clear hK K hHeld hB3
            have hHeld := hHeld2
            clear hHeld2
            (try simp only [Act.put, List.setIfInBounds_toArray, List.set_cons_zero, List.set_cons_succ])
            refine wpAnyH_take (i := 16) (v := ?_) (List.getElem?_toArray.trans rfl) (by kernel_rfl) (by kernel_rfl) (by kernel_rfl) (fun _ _ _ h => h) (Or.inl ⟨by rfl, ?_⟩) hHeld ?_
            rotate_left
            · intro wx hSw
              (try dsimp only at hSw)
              go_simp
              (try with_reducible rfl)
            (try simp only [Act.put, List.setIfInBounds_toArray, List.set_cons_zero, List.set_cons_succ])
            refine wpAnyH_take (i := 17) (v := ?_) (List.getElem?_toArray.trans rfl) (by kernel_rfl) (by kernel_rfl) (by kernel_rfl) (fun _ _ _ h => h) (Or.inl ⟨by rfl, ?_⟩) hHeld ?_
            rotate_left
            · intro wx hSw
              (try dsimp only at hSw)
              go_simp
              (try with_reducible rfl)
            (try simp only [Act.put, List.setIfInBounds_toArray, List.set_cons_zero, List.set_cons_succ])
            refine wpAnyH_done (by kernel_rfl) ?_ _
            go_wp2_with fail
            go_ret
            exact ⟨none, 0, by rw [HRN.out]; rfl, by rw [HRN.out]; exact Ints.nil _, (RHeldIn.below HI.out).trans (hHeld.1.mono (RHeldIn.below HI.out).size)⟩
    · have HGA := Lib.hid (show R = if o1 = true then cur else [] by
        have h := HG.out
        have h2 := HC.out
        rw [List.take_of_length_le (by omega)] at h h2
        rw [HGOOD.out h, h2])
      have HII := Lib.hid HI.out.ints
      cases o1 with
      | true =>
        have HRE := Lib.hid (show R = cur from HGA.out)
        go_wp2_with (first
          | (go_at_call 46; (with_reducible refine (HOR.out _).mono ?_); rintro e w7 ⟨rfl, hB7⟩; have HB7 := Lib.hid hB7; clear hB7)
          | fail)
        go_ret
        exact ⟨A0, c0, by rw [HRE.out]; rfl, by rw [HRE.out]; exact HII.out.keep HB7.out, HI.out.1.trans (HB7.out.mono HI.out.1.size)⟩
      | false =>
        have HRE := Lib.hid (show R = [] from HGA.out)
        go_wp2_with (first
          | (go_at_call 46; (with_reducible refine (HOR.out _).mono ?_); rintro e w7 ⟨rfl, hB7⟩; have HB7 := Lib.hid hB7; clear hB7)
          | fail)
        go_ret
        exact ⟨none, 0, by rw [HRE.out]; rfl, by rw [HRE.out]; exact Ints.nil _, HI.out.1.trans (HB7.out.mono HI.out.1.size)⟩
end Go.Proofs.Ytcnkghcdjicldaa
