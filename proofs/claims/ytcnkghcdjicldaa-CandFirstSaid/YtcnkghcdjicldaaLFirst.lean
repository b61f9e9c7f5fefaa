/- The walk of CandFirst. -/
import Derived.Test.YtcnkghcdjicldaaLaw2
import Derived.Test.YtcnkghcdjicldaaRAll
namespace Go.Proofs.Ytcnkghcdjicldaa
open Go.RowKit

set_option maxRecDepth 100000 in
set_option maxHeartbeats 16000000 in
theorem candFirst_walk (A : Option Addr) (c : Nat) (qs : List Qd) (most : Int) (w : World) (hq : QsAt w A qs) : Calls Try.prog 6 #[.slice A qs.length c, .int .i64 most] w (RetT w) := by
  have hqs := hq.1
  unfold maxLen at hqs
  have HQ := Lib.hid hq
  have HSMALL := Lib.hid (fun (q : Qd) (W : World) (h : QAt W q) => small_any q W h)
  clear hq
  by_cases h00 : qs.length = 0
  · obtain rfl : qs = [] := List.eq_nil_of_length_eq_zero h00
    clear h00
    go_enter Try.func6, Try.ntmps6
    go_wp2_with (first
      | (go_at_call 7; (with_reducible refine (lives_any _).mono ?_); rintro e wl ⟨rfl, hBl⟩; first | (have HB3 := Lib.hid (HB2.out.trans (hBl.mono HB2.out.size)); clear hBl) | (have HB2 := Lib.hid hBl; clear hBl))
      | fail)
    go_ret
    exact ⟨rfl, HB3.out⟩
  have h0n : 0 < qs.length := by omega
  have h0e : ((qs.length : Int) == 0) = false := by simpa using h00
  clear h00
  by_cases h8 : qs.length ≤ 8
  · go_enter Try.func6, Try.ntmps6
    go_wp2_with (first
      | (go_at_call 7; (with_reducible refine (lives_any _).mono ?_); rintro e wl ⟨rfl, hBl⟩; first | (have HB3 := Lib.hid (HB2.out.trans (hBl.mono HB2.out.size)); clear hBl) | (have HB2 := Lib.hid hBl; clear hBl))
      | fail)
    go_loopw [29] (fun i wr => ∃ k : Nat, k ≤ qs.length ∧ i = .int .i64 k ∧ Below w.heap.size w wr ∧ Hid (∀ q ∈ qs.take k, SmallQ q)) (fun i _ => qs.length - (intOf i).toNat)
    case atStart => exact ⟨0, Nat.zero_le _, rfl, HB2.out, Lib.hid (fun q h => by cases h)⟩
    case round =>
      obtain ⟨k, hk, rfl, hB, HS⟩ := hrel
      obtain ⟨wo, rfl⟩ : ∃ wo : World, wo = wr := ⟨_, rfl⟩
      have HB := Lib.hid hB
      clear hB HB2
      by_cases hlt : k < qs.length
      · rcases HQ.out.2 with h0 | ⟨b, off, rfl, hbl, hc⟩
        · exfalso; rw [h0] at hlt; simp at hlt
        · obtain ⟨q, hx⟩ : ∃ q, qs[k]? = some q := ⟨_, List.getElem?_eq_getElem hlt⟩
          obtain ⟨hcq, hqa⟩ := hc k q hx
          have HS2 := Lib.hid (show SmallQ q → ∀ q' ∈ qs.take (k + 1), SmallQ q' from fun h q' hq' => by
            rw [List.take_add_one, hx] at hq'
            rcases List.mem_append.1 hq' with h1 | h1
            · exact HS.out q' h1
            · obtain rfl : q' = q := by simpa using h1
              exact h)
          have HSM := Lib.hid (fun (W : World) (hB : Below w.heap.size w W) => show Calls Try.prog 8 #[qV q] W (fun e w' => (∃ b : Bool, e = .returned (.bool b) ∧ (b = true → SmallQ q)) ∧ Below W.heap.size W w') from (HSMALL.out q W (hqa.keep hB)))
          unfold qV Qd.cells at HSM
          have hcc : ∀ (i : Nat) (v : Value), q.cells.toList[i]? = some v → wo.cell? ⟨b, off + k * 9 + i, none⟩ = some v := fun i v hv => (HB.out.cell (p := ⟨b, off + k * 9 + i, none⟩) hbl).trans (hcq i v hv)
          have q0 : wo.cell? ⟨b, off + k * 9, none⟩ = some (.slice q.tA q.tabs.length q.tc) := hcc 0 _ rfl
          have q1 : wo.cell? ⟨b, off + k * 9 + 1, none⟩ = some (.slice q.bA q.beg.length q.bc) := hcc 1 _ rfl
          have q2 : wo.cell? ⟨b, off + k * 9 + 2, none⟩ = some (.int .i64 q.width) := hcc 2 _ rfl
          have q3 : wo.cell? ⟨b, off + k * 9 + 3, none⟩ = some (.slice q.wA q.wh.length q.wc) := hcc 3 _ rfl
          have q4 : wo.cell? ⟨b, off + k * 9 + 4, none⟩ = some (.slice q.gA q.gn q.gc) := hcc 4 _ rfl
          have q5 : wo.cell? ⟨b, off + k * 9 + 5, none⟩ = some (.bool q.grouped) := hcc 5 _ rfl
          have q6 : wo.cell? ⟨b, off + k * 9 + 6, none⟩ = some (.slice q.iA q.i_n q.ic) := hcc 6 _ rfl
          have q7 : wo.cell? ⟨b, off + k * 9 + 7, none⟩ = some (.slice q.oA q.ord.length q.oc) := hcc 7 _ rfl
          have q8 : wo.cell? ⟨b, off + k * 9 + 8, none⟩ = some (.int .i64 q.limit) := hcc 8 _ rfl
          have hbo : b < wo.heap.size := Nat.lt_of_lt_of_le hbl HB.out.size
          have HBX := Lib.hid (show Below w.heap.size w (wo.alloc (.cells #[.slice q.tA q.tabs.length q.tc, .slice q.bA q.beg.length q.bc, .int .i64 q.width, .slice q.wA q.wh.length q.wc, .slice q.gA q.gn q.gc, .bool q.grouped, .slice q.iA q.i_n q.ic, .slice q.oA q.ord.length q.oc, .int .i64 q.limit] 26)) from HB.out.trans ((below1 wo _).mono HB.out.size))
          clear hcq hqa hx hcc hc
          go_wp2_with (first
            | (go_at_call 8; (with_reducible refine (HSM.out _ HBX.out).mono ?_); rintro e w3 ⟨⟨b, rfl, hsm⟩, hB3⟩; have HB3 := Lib.hid (HBX.out.trans (hB3.mono HBX.out.size)); have HSS := Lib.hid hsm; clear hB3 hsm; cases b)
            | fail)
          · go_ret
            exact ⟨rfl, HB3.out⟩
          · have HS3 := Lib.hid (HS2.out (HSS.out (by simp)))
            go_roundw
            case rel => exact ⟨k + 1, by omega, by go_num, HB3.out, HS3⟩
            case measure => simp [intOf] <;> omega
      · have HSA := Lib.hid (show ∀ q ∈ qs, SmallQ q from fun q hq => HS.out q (by rw [List.take_of_length_le (by omega)]; exact hq))
        clear HS
        obtain ⟨q, qs', hqe⟩ : ∃ q qs', qs = q :: qs' := by
          cases qs with
          | nil => simp at h0n
          | cons q qs' => exact ⟨q, qs', rfl⟩
        rcases HQ.out.2 with h0 | ⟨b, off, rfl, hbl, hc⟩
        · exfalso; rw [h0] at h0n; simp at h0n
        · have hx : qs[0]? = some q := by rw [hqe]; rfl
          obtain ⟨hcq, hqa⟩ := hc 0 q hx
          have hsq := HSA.out q (List.mem_of_getElem? hx)
          have HQE := Lib.hid hqe
          have H10 := Lib.hid (fun (W : World) (hB : Below w.heap.size w W) => of10_any q W (hqa.keep hB) hsq.1 hsq.2.2.1 hsq.2.2.2)
          have H12 := Lib.hid (fun (W : World) (hB : Below w.heap.size w W) => all12_any _ c qs 16 16 W (by omega) (HQ.out.keep hB) HSA.out)
          unfold qV Qd.cells at H10
          have hcc : ∀ (i : Nat) (v : Value), q.cells.toList[i]? = some v → wo.cell? ⟨b, off + i, none⟩ = some v := fun i v hv => by
            have h := (HB.out.cell (p := ⟨b, off + 0 * 9 + i, none⟩) hbl).trans (hcq i v hv)
            simpa using h
          have q0 : wo.cell? ⟨b, off, none⟩ = some (.slice q.tA q.tabs.length q.tc) := hcc 0 _ rfl
          have q1 : wo.cell? ⟨b, off + 1, none⟩ = some (.slice q.bA q.beg.length q.bc) := hcc 1 _ rfl
          have q2 : wo.cell? ⟨b, off + 2, none⟩ = some (.int .i64 q.width) := hcc 2 _ rfl
          have q3 : wo.cell? ⟨b, off + 3, none⟩ = some (.slice q.wA q.wh.length q.wc) := hcc 3 _ rfl
          have q4 : wo.cell? ⟨b, off + 4, none⟩ = some (.slice q.gA q.gn q.gc) := hcc 4 _ rfl
          have q5 : wo.cell? ⟨b, off + 5, none⟩ = some (.bool q.grouped) := hcc 5 _ rfl
          have q6 : wo.cell? ⟨b, off + 6, none⟩ = some (.slice q.iA q.i_n q.ic) := hcc 6 _ rfl
          have q7 : wo.cell? ⟨b, off + 7, none⟩ = some (.slice q.oA q.ord.length q.oc) := hcc 7 _ rfl
          have q8 : wo.cell? ⟨b, off + 8, none⟩ = some (.int .i64 q.limit) := hcc 8 _ rfl
          have hbo : b < wo.heap.size := Nat.lt_of_lt_of_le hbl HB.out.size
          have h0n' : (0 : Int) < (qs.length : Int) := by omega
          clear hqe hcq hqa hx hsq hcc hc
          go_wp2_with (first
            | (go_at_call 10; (with_reducible refine (H10.out _ HB.out).mono ?_); rintro e w4 ⟨ds, A1, c1, hp1, rfl, hd1, hB4⟩; have HP1 := Lib.hid hp1; have HD0 := Lib.hid hd1; have HB4 := Lib.hid (HB.out.trans (hB4.mono HB.out.size)); clear hp1 hd1 hB4)
            | (go_at_call 12; (with_reducible refine (H12.out _ HB4.out).mono ?_); rintro e w5 ⟨es, A2, c2, hp2, rfl, hd2, hB5⟩; have HP2 := Lib.hid hp2; have HD2 := Lib.hid hd2; have HD1 := Lib.hid (HD0.out.keep hB5); have HB5 := Lib.hid (HB4.out.trans (hB5.mono HB4.out.size)); clear hp2 hd2 hB5)
            | fail)
          obtain ⟨dn, hdn⟩ : ∃ n, n = ds.length := ⟨_, rfl⟩
          obtain ⟨en, hen⟩ : ∃ n, n = es.length := ⟨_, rfl⟩
          have Hdn := Lib.hid hdn
          have Hen := Lib.hid hen
          have hen16 : en ≤ 16 := by have := (allR_facts 16 qs).1; rw [← HP2.out] at this; simp [pureD] at this; omega
          have hdnm : dn ≤ maxLen := by rw [hdn]; exact Nat.le_trans HD1.out.2.2.1 HD1.out.2.2.2
          unfold maxLen at hdnm
          rw [← hdn, ← hen]
          obtain ⟨m2, hm2⟩ : ∃ m2 : Nat, (m2 : Int) = max 0 (min most (en : Int)) := ⟨(max 0 (min most (en : Int))).toNat, by omega⟩
          have hm2e : m2 ≤ en := by omega
          clear hdn hen q0 q1 q2 q3 q4 q5 q6 q7 q8
          go_loopw [45] (fun i wr => ∃ k : Nat, k ≤ dn ∧ i = .int .i64 k ∧ Below w5.heap.size w5 wr) (fun i _ => dn - (intOf i).toNat)
          case atStart => exact ⟨0, Nat.zero_le _, rfl, Below.refl _ _⟩
          case round =>
            obtain ⟨k2, hk2, rfl, hB2⟩ := hrel
            obtain ⟨wr3, rfl⟩ : ∃ wo : World, wo = wr := ⟨_, rfl⟩
            have HB2 := Lib.hid hB2
            clear hB2
            by_cases hlt2 : k2 < dn
            · obtain ⟨⟨dt, dA, dc, dl⟩, hd⟩ : ∃ d, ds[k2]? = some d := ⟨_, List.getElem?_eq_getElem (by have := Hdn.out; omega)⟩
              have hpd := pure_get hd
              obtain ⟨b, off, hAA, hb, k0, k1, k2', hI⟩ := defs_cells HD1.out HB2.out hd
              subst hAA
              have HPD := Lib.hid hpd
              have hbi : b < wr3.heap.size := Nat.lt_of_lt_of_le hb HB2.out.size
              have HBXA := Lib.hid (show BoxD (wr3.alloc (.cells #[.int .i64 dt, .slice dA dl.length dc, .bool false] 36)) wr3.heap.size dt dA dl.length dc from heap_alloc_new _ _)
              have HBA := Lib.hid (HB2.out.trans ((below1 wr3 (.cells #[.int .i64 dt, .slice dA dl.length dc, .bool false] 36)).mono HB2.out.size))
              have HIA := Lib.hid (hI.keep (below1 wr3 (.cells #[.int .i64 dt, .slice dA dl.length dc, .bool false] 36)))
              clear hd hpd hI
              go_wp2_with fail
              obtain ⟨wa, hwa⟩ : ∃ wa, wa = wr3.alloc (.cells #[.int .i64 dt, .slice dA dl.length dc, .bool false] 36) := ⟨_, rfl⟩
              rw [← hwa] at HBXA HBA HIA ⊢
              obtain ⟨x0, x1, x2⟩ := HBXA.out.cells
              have hltx := heap_lt HBXA.out
              clear hwa k0 k1 k2'
              by_cases hke : k2 < en
              · obtain ⟨⟨et, eA, ec', el⟩, he⟩ : ∃ d, es[k2]? = some d := ⟨_, List.getElem?_eq_getElem (by have := Hen.out; omega)⟩
                have hpe := pure_get he
                obtain ⟨be, offe, hAE, hbe, e0, e1, e2, hIe⟩ := defs_cells HD2.out HBA.out he
                (first | subst hAE | cases hAE)
                have hag : (dt, dl) = (et, el) := by
                      rw [HP2.out, HQE.out] at hpe
                      have h := HPD.out
                      rw [HP1.out] at h
                      exact allR_agree 16 q qs' k2 _ _ h hpe
                have hbei : be < wa.heap.size := Nat.lt_of_lt_of_le hbe HBA.out.size
                have HSM := Lib.hid (show ∀ W, Below wa.heap.size wa W → Calls Try.prog 14 #[.agg #[.int .i64 et, .slice eA el.length ec', .bool false], .agg #[.int .i64 dt, .slice dA dl.length dc, .bool false]] W (RetV (.bool true) W) from fun W hW => by
                  have h := same_any ⟨et, eA, ec', el⟩ ⟨dt, dA, dc, dl⟩ W (hIe.keep hW) (HIA.out.keep hW)
                  have hs : sameR ⟨et, eA, ec', el⟩ ⟨dt, dA, dc, dl⟩ = true := by
                    unfold sameR
                    injection hag with h1 h2
                    rw [h1, h2]; simp
                  rw [hs] at h
                  exact h)
                have HSX := Lib.hid (show ∀ wx, Below wa.heap.size wa wx → Below wa.heap.size wa wx ∧ wx.cell? ⟨wr3.heap.size, 0, none⟩ = some (.int .i64 dt) ∧ wx.cell? ⟨wr3.heap.size, 1, none⟩ = some (.slice dA dl.length dc) ∧ wx.cell? ⟨wr3.heap.size, 2, none⟩ = some (.bool false) ∧ wr3.heap.size < wx.heap.size ∧ wx.cell? ⟨be, offe + k2 * 3, none⟩ = some (.int .i64 et) ∧ wx.cell? ⟨be, offe + k2 * 3 + 1, none⟩ = some (.slice eA el.length ec') ∧ wx.cell? ⟨be, offe + k2 * 3 + 2, none⟩ = some (.bool false) ∧ be < wx.heap.size from fun wx h => ⟨h, cell_kept x0 h, cell_kept x1 h, cell_kept x2 h, Nat.lt_of_lt_of_le hltx h.size, cell_kept e0 h, cell_kept e1 h, cell_kept e2 h, Nat.lt_of_lt_of_le hbei h.size⟩)
                clear he hpe hIe hag
                go_wp2_with fail
                refine wp_region_held_drew (S := (fun wx => Below wa.heap.size wa wx ∧ wx.cell? ⟨wr3.heap.size, 0, none⟩ = some (.int .i64 dt) ∧ wx.cell? ⟨wr3.heap.size, 1, none⟩ = some (.slice dA dl.length dc) ∧ wx.cell? ⟨wr3.heap.size, 2, none⟩ = some (.bool false) ∧ wr3.heap.size < wx.heap.size ∧ wx.cell? ⟨be, offe + k2 * 3, none⟩ = some (.int .i64 et) ∧ wx.cell? ⟨be, offe + k2 * 3 + 1, none⟩ = some (.slice eA el.length ec') ∧ wx.cell? ⟨be, offe + k2 * 3 + 2, none⟩ = some (.bool false) ∧ be < wx.heap.size)) (by kernel_rfl) (HSX.out _ (Below.refl _ _).drew) (fun hHeld => ?_)
                (try dsimp only at hHeld)
                refine wpAnyH_take (i := 0) (v := ?_) (List.getElem?_toArray.trans rfl) (by kernel_rfl) (by kernel_rfl) (by kernel_rfl) (fun _ _ _ h => h) (Or.inl ⟨by rfl, ?_⟩) hHeld ?_
                rotate_left
                · intro wx hSw
                  (try dsimp only at hSw)
                  go_simp
                  (try with_reducible rfl)
                (try simp only [Act.put, List.setIfInBounds_toArray, List.set_cons_zero, List.set_cons_succ])
                refine wpAnyH_take (i := 1) (v := ?_) (List.getElem?_toArray.trans rfl) (by kernel_rfl) (by kernel_rfl) (by kernel_rfl) (fun _ _ _ h => h) (Or.inl ⟨by rfl, ?_⟩) hHeld ?_
                rotate_left
                · intro wx hSw
                  (try dsimp only at hSw)
                  go_simp
                  (try with_reducible rfl)
                (try simp only [Act.put, List.setIfInBounds_toArray, List.set_cons_zero, List.set_cons_succ])
                refine wpAnyH_take (i := 2) (v := ?_) (List.getElem?_toArray.trans rfl) (by kernel_rfl) (by kernel_rfl) (by kernel_rfl) (fun _ _ _ h => h) (Or.inl ⟨by rfl, ?_⟩) hHeld ?_
                rotate_left
                · intro wx hSw
                  (try dsimp only at hSw)
                  go_simp
                  (try with_reducible rfl)
                (try simp only [Act.put, List.setIfInBounds_toArray, List.set_cons_zero, List.set_cons_succ])
                refine wpAnyH_take (i := 3) (v := ?_) (List.getElem?_toArray.trans rfl) (by kernel_rfl) (by kernel_rfl) (by kernel_rfl) (fun _ _ _ h => h) (Or.inl ⟨by rfl, ?_⟩) hHeld ?_
                rotate_left
                · intro wx hSw
                  (try dsimp only at hSw)
                  go_simp
                  (try with_reducible rfl)
                (try simp only [Act.put, List.setIfInBounds_toArray, List.set_cons_zero, List.set_cons_succ])
                refine wpAnyH_take (i := 4) (v := ?_) (List.getElem?_toArray.trans rfl) (by kernel_rfl) (by kernel_rfl) (by kernel_rfl) (fun _ _ _ h => h) (Or.inl ⟨by rfl, ?_⟩) hHeld ?_
                rotate_left
                · intro wx hSw
                  (try dsimp only at hSw)
                  go_simp
                  (try with_reducible rfl)
                (try simp only [Act.put, List.setIfInBounds_toArray, List.set_cons_zero, List.set_cons_succ])
                refine wpAnyH_take (i := 5) (v := ?_) (List.getElem?_toArray.trans rfl) (by kernel_rfl) (by kernel_rfl) (by kernel_rfl) (fun _ _ _ h => h) (Or.inl ⟨by rfl, ?_⟩) hHeld ?_
                rotate_left
                · intro wx hSw
                  (try dsimp only at hSw)
                  go_simp
                  (try with_reducible rfl)
                (try simp only [Act.put, List.setIfInBounds_toArray, List.set_cons_zero, List.set_cons_succ])
                refine wpAnyH_take (i := 6) (v := ?_) (List.getElem?_toArray.trans rfl) (by kernel_rfl) (by kernel_rfl) (by kernel_rfl) (fun _ _ _ h => h) (Or.inl ⟨by rfl, ?_⟩) hHeld ?_
                rotate_left
                · intro wx hSw
                  (try dsimp only at hSw)
                  go_simp
                  (try with_reducible rfl)
                (try simp only [Act.put, List.setIfInBounds_toArray, List.set_cons_zero, List.set_cons_succ])
                refine wpAnyH_take (i := 7) (v := ?_) (List.getElem?_toArray.trans rfl) (by kernel_rfl) (by kernel_rfl) (by kernel_rfl) (fun _ _ _ h => h) (Or.inl ⟨by rfl, ?_⟩) hHeld ?_
                rotate_left
                · intro wx hSw
                  (try dsimp only at hSw)
                  go_simp
                  (try with_reducible rfl)
                (try simp only [Act.put, List.setIfInBounds_toArray, List.set_cons_zero, List.set_cons_succ])
                refine wpAnyH_take (i := 8) (v := ?_) (List.getElem?_toArray.trans rfl) (by kernel_rfl) (by kernel_rfl) (by kernel_rfl) (fun _ _ _ h => h) (Or.inl ⟨by rfl, ?_⟩) hHeld ?_
                rotate_left
                · intro wx hSw
                  (try dsimp only at hSw)
                  go_simp
                  (try with_reducible rfl)
                (try simp only [Act.put, List.setIfInBounds_toArray, List.set_cons_zero, List.set_cons_succ])
                refine wpAnyH_take (i := 9) (v := ?_) (List.getElem?_toArray.trans rfl) (by kernel_rfl) (by kernel_rfl) (by kernel_rfl) (fun _ _ _ h => h) (Or.inl ⟨by rfl, ?_⟩) hHeld ?_
                rotate_left
                · intro wx hSw
                  (try dsimp only at hSw)
                  go_simp
                  (try with_reducible rfl)
                (try simp only [Act.put, List.setIfInBounds_toArray, List.set_cons_zero, List.set_cons_succ])
                refine wpAnyH_ready (rs := [10]) (by kernel_rfl) (by simp) ?_
                refine AllReadyH.cons (List.getElem?_toArray.trans rfl) (fun K hK => ?_) AllReadyH.nil
                go_simp
                go_at_call 14
                with_reducible refine Calls.mono (HSM.out _ hHeld.1) ?_
                rintro e w3 ⟨rfl, hB3⟩
                have hHeld2 := HSX.out _ (hHeld.1.trans (hB3.mono hHeld.1.size))
                refine hK.out _ _ hHeld2 (fun _ => ?_)
                clear hK K hHeld hB3
                have hHeld := hHeld2
                clear hHeld2
                (try simp only [Act.put, List.setIfInBounds_toArray, List.set_cons_zero, List.set_cons_succ])
                refine wpAnyH_take (i := 11) (v := ?_) (List.getElem?_toArray.trans rfl) (by kernel_rfl) (by kernel_rfl) (by kernel_rfl) (fun _ _ _ h => h) (Or.inl ⟨by rfl, ?_⟩) hHeld ?_
                rotate_left
                · intro wx hSw
                  (try dsimp only at hSw)
                  go_simp
                  (try with_reducible rfl)
                (try simp only [Act.put, List.setIfInBounds_toArray, List.set_cons_zero, List.set_cons_succ])
                refine wpAnyH_take (i := 12) (v := ?_) (List.getElem?_toArray.trans rfl) (by kernel_rfl) (by kernel_rfl) (by kernel_rfl) (fun _ _ _ h => h) (Or.inl ⟨by rfl, ?_⟩) hHeld ?_
                rotate_left
                · intro wx hSw
                  (try dsimp only at hSw)
                  go_simp
                  (try with_reducible rfl)
                (try simp only [Act.put, List.setIfInBounds_toArray, List.set_cons_zero, List.set_cons_succ])
                refine wpAnyH_done (by kernel_rfl) ?_ _
                have HB9 := Lib.hid (HBA.out.trans (hHeld.1.mono HBA.out.size))
                go_wp2_with fail
                go_roundw
                case rel => exact ⟨k2 + 1, by omega, by go_num, HB9.out⟩
                case measure => simp [intOf] <;> omega
              · have HSX := Lib.hid (show ∀ wx, Below wa.heap.size wa wx → Below wa.heap.size wa wx ∧ wx.cell? ⟨wr3.heap.size, 0, none⟩ = some (.int .i64 dt) ∧ wx.cell? ⟨wr3.heap.size, 1, none⟩ = some (.slice dA dl.length dc) ∧ wx.cell? ⟨wr3.heap.size, 2, none⟩ = some (.bool false) ∧ wr3.heap.size < wx.heap.size from fun wx h => ⟨h, cell_kept x0 h, cell_kept x1 h, cell_kept x2 h, Nat.lt_of_lt_of_le hltx h.size⟩)
                go_wp2_with fail
                refine wp_region_held_drew (S := (fun wx => Below wa.heap.size wa wx ∧ wx.cell? ⟨wr3.heap.size, 0, none⟩ = some (.int .i64 dt) ∧ wx.cell? ⟨wr3.heap.size, 1, none⟩ = some (.slice dA dl.length dc) ∧ wx.cell? ⟨wr3.heap.size, 2, none⟩ = some (.bool false) ∧ wr3.heap.size < wx.heap.size)) (by kernel_rfl) (HSX.out _ (Below.refl _ _).drew) (fun hHeld => ?_)
                (try dsimp only at hHeld)
                refine wpAnyH_take (i := 0) (v := ?_) (List.getElem?_toArray.trans rfl) (by kernel_rfl) (by kernel_rfl) (by kernel_rfl) (fun _ _ _ h => h) (Or.inl ⟨by rfl, ?_⟩) hHeld ?_
                rotate_left
                · intro wx hSw
                  (try dsimp only at hSw)
                  go_simp
                  (try with_reducible rfl)
                (try simp only [Act.put, List.setIfInBounds_toArray, List.set_cons_zero, List.set_cons_succ])
                refine wpAnyH_take (i := 1) (v := ?_) (List.getElem?_toArray.trans rfl) (by kernel_rfl) (by kernel_rfl) (by kernel_rfl) (fun _ _ _ h => h) (Or.inl ⟨by rfl, ?_⟩) hHeld ?_
                rotate_left
                · intro wx hSw
                  (try dsimp only at hSw)
                  go_simp
                  (try with_reducible rfl)
                (try simp only [Act.put, List.setIfInBounds_toArray, List.set_cons_zero, List.set_cons_succ])
                refine wpAnyH_take (i := 2) (v := ?_) (List.getElem?_toArray.trans rfl) (by kernel_rfl) (by kernel_rfl) (by kernel_rfl) (fun _ _ _ h => h) (Or.inl ⟨by rfl, ?_⟩) hHeld ?_
                rotate_left
                · intro wx hSw
                  (try dsimp only at hSw)
                  go_simp
                  (try with_reducible rfl)
                (try simp only [Act.put, List.setIfInBounds_toArray, List.set_cons_zero, List.set_cons_succ])
                refine wpAnyH_take (i := 3) (v := ?_) (List.getElem?_toArray.trans rfl) (by kernel_rfl) (by kernel_rfl) (by kernel_rfl) (fun _ _ _ h => h) (Or.inl ⟨by rfl, ?_⟩) hHeld ?_
                rotate_left
                · intro wx hSw
                  (try dsimp only at hSw)
                  go_simp
                  (try with_reducible rfl)
                (try simp only [Act.put, List.setIfInBounds_toArray, List.set_cons_zero, List.set_cons_succ])
                refine wpAnyH_take (i := 4) (v := ?_) (List.getElem?_toArray.trans rfl) (by kernel_rfl) (by kernel_rfl) (by kernel_rfl) (fun _ _ _ h => h) (Or.inl ⟨by rfl, ?_⟩) hHeld ?_
                rotate_left
                · intro wx hSw
                  (try dsimp only at hSw)
                  go_simp
                  (try with_reducible rfl)
                (try simp only [Act.put, List.setIfInBounds_toArray, List.set_cons_zero, List.set_cons_succ])
                refine wpAnyH_take (i := 5) (List.getElem?_toArray.trans rfl) (by kernel_rfl) (by kernel_rfl) (by kernel_rfl) (fun _ _ _ h => h) (Or.inr ⟨by rfl, rfl⟩) hHeld ?_
                (try simp only [Act.put, List.setIfInBounds_toArray, List.set_cons_zero, List.set_cons_succ])
                refine wpAnyH_take (i := 6) (List.getElem?_toArray.trans rfl) (by kernel_rfl) (by kernel_rfl) (by kernel_rfl) (fun _ _ _ h => h) (Or.inr ⟨by rfl, rfl⟩) hHeld ?_
                (try simp only [Act.put, List.setIfInBounds_toArray, List.set_cons_zero, List.set_cons_succ])
                refine wpAnyH_take (i := 7) (List.getElem?_toArray.trans rfl) (by kernel_rfl) (by kernel_rfl) (by kernel_rfl) (fun _ _ _ h => h) (Or.inr ⟨by rfl, rfl⟩) hHeld ?_
                (try simp only [Act.put, List.setIfInBounds_toArray, List.set_cons_zero, List.set_cons_succ])
                refine wpAnyH_take (i := 8) (List.getElem?_toArray.trans rfl) (by kernel_rfl) (by kernel_rfl) (by kernel_rfl) (fun _ _ _ h => h) (Or.inr ⟨by rfl, rfl⟩) hHeld ?_
                (try simp only [Act.put, List.setIfInBounds_toArray, List.set_cons_zero, List.set_cons_succ])
                refine wpAnyH_take (i := 9) (List.getElem?_toArray.trans rfl) (by kernel_rfl) (by kernel_rfl) (by kernel_rfl) (fun _ _ _ h => h) (Or.inr ⟨by rfl, rfl⟩) hHeld ?_
                (try simp only [Act.put, List.setIfInBounds_toArray, List.set_cons_zero, List.set_cons_succ])
                refine wpAnyH_take (i := 10) (List.getElem?_toArray.trans rfl) (by kernel_rfl) (by kernel_rfl) (by kernel_rfl) (fun _ _ _ h => h) (Or.inr ⟨by rfl, rfl⟩) hHeld ?_
                (try simp only [Act.put, List.setIfInBounds_toArray, List.set_cons_zero, List.set_cons_succ])
                refine wpAnyH_take (i := 11) (List.getElem?_toArray.trans rfl) (by kernel_rfl) (by kernel_rfl) (by kernel_rfl) (fun _ _ _ h => h) (Or.inr ⟨by rfl, rfl⟩) hHeld ?_
                (try simp only [Act.put, List.setIfInBounds_toArray, List.set_cons_zero, List.set_cons_succ])
                refine wpAnyH_take (i := 12) (v := ?_) (List.getElem?_toArray.trans rfl) (by kernel_rfl) (by kernel_rfl) (by kernel_rfl) (fun _ _ _ h => h) (Or.inl ⟨by rfl, ?_⟩) hHeld ?_
                rotate_left
                · intro wx hSw
                  (try dsimp only at hSw)
                  go_simp
                  (try with_reducible rfl)
                (try simp only [Act.put, List.setIfInBounds_toArray, List.set_cons_zero, List.set_cons_succ])
                refine wpAnyH_done (by kernel_rfl) ?_ _
                have HB9 := Lib.hid (HBA.out.trans (hHeld.1.mono HBA.out.size))
                go_wp2_with fail
                go_roundw
                case rel => exact ⟨k2 + 1, by omega, by go_num, HB9.out⟩
                case measure => simp [intOf] <;> omega
            · have HBE := Lib.hid HB2.out
              have H12b := Lib.hid (fun (W : World) (hB : Below w.heap.size w W) => all12_any _ c qs (max 0 (min most (en : Int))) m2 W (by omega) (HQ.out.keep hB) HSA.out)
              have HB5b := Lib.hid (HB5.out.trans (HBE.out.mono HB5.out.size))
              have HM2 := Lib.hid hm2
              clear hm2
              go_wp2_with (first
                | (go_at_call 12; (with_reducible refine (H12b.out _ HB5b.out).mono ?_); rintro e w6 ⟨fs, A3, c3, hp3, rfl, hd3, hB6⟩; have HP3 := Lib.hid hp3; have HD3 := Lib.hid hd3; have HDS := Lib.hid ((HD1.out.keep HBE.out).keep hB6); have HB6 := Lib.hid (HB5b.out.trans (hB6.mono HB5b.out.size)); clear hp3 hd3 hB6)
                | fail)
              obtain ⟨fn, hfn⟩ : ∃ n, n = fs.length := ⟨_, rfl⟩
              have Hfn := Lib.hid hfn
              have hfm : fn ≤ m2 := by have := (allR_facts m2 qs).1; rw [← HP3.out] at this; simp [pureD] at this; omega
              rw [← hfn]
              clear hfn
              go_loopw [73] (fun i wr => ∃ k : Nat, k ≤ fn ∧ i = .int .i64 k ∧ Below w6.heap.size w6 wr) (fun i _ => fn - (intOf i).toNat)
              case atStart => exact ⟨0, Nat.zero_le _, rfl, Below.refl _ _⟩
              case round =>
                obtain ⟨k2, hk2, rfl, hB2⟩ := hrel
                obtain ⟨wr3, rfl⟩ : ∃ wo : World, wo = wr := ⟨_, rfl⟩
                have HB2 := Lib.hid hB2
                clear hB2
                by_cases hlt2 : k2 < fn
                · obtain ⟨⟨dt, dA, dc, dl⟩, hd⟩ : ∃ d, fs[k2]? = some d := ⟨_, List.getElem?_eq_getElem (by have := Hfn.out; omega)⟩
                  have hpd := pure_get hd
                  obtain ⟨b, off, hAA, hb, k0, k1, k2', hI⟩ := defs_cells HD3.out HB2.out hd
                  subst hAA
                  have HPD := Lib.hid hpd
                  have hbi : b < wr3.heap.size := Nat.lt_of_lt_of_le hb HB2.out.size
                  have HBXA := Lib.hid (show BoxD (wr3.alloc (.cells #[.int .i64 dt, .slice dA dl.length dc, .bool false] 36)) wr3.heap.size dt dA dl.length dc from heap_alloc_new _ _)
                  have HBA := Lib.hid (HB2.out.trans ((below1 wr3 (.cells #[.int .i64 dt, .slice dA dl.length dc, .bool false] 36)).mono HB2.out.size))
                  have HIA := Lib.hid (hI.keep (below1 wr3 (.cells #[.int .i64 dt, .slice dA dl.length dc, .bool false] 36)))
                  clear hd hpd hI
                  go_wp2_with fail
                  obtain ⟨wa, hwa⟩ : ∃ wa, wa = wr3.alloc (.cells #[.int .i64 dt, .slice dA dl.length dc, .bool false] 36) := ⟨_, rfl⟩
                  rw [← hwa] at HBXA HBA HIA ⊢
                  obtain ⟨x0, x1, x2⟩ := HBXA.out.cells
                  have hltx := heap_lt HBXA.out
                  clear hwa k0 k1 k2'
                  by_cases hke : k2 < dn
                  · obtain ⟨⟨et, eA, ec', el⟩, he⟩ : ∃ d, ds[k2]? = some d := ⟨_, List.getElem?_eq_getElem (by have := Hdn.out; omega)⟩
                    have hpe := pure_get he
                    obtain ⟨be, offe, hAE, hbe, e0, e1, e2, hIe⟩ := defs_cells HDS.out HBA.out he
                    (first | subst hAE | cases hAE)
                    have hag : (dt, dl) = (et, el) := by
                          rw [HP1.out] at hpe
                          have h := HPD.out
                          rw [HP3.out, HQE.out] at h
                          exact (allR_agree m2 q qs' k2 _ _ hpe h).symm
                    have hbei : be < wa.heap.size := Nat.lt_of_lt_of_le hbe HBA.out.size
                    have HSM := Lib.hid (show ∀ W, Below wa.heap.size wa W → Calls Try.prog 14 #[.agg #[.int .i64 et, .slice eA el.length ec', .bool false], .agg #[.int .i64 dt, .slice dA dl.length dc, .bool false]] W (RetV (.bool true) W) from fun W hW => by
                      have h := same_any ⟨et, eA, ec', el⟩ ⟨dt, dA, dc, dl⟩ W (hIe.keep hW) (HIA.out.keep hW)
                      have hs : sameR ⟨et, eA, ec', el⟩ ⟨dt, dA, dc, dl⟩ = true := by
                        unfold sameR
                        injection hag with h1 h2
                        rw [h1, h2]; simp
                      rw [hs] at h
                      exact h)
                    have HSX := Lib.hid (show ∀ wx, Below wa.heap.size wa wx → Below wa.heap.size wa wx ∧ wx.cell? ⟨wr3.heap.size, 0, none⟩ = some (.int .i64 dt) ∧ wx.cell? ⟨wr3.heap.size, 1, none⟩ = some (.slice dA dl.length dc) ∧ wx.cell? ⟨wr3.heap.size, 2, none⟩ = some (.bool false) ∧ wr3.heap.size < wx.heap.size ∧ wx.cell? ⟨be, offe + k2 * 3, none⟩ = some (.int .i64 et) ∧ wx.cell? ⟨be, offe + k2 * 3 + 1, none⟩ = some (.slice eA el.length ec') ∧ wx.cell? ⟨be, offe + k2 * 3 + 2, none⟩ = some (.bool false) ∧ be < wx.heap.size from fun wx h => ⟨h, cell_kept x0 h, cell_kept x1 h, cell_kept x2 h, Nat.lt_of_lt_of_le hltx h.size, cell_kept e0 h, cell_kept e1 h, cell_kept e2 h, Nat.lt_of_lt_of_le hbei h.size⟩)
                    clear he hpe hIe hag
                    go_wp2_with fail
                    refine wp_region_held_drew (S := (fun wx => Below wa.heap.size wa wx ∧ wx.cell? ⟨wr3.heap.size, 0, none⟩ = some (.int .i64 dt) ∧ wx.cell? ⟨wr3.heap.size, 1, none⟩ = some (.slice dA dl.length dc) ∧ wx.cell? ⟨wr3.heap.size, 2, none⟩ = some (.bool false) ∧ wr3.heap.size < wx.heap.size ∧ wx.cell? ⟨be, offe + k2 * 3, none⟩ = some (.int .i64 et) ∧ wx.cell? ⟨be, offe + k2 * 3 + 1, none⟩ = some (.slice eA el.length ec') ∧ wx.cell? ⟨be, offe + k2 * 3 + 2, none⟩ = some (.bool false) ∧ be < wx.heap.size)) (by kernel_rfl) (HSX.out _ (Below.refl _ _).drew) (fun hHeld => ?_)
                    (try dsimp only at hHeld)
                    refine wpAnyH_take (i := 0) (v := ?_) (List.getElem?_toArray.trans rfl) (by kernel_rfl) (by kernel_rfl) (by kernel_rfl) (fun _ _ _ h => h) (Or.inl ⟨by rfl, ?_⟩) hHeld ?_
                    rotate_left
                    · intro wx hSw
                      (try dsimp only at hSw)
                      go_simp
                      (try with_reducible rfl)
                    (try simp only [Act.put, List.setIfInBounds_toArray, List.set_cons_zero, List.set_cons_succ])
                    refine wpAnyH_take (i := 1) (v := ?_) (List.getElem?_toArray.trans rfl) (by kernel_rfl) (by kernel_rfl) (by kernel_rfl) (fun _ _ _ h => h) (Or.inl ⟨by rfl, ?_⟩) hHeld ?_
                    rotate_left
                    · intro wx hSw
                      (try dsimp only at hSw)
                      go_simp
                      (try with_reducible rfl)
                    (try simp only [Act.put, List.setIfInBounds_toArray, List.set_cons_zero, List.set_cons_succ])
                    refine wpAnyH_take (i := 2) (v := ?_) (List.getElem?_toArray.trans rfl) (by kernel_rfl) (by kernel_rfl) (by kernel_rfl) (fun _ _ _ h => h) (Or.inl ⟨by rfl, ?_⟩) hHeld ?_
                    rotate_left
                    · intro wx hSw
                      (try dsimp only at hSw)
                      go_simp
                      (try with_reducible rfl)
                    (try simp only [Act.put, List.setIfInBounds_toArray, List.set_cons_zero, List.set_cons_succ])
                    refine wpAnyH_take (i := 3) (v := ?_) (List.getElem?_toArray.trans rfl) (by kernel_rfl) (by kernel_rfl) (by kernel_rfl) (fun _ _ _ h => h) (Or.inl ⟨by rfl, ?_⟩) hHeld ?_
                    rotate_left
                    · intro wx hSw
                      (try dsimp only at hSw)
                      go_simp
                      (try with_reducible rfl)
                    (try simp only [Act.put, List.setIfInBounds_toArray, List.set_cons_zero, List.set_cons_succ])
                    refine wpAnyH_take (i := 4) (v := ?_) (List.getElem?_toArray.trans rfl) (by kernel_rfl) (by kernel_rfl) (by kernel_rfl) (fun _ _ _ h => h) (Or.inl ⟨by rfl, ?_⟩) hHeld ?_
                    rotate_left
                    · intro wx hSw
                      (try dsimp only at hSw)
                      go_simp
                      (try with_reducible rfl)
                    (try simp only [Act.put, List.setIfInBounds_toArray, List.set_cons_zero, List.set_cons_succ])
                    refine wpAnyH_take (i := 5) (v := ?_) (List.getElem?_toArray.trans rfl) (by kernel_rfl) (by kernel_rfl) (by kernel_rfl) (fun _ _ _ h => h) (Or.inl ⟨by rfl, ?_⟩) hHeld ?_
                    rotate_left
                    · intro wx hSw
                      (try dsimp only at hSw)
                      go_simp
                      (try with_reducible rfl)
                    (try simp only [Act.put, List.setIfInBounds_toArray, List.set_cons_zero, List.set_cons_succ])
                    refine wpAnyH_take (i := 6) (v := ?_) (List.getElem?_toArray.trans rfl) (by kernel_rfl) (by kernel_rfl) (by kernel_rfl) (fun _ _ _ h => h) (Or.inl ⟨by rfl, ?_⟩) hHeld ?_
                    rotate_left
                    · intro wx hSw
                      (try dsimp only at hSw)
                      go_simp
                      (try with_reducible rfl)
                    (try simp only [Act.put, List.setIfInBounds_toArray, List.set_cons_zero, List.set_cons_succ])
                    refine wpAnyH_take (i := 7) (v := ?_) (List.getElem?_toArray.trans rfl) (by kernel_rfl) (by kernel_rfl) (by kernel_rfl) (fun _ _ _ h => h) (Or.inl ⟨by rfl, ?_⟩) hHeld ?_
                    rotate_left
                    · intro wx hSw
                      (try dsimp only at hSw)
                      go_simp
                      (try with_reducible rfl)
                    (try simp only [Act.put, List.setIfInBounds_toArray, List.set_cons_zero, List.set_cons_succ])
                    refine wpAnyH_take (i := 8) (v := ?_) (List.getElem?_toArray.trans rfl) (by kernel_rfl) (by kernel_rfl) (by kernel_rfl) (fun _ _ _ h => h) (Or.inl ⟨by rfl, ?_⟩) hHeld ?_
                    rotate_left
                    · intro wx hSw
                      (try dsimp only at hSw)
                      go_simp
                      (try with_reducible rfl)
                    (try simp only [Act.put, List.setIfInBounds_toArray, List.set_cons_zero, List.set_cons_succ])
                    refine wpAnyH_take (i := 9) (v := ?_) (List.getElem?_toArray.trans rfl) (by kernel_rfl) (by kernel_rfl) (by kernel_rfl) (fun _ _ _ h => h) (Or.inl ⟨by rfl, ?_⟩) hHeld ?_
                    rotate_left
                    · intro wx hSw
                      (try dsimp only at hSw)
                      go_simp
                      (try with_reducible rfl)
                    (try simp only [Act.put, List.setIfInBounds_toArray, List.set_cons_zero, List.set_cons_succ])
                    refine wpAnyH_ready (rs := [10]) (by kernel_rfl) (by simp) ?_
                    refine AllReadyH.cons (List.getElem?_toArray.trans rfl) (fun K hK => ?_) AllReadyH.nil
                    go_simp
                    go_at_call 14
                    with_reducible refine Calls.mono (HSM.out _ hHeld.1) ?_
                    rintro e w3 ⟨rfl, hB3⟩
                    have hHeld2 := HSX.out _ (hHeld.1.trans (hB3.mono hHeld.1.size))
                    refine hK.out _ _ hHeld2 (fun _ => ?_)
                    clear hK K hHeld hB3
                    have hHeld := hHeld2
                    clear hHeld2
                    (try simp only [Act.put, List.setIfInBounds_toArray, List.set_cons_zero, List.set_cons_succ])
                    refine wpAnyH_take (i := 11) (v := ?_) (List.getElem?_toArray.trans rfl) (by kernel_rfl) (by kernel_rfl) (by kernel_rfl) (fun _ _ _ h => h) (Or.inl ⟨by rfl, ?_⟩) hHeld ?_
                    rotate_left
                    · intro wx hSw
                      (try dsimp only at hSw)
                      go_simp
                      (try with_reducible rfl)
                    (try simp only [Act.put, List.setIfInBounds_toArray, List.set_cons_zero, List.set_cons_succ])
                    refine wpAnyH_take (i := 12) (v := ?_) (List.getElem?_toArray.trans rfl) (by kernel_rfl) (by kernel_rfl) (by kernel_rfl) (fun _ _ _ h => h) (Or.inl ⟨by rfl, ?_⟩) hHeld ?_
                    rotate_left
                    · intro wx hSw
                      (try dsimp only at hSw)
                      go_simp
                      (try with_reducible rfl)
                    (try simp only [Act.put, List.setIfInBounds_toArray, List.set_cons_zero, List.set_cons_succ])
                    refine wpAnyH_done (by kernel_rfl) ?_ _
                    have HB9 := Lib.hid (HBA.out.trans (hHeld.1.mono HBA.out.size))
                    go_wp2_with fail
                    go_roundw
                    case rel => exact ⟨k2 + 1, by omega, by go_num, HB9.out⟩
                    case measure => simp [intOf] <;> omega
                  · have HSX := Lib.hid (show ∀ wx, Below wa.heap.size wa wx → Below wa.heap.size wa wx ∧ wx.cell? ⟨wr3.heap.size, 0, none⟩ = some (.int .i64 dt) ∧ wx.cell? ⟨wr3.heap.size, 1, none⟩ = some (.slice dA dl.length dc) ∧ wx.cell? ⟨wr3.heap.size, 2, none⟩ = some (.bool false) ∧ wr3.heap.size < wx.heap.size from fun wx h => ⟨h, cell_kept x0 h, cell_kept x1 h, cell_kept x2 h, Nat.lt_of_lt_of_le hltx h.size⟩)
                    go_wp2_with fail
                    refine wp_region_held_drew (S := (fun wx => Below wa.heap.size wa wx ∧ wx.cell? ⟨wr3.heap.size, 0, none⟩ = some (.int .i64 dt) ∧ wx.cell? ⟨wr3.heap.size, 1, none⟩ = some (.slice dA dl.length dc) ∧ wx.cell? ⟨wr3.heap.size, 2, none⟩ = some (.bool false) ∧ wr3.heap.size < wx.heap.size)) (by kernel_rfl) (HSX.out _ (Below.refl _ _).drew) (fun hHeld => ?_)
                    (try dsimp only at hHeld)
                    refine wpAnyH_take (i := 0) (v := ?_) (List.getElem?_toArray.trans rfl) (by kernel_rfl) (by kernel_rfl) (by kernel_rfl) (fun _ _ _ h => h) (Or.inl ⟨by rfl, ?_⟩) hHeld ?_
                    rotate_left
                    · intro wx hSw
                      (try dsimp only at hSw)
                      go_simp
                      (try with_reducible rfl)
                    (try simp only [Act.put, List.setIfInBounds_toArray, List.set_cons_zero, List.set_cons_succ])
                    refine wpAnyH_take (i := 1) (v := ?_) (List.getElem?_toArray.trans rfl) (by kernel_rfl) (by kernel_rfl) (by kernel_rfl) (fun _ _ _ h => h) (Or.inl ⟨by rfl, ?_⟩) hHeld ?_
                    rotate_left
                    · intro wx hSw
                      (try dsimp only at hSw)
                      go_simp
                      (try with_reducible rfl)
                    (try simp only [Act.put, List.setIfInBounds_toArray, List.set_cons_zero, List.set_cons_succ])
                    refine wpAnyH_take (i := 2) (v := ?_) (List.getElem?_toArray.trans rfl) (by kernel_rfl) (by kernel_rfl) (by kernel_rfl) (fun _ _ _ h => h) (Or.inl ⟨by rfl, ?_⟩) hHeld ?_
                    rotate_left
                    · intro wx hSw
                      (try dsimp only at hSw)
                      go_simp
                      (try with_reducible rfl)
                    (try simp only [Act.put, List.setIfInBounds_toArray, List.set_cons_zero, List.set_cons_succ])
                    refine wpAnyH_take (i := 3) (v := ?_) (List.getElem?_toArray.trans rfl) (by kernel_rfl) (by kernel_rfl) (by kernel_rfl) (fun _ _ _ h => h) (Or.inl ⟨by rfl, ?_⟩) hHeld ?_
                    rotate_left
                    · intro wx hSw
                      (try dsimp only at hSw)
                      go_simp
                      (try with_reducible rfl)
                    (try simp only [Act.put, List.setIfInBounds_toArray, List.set_cons_zero, List.set_cons_succ])
                    refine wpAnyH_take (i := 4) (v := ?_) (List.getElem?_toArray.trans rfl) (by kernel_rfl) (by kernel_rfl) (by kernel_rfl) (fun _ _ _ h => h) (Or.inl ⟨by rfl, ?_⟩) hHeld ?_
                    rotate_left
                    · intro wx hSw
                      (try dsimp only at hSw)
                      go_simp
                      (try with_reducible rfl)
                    (try simp only [Act.put, List.setIfInBounds_toArray, List.set_cons_zero, List.set_cons_succ])
                    refine wpAnyH_take (i := 5) (List.getElem?_toArray.trans rfl) (by kernel_rfl) (by kernel_rfl) (by kernel_rfl) (fun _ _ _ h => h) (Or.inr ⟨by rfl, rfl⟩) hHeld ?_
                    (try simp only [Act.put, List.setIfInBounds_toArray, List.set_cons_zero, List.set_cons_succ])
                    refine wpAnyH_take (i := 6) (List.getElem?_toArray.trans rfl) (by kernel_rfl) (by kernel_rfl) (by kernel_rfl) (fun _ _ _ h => h) (Or.inr ⟨by rfl, rfl⟩) hHeld ?_
                    (try simp only [Act.put, List.setIfInBounds_toArray, List.set_cons_zero, List.set_cons_succ])
                    refine wpAnyH_take (i := 7) (List.getElem?_toArray.trans rfl) (by kernel_rfl) (by kernel_rfl) (by kernel_rfl) (fun _ _ _ h => h) (Or.inr ⟨by rfl, rfl⟩) hHeld ?_
                    (try simp only [Act.put, List.setIfInBounds_toArray, List.set_cons_zero, List.set_cons_succ])
                    refine wpAnyH_take (i := 8) (List.getElem?_toArray.trans rfl) (by kernel_rfl) (by kernel_rfl) (by kernel_rfl) (fun _ _ _ h => h) (Or.inr ⟨by rfl, rfl⟩) hHeld ?_
                    (try simp only [Act.put, List.setIfInBounds_toArray, List.set_cons_zero, List.set_cons_succ])
                    refine wpAnyH_take (i := 9) (List.getElem?_toArray.trans rfl) (by kernel_rfl) (by kernel_rfl) (by kernel_rfl) (fun _ _ _ h => h) (Or.inr ⟨by rfl, rfl⟩) hHeld ?_
                    (try simp only [Act.put, List.setIfInBounds_toArray, List.set_cons_zero, List.set_cons_succ])
                    refine wpAnyH_take (i := 10) (List.getElem?_toArray.trans rfl) (by kernel_rfl) (by kernel_rfl) (by kernel_rfl) (fun _ _ _ h => h) (Or.inr ⟨by rfl, rfl⟩) hHeld ?_
                    (try simp only [Act.put, List.setIfInBounds_toArray, List.set_cons_zero, List.set_cons_succ])
                    refine wpAnyH_take (i := 11) (List.getElem?_toArray.trans rfl) (by kernel_rfl) (by kernel_rfl) (by kernel_rfl) (fun _ _ _ h => h) (Or.inr ⟨by rfl, rfl⟩) hHeld ?_
                    (try simp only [Act.put, List.setIfInBounds_toArray, List.set_cons_zero, List.set_cons_succ])
                    refine wpAnyH_take (i := 12) (v := ?_) (List.getElem?_toArray.trans rfl) (by kernel_rfl) (by kernel_rfl) (by kernel_rfl) (fun _ _ _ h => h) (Or.inl ⟨by rfl, ?_⟩) hHeld ?_
                    rotate_left
                    · intro wx hSw
                      (try dsimp only at hSw)
                      go_simp
                      (try with_reducible rfl)
                    (try simp only [Act.put, List.setIfInBounds_toArray, List.set_cons_zero, List.set_cons_succ])
                    refine wpAnyH_done (by kernel_rfl) ?_ _
                    have HB9 := Lib.hid (HBA.out.trans (hHeld.1.mono HBA.out.size))
                    go_wp2_with fail
                    go_roundw
                    case rel => exact ⟨k2 + 1, by omega, by go_num, HB9.out⟩
                    case measure => simp [intOf] <;> omega
                · have HBE := Lib.hid HB2.out
                  have hlf : (fn : Int) ≤ (en : Int) := by omega
                  go_wp2_with fail
                  go_ret
                  exact ⟨by first | rfl | exact ret_bool (decide_eq_true hlf), HB6.out.trans (HBE.out.mono HB6.out.size)⟩
  · go_enter Try.func6, Try.ntmps6
    go_wp2_with (first
      | (go_at_call 7; (with_reducible refine (lives_any _).mono ?_); rintro e wl ⟨rfl, hBl⟩; first | (have HB3 := Lib.hid (HB2.out.trans (hBl.mono HB2.out.size)); clear hBl) | (have HB2 := Lib.hid hBl; clear hBl))
      | fail)
    go_ret
    exact ⟨rfl, HB3.out⟩
end Go.Proofs.Ytcnkghcdjicldaa
