/- The walks of of and of the document's Table: the table of a place. -/
import Derived.Test.YtcnkghcdjicldaaInts3
namespace Go.Proofs.Ytcnkghcdjicldaa
open Go.RowKit

/-- what of answers -/
def OfIs (q : Qd) (a g c : Int) (ok : Bool) : Prop := match tabR q a with
  | some f => ok = true ∧ g = f ∧ c = colR q f a
  | none => ok = false
def OfP (q : Qd) (a : Int) (w : World) (e : Ending) (w' : World) : Prop := (∃ (g c : Int) (ok : Bool), e = .returned (.tuple #[.int .i64 g, .int .i64 c, .bool ok]) ∧ OfIs q a g c ok) ∧ Below w.heap.size w w'
theorem lastLe_skip (l : List Int) (a : Int) (k : Nat) (z : Int) (hz : l[k]? = some z) (h : ¬ z ≤ a) : lastLe l a (k + 1) = lastLe l a k := by
  rw [lastLe, if_neg]; rw [List.getD_eq_getElem?_getD, hz]; exact h
theorem lastLe_here (l : List Int) (a : Int) (k : Nat) (z : Int) (hz : l[k]? = some z) (h : z ≤ a) : lastLe l a (k + 1) = some k := by
  rw [lastLe, if_pos]; rw [List.getD_eq_getElem?_getD, hz]; exact h
theorem getD_of {l : List Int} {k : Nat} {z : Int} (hz : l[k]? = some z) : l.getD k 0 = z := by rw [List.getD_eq_getElem?_getD, hz]; rfl
/-- a query's box -/
theorem box9 (W : World) (c0 c1 c2 c3 c4 c5 c6 c7 c8 : Value) (b : Nat) (h : W.heap[b]? = some (.cells #[c0, c1, c2, c3, c4, c5, c6, c7, c8] 26 (0, 0))) :
    W.cell? ⟨b, 0, none⟩ = some c0 ∧ W.cell? ⟨b, 1, none⟩ = some c1 ∧ W.cell? ⟨b, 2, none⟩ = some c2 ∧ W.cell? ⟨b, 3, none⟩ = some c3 ∧ W.cell? ⟨b, 4, none⟩ = some c4 ∧ W.cell? ⟨b, 5, none⟩ = some c5 ∧ W.cell? ⟨b, 6, none⟩ = some c6 ∧ W.cell? ⟨b, 7, none⟩ = some c7 ∧ W.cell? ⟨b, 8, none⟩ = some c8 :=
  ⟨cell_of_row W b 0 _ _ _ h, cell_of_row W b 1 _ _ _ h, cell_of_row W b 2 _ _ _ h, cell_of_row W b 3 _ _ _ h, cell_of_row W b 4 _ _ _ h, cell_of_row W b 5 _ _ _ h, cell_of_row W b 6 _ _ _ h, cell_of_row W b 7 _ _ _ h, cell_of_row W b 8 _ _ _ h⟩

set_option maxRecDepth 100000 in
set_option maxHeartbeats 2000000 in
theorem of_any (q : Qd) (a : Int) (w : World) (hq : QAt w q) : Calls Try.prog 33 #[qV q, .int .i64 a] w (OfP q a w) := by
  obtain ⟨-, hb, -, -⟩ := hq
  obtain ⟨tA, tc, tabs, bA, bc, beg, width, wA, wc, wh, gA, gn, gc, grouped, iA, i_n, ic, oA, oc, ord, limit⟩ := q
  have hs := hb.small
  have H := Lib.hid hb.at
  obtain ⟨n, hn⟩ : ∃ n, n = beg.length := ⟨_, rfl⟩
  have hs' : n ≤ maxLen := by rw [hn]; exact hs
  unfold maxLen at hs'
  obtain ⟨tn, htn⟩ : ∃ n, n = tabs.length := ⟨_, rfl⟩
  have HN := Lib.hid hn
  have HT := Lib.hid htn
  unfold qV Qd.cells
  dsimp only at hs H ⊢
  obtain ⟨wn, hwn⟩ : ∃ n, n = wh.length := ⟨_, rfl⟩
  obtain ⟨on, hon⟩ : ∃ n, n = ord.length := ⟨_, rfl⟩
  rw [← hn, ← htn, ← hwn, ← hon]
  have HB := Lib.hid (show Below w.heap.size w (w.alloc (.cells #[.slice tA tn tc, .slice bA n bc, .int .i64 width, .slice wA wn wc, .slice gA gn gc, .bool grouped, .slice iA i_n ic, .slice oA on oc, .int .i64 limit] 26)) from (Below.refl _ _).alloc (Nat.le_refl _) _)
  have h9 := box9 _ _ _ _ _ _ _ _ _ _ w.heap.size (heap_alloc_new w (.cells #[.slice tA tn tc, .slice bA n bc, .int .i64 width, .slice wA wn wc, .slice gA gn gc, .bool grouped, .slice iA i_n ic, .slice oA on oc, .int .i64 limit] 26))
  have HO := Lib.hid (show ∀ o, tabR ⟨tA, tc, tabs, bA, bc, beg, width, wA, wc, wh, gA, gn, gc, grouped, iA, i_n, ic, oA, oc, ord, limit⟩ a = o ↔ (if 0 ≤ a ∧ a < width then (lastLe beg a n).filter (fun f => decide (f < tn)) else none) = o from fun o => by unfold tabR; dsimp only; rw [← hn, ← htn])
  clear hb hs hn htn hwn hon
  by_cases ha : 0 ≤ a
  · go_enter Try.func33, Try.ntmps33
    clear h9
    go_wp2_with fail
    go_loop [7] (fun i => ∃ (k : Nat) (m : Int), k ≤ n ∧ i = .int .i64 m ∧ Hid (m = (k : Int) - 1) ∧ (a < width → Hid (lastLe beg a n = lastLe beg a k))) (fun i => (intOf i + 1).toNat)
    case atStart => exact ⟨n, _, Nat.le_refl _, rfl, Lib.hid rfl, fun _ => Lib.hid rfl⟩
    case round =>
      obtain ⟨k, m, hk, rfl, HM, HL⟩ := hrel
      have HL := Lib.hid HL
      cases k with
      | zero =>
        obtain rfl : m = -1 := by have := HM.out; omega
        go_wp2_with fail
        refine bodyPost_ret (v := .tuple #[.int .i64 0, .int .i64 0, .bool false]) (by simp [results, Try.results33, go_sem]) rfl ⟨⟨0, 0, false, rfl, ?_⟩, HB.out⟩
        unfold OfIs
        rw [(HO.out none).2]
        by_cases hw : a < width
        · rw [if_pos ⟨ha, hw⟩, (HL.out hw).out]; rfl
        · rw [if_neg (fun h => hw h.2)]
      | succ j =>
        obtain rfl : m = (j : Int) := by have := HM.out; omega
        rcases H.out with h0 | ⟨b, off, rfl, hbl, hc⟩
        · exfalso; have := HN.out; rw [h0] at this; simp at this; omega
        · obtain ⟨z, hz⟩ : ∃ z, beg[j]? = some z := ⟨_, List.getElem?_eq_getElem (by have := HN.out; omega)⟩
          have hcz := (HB.out.cell (p := ⟨b, off + j, none⟩) hbl).trans (hc j z hz)
          have HZ := Lib.hid hz
          have hj0 : (0 : Int) ≤ (j : Int) := by omega
          clear hz hc
          by_cases hw : a < width
          · by_cases hza : z ≤ a
            · have HR := Lib.hid (show lastLe beg a n = some j by rw [(HL.out hw).out]; exact lastLe_here beg a j z HZ.out hza)
              go_wp2_with fail
              go_quiet (fail)
              go_wp2_with fail
              refine bodyPost_ret (v := .tuple #[.int .i64 j, .int .i64 (wrap64 (a - z)), .bool (decide ((j : Int) < (tn : Int)))]) (by simp [results, Try.results33, go_sem]) rfl ⟨⟨_, _, _, rfl, ?_⟩, below_drewN HB.out ⟨_, rfl⟩⟩
              unfold OfIs
              by_cases hjt : j < tn
              · rw [(HO.out (some j)).2 (by rw [if_pos ⟨ha, hw⟩, HR.out]; simp [Option.filter, hjt])]
                exact ⟨by simpa using hjt, rfl, by unfold colR; dsimp only; rw [getD_of HZ.out]⟩
              · rw [(HO.out none).2 (by rw [if_pos ⟨ha, hw⟩, HR.out]; simp [Option.filter, hjt])]
                simpa using hjt
            · have HL2 := Lib.hid (show a < width → Hid (lastLe beg a n = lastLe beg a j) from fun _ => Lib.hid (by rw [(HL.out hw).out]; exact lastLe_skip beg a j z HZ.out hza))
              go_wp2_with fail
              go_round
              case rel => exact ⟨j, _, by omega, rfl, Lib.hid rfl, HL2.out⟩
              case measure => simp [intOf] <;> omega
          · go_wp2_with fail
            all_goals
              go_round
              case rel => exact ⟨j, _, by omega, rfl, Lib.hid rfl, fun h => absurd h hw⟩
              case measure => simp [intOf] <;> omega
  · go_enter Try.func33, Try.ntmps33
    clear h9
    go_wp2_with fail
    go_loop [7] (fun i => ∃ m : Int, i = .int .i64 m) (fun _ => 0)
    case atStart => exact ⟨_, rfl⟩
    case round =>
      obtain ⟨m, rfl⟩ := hrel
      go_wp2_with fail
      all_goals
        refine bodyPost_ret (v := .tuple #[.int .i64 0, .int .i64 0, .bool false]) (by simp [results, Try.results33, go_sem]) rfl ⟨⟨0, 0, false, rfl, ?_⟩, HB.out⟩
        unfold OfIs
        rw [(HO.out none).2]
        rw [if_neg (fun h => by omega)]
theorem lastLe_lt (l : List Int) (a : Int) (k f : Nat) (h : lastLe l a k = some f) : f < k := by
  induction k with
  | zero => rw [lastLe] at h; cases h
  | succ k ih =>
    rw [lastLe] at h
    split at h
    · cases h; omega
    · have := ih h; omega
theorem tabR_lt {q : Qd} {a : Int} {f : Nat} (h : tabR q a = some f) : f < q.beg.length ∧ f < q.tabs.length := by
  unfold tabR at h
  split at h
  · rw [Option.filter_eq_some_iff] at h
    exact ⟨lastLe_lt _ _ _ _ h.1, by simpa using h.2⟩
  · cases h

set_option maxRecDepth 100000 in
set_option maxHeartbeats 2000000 in
theorem table_any (q : Qd) (a : Int) (w : World) (hq : QAt w q) : Calls Try.prog 43 #[qV q, .int .i64 a] w (RetV (.int .i64 (tabI (tabR q a))) w) := by
  obtain ⟨-, hb, -, -⟩ := hq
  obtain ⟨tA, tc, tabs, bA, bc, beg, width, wA, wc, wh, gA, gn, gc, grouped, iA, i_n, ic, oA, oc, ord, limit⟩ := q
  have hs := hb.small
  have H := Lib.hid hb.at
  obtain ⟨n, hn⟩ : ∃ n, n = beg.length := ⟨_, rfl⟩
  have hs' : n ≤ maxLen := by rw [hn]; exact hs
  unfold maxLen at hs'
  obtain ⟨tn, htn⟩ : ∃ n, n = tabs.length := ⟨_, rfl⟩
  have HN := Lib.hid hn
  unfold qV Qd.cells
  dsimp only at hs H ⊢
  obtain ⟨wn, hwn⟩ : ∃ n, n = wh.length := ⟨_, rfl⟩
  obtain ⟨on, hon⟩ : ∃ n, n = ord.length := ⟨_, rfl⟩
  obtain ⟨R, hR⟩ : ∃ R, R = tabI (tabR ⟨tA, tc, tabs, bA, bc, beg, width, wA, wc, wh, gA, gn, gc, grouped, iA, i_n, ic, oA, oc, ord, limit⟩ a) := ⟨_, rfl⟩
  have HR := Lib.hid (show R = tabI (if 0 ≤ a ∧ a < width then (lastLe beg a n).filter (fun f => decide (f < tn)) else none) by rw [hR]; unfold tabR; dsimp only; rw [← hn, ← htn])
  rw [← hR, ← hn, ← htn, ← hwn, ← hon]
  have HB := Lib.hid (show Below w.heap.size w (w.alloc (.cells #[.slice tA tn tc, .slice bA n bc, .int .i64 width, .slice wA wn wc, .slice gA gn gc, .bool grouped, .slice iA i_n ic, .slice oA on oc, .int .i64 limit] 26)) from (Below.refl _ _).alloc (Nat.le_refl _) _)
  clear hb hs hn htn hwn hon hR
  by_cases hcase : 0 ≤ a ∧ a < width
  · have HR2 := Lib.hid (show R = tabI ((lastLe beg a n).filter (fun f => decide (f < tn))) by have := HR.out; rwa [if_pos hcase] at this)
    obtain ⟨ha, hw⟩ := hcase
    go_enter Try.func43, Try.ntmps43
    go_wp2_with fail
    go_loop [5, 6] (fun o i => ∃ (k : Nat) (m : Int), k ≤ n ∧ i = .int .i64 k ∧ o = .int .i64 m ∧ Hid (m = tabI (lastLe beg a k)) ∧ -1 ≤ m ∧ m ≤ k) (fun _ i => n - (intOf i).toNat)
    case atStart => exact ⟨0, -1, Nat.zero_le _, rfl, rfl, Lib.hid rfl, by omega, by omega⟩
    case round =>
      obtain ⟨k, m, hk, rfl, rfl, HM, hm1, hm2⟩ := hrel
      by_cases hlt : k < n
      · rcases H.out with h0 | ⟨b, off, rfl, hbl, hc⟩
        · exfalso; have := HN.out; rw [h0] at this; simp at this; omega
        · obtain ⟨z, hz⟩ : ∃ z, beg[k]? = some z := ⟨_, List.getElem?_eq_getElem (by have := HN.out; omega)⟩
          have hcz := (HB.out.cell (p := ⟨b, off + k, none⟩) hbl).trans (hc k z hz)
          have HZ := Lib.hid hz
          clear hz hc
          by_cases hza : z ≤ a
          · have HM2 := Lib.hid (show (k : Int) = tabI (lastLe beg a (k + 1)) by rw [lastLe_here beg a k z HZ.out hza]; rfl)
            go_wp2_with fail
            go_round
            case rel => exact ⟨k + 1, k, by omega, by go_num, rfl, HM2, by omega, by omega⟩
            case measure => simp [intOf] <;> omega
          · have HM2 := Lib.hid (show m = tabI (lastLe beg a (k + 1)) by rw [lastLe_skip beg a k z HZ.out hza]; exact HM.out)
            go_wp2_with fail
            go_round
            case rel => exact ⟨k + 1, m, by omega, by go_num, rfl, HM2, by omega, by omega⟩
            case measure => simp [intOf] <;> omega
      · have HM2 := Lib.hid (show m = tabI (lastLe beg a n) by rw [HM.out, show k = n by omega])
        by_cases hmt : m < tn
        · have HR3 := Lib.hid (show R = m by
            rw [HR2.out, HM2.out]
            cases hl : lastLe beg a n with
            | none => rfl
            | some f =>
              have : f < tn := by have h := HM2.out; rw [hl] at h; change m = (f : Int) at h; omega
              simp [Option.filter, this])
          go_wp2_with fail
          go_ret
          exact ⟨ret_int HR3.out.symm, HB.out⟩
        · have HR3 := Lib.hid (show R = -1 by
            rw [HR2.out]
            cases hl : lastLe beg a n with
            | none => rfl
            | some f =>
              have : ¬ f < tn := by have h := HM2.out; rw [hl] at h; change m = (f : Int) at h; omega
              simp [Option.filter, this, tabI])
          go_wp2_with fail
          go_ret
          exact ⟨ret_int HR3.out.symm, HB.out⟩
  · have HR2 := Lib.hid (show R = -1 by have := HR.out; rwa [if_neg hcase] at this)
    by_cases ha : 0 ≤ a
    · have hw : ¬ a < width := fun h => hcase ⟨ha, h⟩
      clear hcase
      go_enter Try.func43, Try.ntmps43
      go_wp2_with fail
      go_ret
      exact ⟨ret_int HR2.out.symm, HB.out⟩
    · clear hcase
      go_enter Try.func43, Try.ntmps43
      go_wp2_with fail
      go_ret
      exact ⟨ret_int HR2.out.symm, HB.out⟩
end Go.Proofs.Ytcnkghcdjicldaa
