/- The walks of the statements' own functions: size, small, same; and of CandOf. -/
import Derived.Test.YtcnkghcdjicldaaLives
namespace Go.Proofs.Ytcnkghcdjicldaa
open Go.RowKit

def SizeP (w : World) (e : Ending) (w' : World) : Prop := (∃ r : Int, e = .returned (.int .i64 r)) ∧ Below w.heap.size w w'
set_option maxRecDepth 100000 in
set_option maxHeartbeats 4000000 in
theorem size_any : ∀ (N : Nat) (t : NodeT), SizeOf.sizeOf t < N → ∀ (most : Int) (w : World), NodesAt w t.A t.args → Calls Try.prog 16 #[.agg t.cells.toArray, .int .i64 most] w (SizeP w) := by
  intro N
  induction N with
  | zero => intro t ht; omega
  | succ N ih =>
    intro t ht most w hn
    obtain ⟨k, o, lk, ln, lf, ls, a, nt, ty, A, c, l⟩ := t
    change NodesAt w A l at hn
    have HIH := Lib.hid (fun (j : Nat) (t : NodeT) (hj : l[j]? = some t) (m : Int) (W : World) (hB : Below w.heap.size w W) => ih t (by
      have := List.sizeOf_lt_of_mem (List.mem_of_getElem? hj)
      simp only [NodeT.mk.sizeOf_spec] at ht
      omega) m W ((nodes_sub hn hj).keep hB))
    have HNA := Lib.hid (nodes_at hn)
    have sf := store_float
    have hs := hn.small
    unfold maxLen at hs
    clear ih ht hn
    show Calls Try.prog 16 #[.agg #[.int .i64 k, .string o, .int .i64 lk, .int .i64 ln, .float .f64 lf, .string ls, .int .i64 a, .bool nt, .int .i64 ty, .slice A l.length c], .int .i64 most] w _
    have HB0 := Lib.hid (below1 w (.cells #[.int .i64 k, .string o, .int .i64 lk, .int .i64 ln, .float .f64 lf, .string ls, .int .i64 a, .bool nt, .int .i64 ty, .slice A l.length c] 42))
    go_enter Try.func16, Try.ntmps16
    go_wp2_with fail
    go_loopw [5, 11] (fun s i wr => ∃ (j : Nat) (r : Int), j ≤ l.length ∧ i = .int .i64 j ∧ s = .int .i64 r ∧ Below w.heap.size w wr) (fun _ i _ => l.length - (intOf i).toNat)
    case atStart => exact ⟨0, 1, Nat.zero_le _, rfl, rfl, HB0.out⟩
    case round =>
      obtain ⟨j, r, hj, rfl, rfl, hB⟩ := hrel
      obtain ⟨wo, rfl⟩ : ∃ wo : World, wo = wr := ⟨_, rfl⟩
      have HB := Lib.hid hB
      clear hB
      by_cases hlt : j < l.length
      · rcases HNA.out with h0 | ⟨b, off, rfl, hbl, hc⟩
        · exfalso; rw [h0] at hlt; simp at hlt
        · obtain ⟨t', hx⟩ : ∃ x, l[j]? = some x := ⟨_, List.getElem?_eq_getElem hlt⟩
          have HC := Lib.hid (HIH.out j t' hx)
          obtain ⟨k', o', lk', ln', lf', ls', a', nt', ty', A', c', l'⟩ := t'
          obtain ⟨m0, m1, m2, m3, m4, m5, m6, m7, m8, m9⟩ := node_cells HB.out hbl hc hx
          have HB1 := Lib.hid (HB.out.trans ((below1 wo (.cells #[.int .i64 k', .string o', .int .i64 lk', .int .i64 ln', .float .f64 lf', .string ls', .int .i64 a', .bool nt', .int .i64 ty', .slice A' l'.length c'] 42)).mono HB.out.size))
          clear hc hx
          by_cases hm : most < r
          · go_wp2_with fail
            go_ret
            exact ⟨⟨_, rfl⟩, HB1.out⟩
          · go_wp2_with (first
              | (go_at_call 16; (with_reducible refine (HC.out _ _ HB1.out).mono ?_); rintro e w2 ⟨⟨r2, rfl⟩, hB2⟩; have HB2 := Lib.hid (HB1.out.trans (hB2.mono HB1.out.size)); clear hB2)
              | fail)
            all_goals
              go_roundw
              case rel => exact ⟨j + 1, _, by omega, by go_num, rfl, HB2.out⟩
              case measure => simp [intOf] <;> omega
      · go_wp2_with fail
        go_ret
        exact ⟨⟨_, rfl⟩, HB.out⟩
/-- a query that is small enough to be tried -/
def Small (q : Qd) : Prop := q.tabs.length ≤ 6 ∧ q.beg.length ≤ 6 ∧ q.wh.length ≤ 12 ∧ q.ord.length ≤ 6
def SmallP (q : Qd) (w : World) (e : Ending) (w' : World) : Prop := (∃ b : Bool, e = .returned (.bool b) ∧ (b = true → Small q)) ∧ Below w.heap.size w w'
set_option maxRecDepth 100000 in
set_option maxHeartbeats 4000000 in
theorem small_any (q : Qd) (w : World) (hq : QAt w q) : Calls Try.prog 8 #[qV q] w (SmallP q w) := by
  obtain ⟨tA, tc, tabs, bA, bc, beg, width, wA, wc, wh, gA, gn, gc, grouped, iA, i_n, ic, oA, oc, ord, limit⟩ := q
  have HNA := Lib.hid (nodes_at hq.2.2.1)
  have HSZ := Lib.hid (fun (j : Nat) (t : NodeT) (hj : wh[j]? = some t) (m : Int) (W : World) (hB : Below w.heap.size w W) => size_any (SizeOf.sizeOf t + 1) t (Nat.lt_succ_self _) m W ((nodes_sub hq.2.2.1 hj).keep hB))
  have HSM := Lib.hid (show ∀ (_ : tabs.length ≤ 6) (_ : beg.length ≤ 6) (_ : wh.length ≤ 12) (_ : ord.length ≤ 6), Small ⟨tA, tc, tabs, bA, bc, beg, width, wA, wc, wh, gA, gn, gc, grouped, iA, i_n, ic, oA, oc, ord, limit⟩ from fun a b c d => ⟨a, b, c, d⟩)
  have HPP := Lib.hid (show ∀ (b : Bool) (w' : World), (b = true → Small ⟨tA, tc, tabs, bA, bc, beg, width, wA, wc, wh, gA, gn, gc, grouped, iA, i_n, ic, oA, oc, ord, limit⟩) → Below w.heap.size w w' → SmallP ⟨tA, tc, tabs, bA, bc, beg, width, wA, wc, wh, gA, gn, gc, grouped, iA, i_n, ic, oA, oc, ord, limit⟩ w (.returned (.bool b)) w' from fun b w' h1 h2 => ⟨⟨b, rfl, h1⟩, h2⟩)
  obtain ⟨q0, hq0⟩ : ∃ q0 : Qd, q0 = ⟨tA, tc, tabs, bA, bc, beg, width, wA, wc, wh, gA, gn, gc, grouped, iA, i_n, ic, oA, oc, ord, limit⟩ := ⟨_, rfl⟩
  rw [← hq0] at HPP HSM ⊢
  dsimp only at HNA
  rw [show qV q0 = .agg #[.slice tA tabs.length tc, .slice bA beg.length bc, .int .i64 width, .slice wA wh.length wc, .slice gA gn gc, .bool grouped, .slice iA i_n ic, .slice oA ord.length oc, .int .i64 limit] by rw [hq0]]
  clear hq0
  have sf := store_float
  have HB0 := Lib.hid (below1 w (.cells #[.slice tA tabs.length tc, .slice bA beg.length bc, .int .i64 width, .slice wA wh.length wc, .slice gA gn gc, .bool grouped, .slice iA i_n ic, .slice oA ord.length oc, .int .i64 limit] 26))
  clear hq
  by_cases h1 : tabs.length ≤ 6
  · by_cases h2 : beg.length ≤ 6
    · by_cases h3 : wh.length ≤ 12
      · by_cases h4 : ord.length ≤ 6
        · go_enter Try.func8, Try.ntmps8
          go_wp2_with fail
          go_loopw [30] (fun i wr => ∃ j : Nat, j ≤ wh.length ∧ i = .int .i64 j ∧ Below w.heap.size w wr) (fun i _ => wh.length - (intOf i).toNat)
          case atStart => exact ⟨0, Nat.zero_le _, rfl, HB0.out⟩
          case round =>
            obtain ⟨j, hj, rfl, hB⟩ := hrel
            obtain ⟨wo, rfl⟩ : ∃ wo : World, wo = wr := ⟨_, rfl⟩
            have HB := Lib.hid hB
            clear hB
            by_cases hlt : j < wh.length
            · rcases HNA.out with h0 | ⟨b, off, rfl, hbl, hc⟩
              · exfalso; rw [h0] at hlt; simp at hlt
              · obtain ⟨t', hx⟩ : ∃ x, wh[j]? = some x := ⟨_, List.getElem?_eq_getElem hlt⟩
                have HC := Lib.hid (HSZ.out j t' hx)
                obtain ⟨k', o', lk', ln', lf', ls', a', nt', ty', A', c', l'⟩ := t'
                obtain ⟨m0, m1, m2, m3, m4, m5, m6, m7, m8, m9⟩ := node_cells HB.out hbl hc hx
                have HB1 := Lib.hid (HB.out.trans ((below1 wo (.cells #[.int .i64 k', .string o', .int .i64 lk', .int .i64 ln', .float .f64 lf', .string ls', .int .i64 a', .bool nt', .int .i64 ty', .slice A' l'.length c'] 42)).mono HB.out.size))
                clear hc hx
                go_wp2_with (first
                  | (go_at_call 16; (with_reducible refine (HC.out _ _ HB1.out).mono ?_); rintro e w2 ⟨⟨r2, rfl⟩, hB2⟩; have HB2 := Lib.hid (HB1.out.trans (hB2.mono HB1.out.size)); clear hB2; by_cases hr : 100 < r2)
                  | fail)
                · go_ret
                  exact HPP.out _ _ (fun h => by cases h) HB2.out
                · go_roundw
                  case rel => exact ⟨j + 1, by omega, by go_num, HB2.out⟩
                  case measure => simp [intOf] <;> omega
            · go_wp2_with fail
              go_ret
              exact HPP.out _ _ (fun _ => HSM.out h1 h2 h3 h4) HB.out
        · go_enter Try.func8, Try.ntmps8
          go_wp2_with fail
          go_ret
          exact HPP.out _ _ (fun h => by cases h) HB0.out
      · go_enter Try.func8, Try.ntmps8
        go_wp2_with fail
        go_ret
        exact HPP.out _ _ (fun h => by cases h) HB0.out
    · go_enter Try.func8, Try.ntmps8
      go_wp2_with fail
      go_ret
      exact HPP.out _ _ (fun h => by cases h) HB0.out
  · go_enter Try.func8, Try.ntmps8
    go_wp2_with fail
    go_ret
    exact HPP.out _ _ (fun h => by cases h) HB0.out
end Go.Proofs.Ytcnkghcdjicldaa
