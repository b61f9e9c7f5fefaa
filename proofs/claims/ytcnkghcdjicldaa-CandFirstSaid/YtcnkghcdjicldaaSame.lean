/- The walk of the document's Same: are two indexes one? -/
import Derived.Test.YtcnkghcdjicldaaMerge
namespace Go.Proofs.Ytcnkghcdjicldaa
open Go.RowKit

/-- are two indexes one? -/
def sameR (a b : DefT) : Bool := (a.tab == b.tab) && (a.cols == b.cols)
/-- an index's box in memory -/
def BoxD (W : World) (b : Nat) (t : Int) (A : Option Addr) (n c : Nat) : Prop := W.heap[b]? = some (.cells #[.int .i64 t, .slice A n c, .bool false] 36 (0, 0))
theorem BoxD.keep {W w2 : World} {b : Nat} {t : Int} {A : Option Addr} {n c : Nat} (h : BoxD W b t A n c) (hB : Below W.heap.size W w2) : BoxD w2 b t A n c := (hB.block b (heap_lt h)).trans h
theorem BoxD.cells {W : World} {b : Nat} {t : Int} {A : Option Addr} {n c : Nat} (h : BoxD W b t A n c) : W.cell? ⟨b, 0, none⟩ = some (.int .i64 t) ∧ W.cell? ⟨b, 1, none⟩ = some (.slice A n c) ∧ W.cell? ⟨b, 2, none⟩ = some (.bool false) :=
  ⟨cell_of_row W b 0 _ _ _ h, cell_of_row W b 1 _ _ _ h, cell_of_row W b 2 _ _ _ h⟩
set_option maxRecDepth 100000 in
set_option maxHeartbeats 2000000 in
theorem same_any (a b : DefT) (w : World) (h1 : Ints w a.A a.c a.cols) (h2 : Ints w b.A b.c b.cols) : Calls Try.prog 14 #[.agg a.cells.toArray, .agg b.cells.toArray] w (RetV (.bool (sameR a b)) w) := by
  obtain ⟨t, A, c, l⟩ := a
  obtain ⟨t2, A2, c2, l2⟩ := b
  obtain ⟨R, hR⟩ : ∃ R, R = sameR ⟨t, A, c, l⟩ ⟨t2, A2, c2, l2⟩ := ⟨_, rfl⟩
  rw [← hR]
  have HR := Lib.hid (show R = ((t == t2) && (l == l2)) from hR)
  show Calls Try.prog 14 #[.agg #[.int .i64 t, .slice A l.length c, .bool false], .agg #[.int .i64 t2, .slice A2 l2.length c2, .bool false]] w _
  obtain ⟨n, hn⟩ : ∃ n, n = l.length := ⟨_, rfl⟩
  obtain ⟨m, hm⟩ : ∃ m, m = l2.length := ⟨_, rfl⟩
  rw [← hn, ← hm]
  have hs := h1.small
  have hs2 := h2.small
  dsimp only at hs hs2
  unfold maxLen at hs hs2
  rw [← hn] at hs
  rw [← hm] at hs2
  have HN := Lib.hid hn
  have HM := Lib.hid hm
  have H1 := Lib.hid h1.at
  have H2 := Lib.hid h2.at
  have HB := Lib.hid (below2 w (.cells #[.int .i64 t, .slice A n c, .bool false] 36) (.cells #[.int .i64 t2, .slice A2 m c2, .bool false] 36))
  have HX := Lib.hid (show BoxD ((w.alloc (.cells #[.int .i64 t, .slice A n c, .bool false] 36)).alloc (.cells #[.int .i64 t2, .slice A2 m c2, .bool false] 36)) w.heap.size t A n c from (Below.heap_alloc _ _ _ (by simp)).trans (heap_alloc_new w _))
  have HY := Lib.hid (show BoxD ((w.alloc (.cells #[.int .i64 t, .slice A n c, .bool false] 36)).alloc (.cells #[.int .i64 t2, .slice A2 m c2, .bool false] 36)) (w.heap.size + 1) t2 A2 m c2 by
    have := heap_alloc_new (w.alloc (.cells #[.int .i64 t, .slice A n c, .bool false] 36)) (.cells #[.int .i64 t2, .slice A2 m c2, .bool false] 36)
    rw [World.size_alloc] at this
    exact this)
  dsimp only at H1 H2
  clear h1 h2 hn hm hR
  by_cases ht : t = t2
  · subst ht
    by_cases hnm : n = m
    · subst hnm
      go_enter Try.func14, Try.ntmps14
      go_wp2_with fail
      go_loopw [5] (fun i wr => ∃ k : Nat, k ≤ n ∧ i = .int .i64 k ∧ Hid (l.take k = l2.take k) ∧ Below w.heap.size w wr ∧ BoxD wr w.heap.size t A n c ∧ BoxD wr (w.heap.size + 1) t A2 n c2) (fun i _ => n - (intOf i).toNat)
      case atStart => exact ⟨0, Nat.zero_le _, rfl, Lib.hid rfl, HB.out, HX.out, HY.out⟩
      case round =>
        obtain ⟨k, hk, rfl, HC, hB, hx, hy⟩ := hrel
        obtain ⟨wo, rfl⟩ : ∃ wo : World, wo = wr := ⟨_, rfl⟩
        have HB1 := Lib.hid hB
        have HX1 := Lib.hid hx
        have HY1 := Lib.hid hy
        obtain ⟨x0, x1, x2⟩ := hx.cells
        obtain ⟨y0, y1, y2⟩ := hy.cells
        clear hB hx hy
        by_cases hlt : k < n
        · rcases H1.out with h0 | ⟨b, off, rfl, hb, hc⟩
          · exfalso; have := HN.out; rw [h0] at this; simp at this; omega
          · rcases H2.out with h0 | ⟨b', off', rfl, hb', hc'⟩
            · exfalso; have := HM.out; rw [h0] at this; simp at this; omega
            · obtain ⟨x, hx⟩ : ∃ z, l[k]? = some z := ⟨_, List.getElem?_eq_getElem (by have := HN.out; omega)⟩
              obtain ⟨y, hy⟩ : ∃ z, l2[k]? = some z := ⟨_, List.getElem?_eq_getElem (by have := HM.out; omega)⟩
              have hcx := (HB1.out.cell (p := ⟨b, off + k, none⟩) hb).trans (hc k x hx)
              have hcy := (HB1.out.cell (p := ⟨b', off' + k, none⟩) hb').trans (hc' k y hy)
              have HXE := Lib.hid hx
              have HYE := Lib.hid hy
              clear hx hy hc hc'
              by_cases hxy : x = y
              · subst hxy
                have HD := Lib.hid (show l.take (k + 1) = l2.take (k + 1) by rw [take_snocZ l k x HXE.out, take_snocZ l2 k x HYE.out, HC.out])
                go_wp2_with fail
                go_quiet (fail)
                go_wp2_with fail
                go_roundw
                case rel => exact ⟨k + 1, by omega, by go_num, HD, by exact below_drewN HB1.out ⟨_, rfl⟩, HX1.out.keep (below_drewN (Below.refl _ _) ⟨_, rfl⟩), HY1.out.keep (below_drewN (Below.refl _ _) ⟨_, rfl⟩)⟩
                case measure => simp [intOf] <;> omega
              · have hne : (x == y) = false := by simpa using hxy
                have hne' : (x != y) = true := by simpa using hxy
                have HE := Lib.hid (show R = false by rw [HR.out, show (l == l2) = false by rw [beq_eq_false_iff_ne]; intro e; apply hxy; have := HXE.out; rw [e, HYE.out] at this; exact (Option.some.inj this).symm]; simp)
                clear hxy
                go_wp2_with fail
                go_quiet (fail)
                go_wp2_with fail
                go_ret
                exact ⟨ret_bool HE.out.symm, below_drewN HB1.out ⟨_, rfl⟩⟩
        · have HE := Lib.hid (show R = true by rw [HR.out, show (l == l2) = true by have := HC.out; rw [List.take_of_length_le (by have := HN.out; omega), List.take_of_length_le (by have := HM.out; omega)] at this; rw [this]; simp]; simp)
          go_wp2_with fail
          go_ret
          exact ⟨ret_bool HE.out.symm, HB1.out⟩
    · have HE := Lib.hid (show R = false by rw [HR.out, show (l == l2) = false by rw [beq_eq_false_iff_ne]; intro e; apply hnm; rw [HN.out, HM.out, e]]; simp)
      have hne : ((n : Int) != (m : Int)) = true := by simp; omega
      clear hnm
      go_enter Try.func14, Try.ntmps14
      go_wp2_with fail
      go_ret
      exact ⟨ret_bool HE.out.symm, HB.out⟩
  · have hne : (t != t2) = true := by simpa using ht
    have HE := Lib.hid (show R = false by rw [HR.out, show (t == t2) = false by simpa using ht]; rfl)
    clear ht
    go_enter Try.func14, Try.ntmps14
    go_wp2_with fail
    go_ret
    exact ⟨ret_bool HE.out.symm, HB.out⟩
end Go.Proofs.Ytcnkghcdjicldaa
