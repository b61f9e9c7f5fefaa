/- The walk of the document's Merge. -/
import Derived.Test.YtcnkghcdjicldaaROf
namespace Go.Proofs.Ytcnkghcdjicldaa
open Go.RowKit

/-- a function answers numbers in the slice that was handed in, or in a new one -/
def RetI2 (A0 : Option Addr) (zs : List Int) (w : World) (e : Ending) (w' : World) : Prop := ∃ A c, e = .returned (.slice A zs.length c) ∧ Ints w' A c zs ∧ Below w.heap.size w w' ∧ (A = A0 ∨ ∀ ad, A = some ad → w.heap.size ≤ ad.block)
theorem RetI2.of_own {A0 : Option Addr} {zs : List Int} {w w' : World} {v : Value} (h : w'.ownsRow w.heap.size 3 1 v zs.length (intsV zs)) (hB : Below w.heap.size w w') : RetI2 A0 zs w (.returned v) w' := by
  have hge := own_ge h
  obtain ⟨A, c, rfl, hI⟩ := ints_own h rfl
  exact ⟨A, c, rfl, hI, hB, .inr fun ad hA => hge ad.block (by rw [hA]; rfl)⟩
theorem alias_next {A0 A1 A : Option Addr} {s t : Nat} (h : A = A0 ∨ ∀ ad, A = some ad → s ≤ ad.block) (h2 : A1 = A ∨ ∀ ad, A1 = some ad → t ≤ ad.block) (hst : s ≤ t) : A1 = A0 ∨ ∀ ad, A1 = some ad → s ≤ ad.block := by
  rcases h2 with rfl | h2
  · exact h
  · exact .inr fun ad hA => Nat.le_trans hst (h2 ad hA)
theorem Ints.far {w : World} {A : Option Addr} {c : Nat} {zs : List Int} {b : Nat} (h : Ints w A c zs) (hne : ∀ ad, A = some ad → ad.block ≠ b) (j : Nat) (v : Value) : Ints (w.setCell ⟨b, j, none⟩ v) A c zs := by
  refine ⟨?_, h.2⟩
  rcases h.1 with h1 | ⟨ad, h1, h2, h3, h4, h5⟩
  · exact .inl h1
  · refine .inr ⟨ad, h1, by simpa using h2, h3, h4, fun k u hu => ?_⟩
    rw [← h5 k u hu]
    exact World.cell?_of_block (heap_setFar v (by rw [add_block]; exact hne ad h1))
theorem Ints.below {w : World} {A : Option Addr} {c : Nat} {zs : List Int} (h : Ints w A c zs) : ∀ ad, A = some ad → ad.block < w.heap.size := by
  intro ad hA
  rcases h.1 with ⟨h1, _⟩ | ⟨ad', h1, h2, _⟩
  · rw [h1] at hA; cases hA
  · rw [h1] at hA; cases hA; exact h2
set_option maxRecDepth 100000 in
set_option maxHeartbeats 2000000 in
theorem once2_any (A : Option Addr) (c : Nat) (zs : List Int) (x : Int) (w : World) (h : Ints w A c zs) (hb : zs.length ≤ 500) : Calls Try.prog 26 #[.slice A zs.length c, .int .i64 x] w (RetI2 A (onceR zs x) w) := by
  obtain ⟨n, hn⟩ : ∃ n, n = zs.length := ⟨_, rfl⟩
  have HN := Lib.hid hn
  have H := Lib.hid h.at
  have HH := Lib.hid h
  rw [← hn] at hb ⊢
  clear h hn
  obtain ⟨i0, hi0, hz0, hz1, hz2⟩ := info_parts info3
  have H47 := Lib.hid (show 0 + n ≤ maxLen ∧ (0 + n) * 8 ≤ 140737488355328 ∧ n + 1 ≤ maxLen ∧ (n + 1) * 8 ≤ 140737488355328 by unfold maxLen; omega)
  go_enter Try.func26, Try.ntmps26
  go_wp2_with fail
  go_loop [5] (fun i => ∃ k : Nat, k ≤ n ∧ i = .int .i64 k ∧ Hid (hasZ (zs.take k) x = false)) (fun i => n - (intOf i).toNat)
  case atStart => exact ⟨0, Nat.zero_le _, rfl, Lib.hid rfl⟩
  case round =>
    obtain ⟨k, hk, rfl, HC⟩ := hrel
    by_cases hlt : k < n
    · rcases H.out with h0 | ⟨b, off, rfl, hb, hc⟩
      · exfalso; have := HN.out; rw [h0] at this; simp at this; omega
      · obtain ⟨z, hz⟩ : ∃ z, zs[k]? = some z := ⟨_, List.getElem?_eq_getElem (by have := HN.out; omega)⟩
        have hcz := hc k z hz
        have HZ := Lib.hid hz
        clear hz hc
        by_cases hx : z = x
        · subst hx
          have HR := Lib.hid (show onceR zs z = zs by unfold onceR; rw [if_pos (hasZ_true.2 (List.mem_of_getElem? HZ.out))])
          go_wp2_with fail
          go_ret
          exact ⟨some ⟨b, off, none⟩, c, by rw [HR.out, ← HN.out]; rfl, by rw [HR.out]; exact HH.out, Below.refl _ _, .inl rfl⟩
        · have hne : (z == x) = false := by simpa using hx
          have HD := Lib.hid (show hasZ (zs.take (k + 1)) x = false by rw [hasZ_false, take_snocZ zs k z HZ.out]; have := hasZ_false.1 HC.out; simp [this, Ne.symm hx])
          clear hx
          go_wp2_with fail
          go_round
          case rel => exact ⟨k + 1, by omega, by go_num, HD⟩
          case measure => simp [intOf]; omega
    · have HR := Lib.hid (show onceR zs x = zs ++ [x] by unfold onceR; rw [if_neg]; have := HC.out; rw [List.take_of_length_le (by have := HN.out; omega)] at this; rw [this]; decide)
      go_wp2_with (first
        | (at_builtin
           refine list_append _ (by rfl) (.tmp 20) (.tmp 21) 22 (by rfl) w.heap.size 3 i0 (.int .i64 0) 8 Try.underlying22 hi0 hz0 hz1 hz2 (by rfl) (.slice (some ⟨w.heap.size, 0, none⟩) 0 0) 0 [] (by rfl) (World.ownsRow_lit w #[] 0 (Nat.le_refl _) (Nat.zero_le _) rfl)
             w.heap.size A n c (intsV zs) (by rfl) ?_ (intsV_one zs) ?_ ?_ ?_ ?_
           · rw [HN.out]; exact HH.out.1.keep ((Below.refl _ w).alloc (Nat.le_refl _) _)
           · exact H47.out.1
           · exact H47.out.2.1
           · simp
           intro v1 w1 hown1 hg1 hat1
           have hown1 := owns_cast (us' := intsV zs) (m := n) hown1 (by simp) (by rw [intsV_length, HN.out])
           have hb1 : Below w.heap.size w w1 := Below.grown ((Below.refl _ w).alloc (Nat.le_refl _) _) hg1 (by simp) (fun k hk => slice_ge (Nat.le_refl _) hk)
           clear hat1 hg1)
        | (at_builtin
           refine list_append _ (by rfl) (.tmp 23) (.tmp 25) 22 (by rfl) w.heap.size 3 i0 (.int .i64 0) 8 Try.underlying22 hi0 hz0 hz1 hz2 (by rfl) v1 n (intsV zs) (by rfl) (hown1.alloc _)
             (w1.heap.size + 1) _ 1 1 [.int .i64 x] (by rfl) (Src.new w1 _ _) ?_ ?_ ?_ ?_ ?_
           · intro u hu; obtain rfl := List.mem_singleton.1 hu; rfl
           · exact H47.out.2.2.1
           · exact H47.out.2.2.2
           · have := hb1.size; simp; omega
           intro v2 w2 hown2 hg2 hat2
           have hb2 : Below w.heap.size w w2 := Below.grown (hb1.alloc hb1.size _) hg2 (by have := hb1.size; simp; omega) (own_ge hown1)
           clear hat2 hg2)
        | fail)
      go_ret
      exact RetI2.of_own (by rw [HR.out]; exact owns_cast hown2 (by simp [intsV]) (intsV_length _)) hb2
set_option maxRecDepth 100000 in
set_option maxHeartbeats 2000000 in
theorem together2_any (A1 A2 : Option Addr) (c1 c2 : Nat) (a l : List Int) (w : World) (h1 : Ints w A1 c1 a) (h2 : Ints w A2 c2 l) (hb : a.length ≤ 100) (hb2 : l.length ≤ 100) :
    Calls Try.prog 28 #[.slice A1 a.length c1, .slice A2 l.length c2] w (RetI2 A1 (behR a l) w) := by
  obtain ⟨m, hm⟩ : ∃ m, m = l.length := ⟨_, rfl⟩
  have HL := Lib.hid (behR_le a)
  have HM := Lib.hid hm
  have H1 := Lib.hid h1
  have H2 := Lib.hid h2.at
  have hba := Lib.hid hb
  rw [← hm] at hb2 ⊢
  clear h1 h2 hm hb
  go_enter Try.func28, Try.ntmps28
  go_wp2_with fail
  go_loopw [0, 5] (fun cs i wr => ∃ (k : Nat) (A : Option Addr) (c : Nat), k ≤ m ∧ i = .int .i64 k ∧ cs = .slice A (behR a (l.take k)).length c ∧ Ints wr A c (behR a (l.take k)) ∧ Below w.heap.size w wr ∧ (A = A1 ∨ ∀ ad, A = some ad → w.heap.size ≤ ad.block)) (fun _ i _ => m - (intOf i).toNat)
  case atStart => exact ⟨0, _, _, Nat.zero_le _, rfl, rfl, H1.out, Below.refl _ _, .inl rfl⟩
  case round =>
    obtain ⟨k, A, cc, hk, rfl, rfl, hI, hbb, hal⟩ := hrel
    have HAL := Lib.hid hal
    clear hal
    obtain ⟨wo, rfl⟩ : ∃ wo : World, wo = wr := ⟨_, rfl⟩
    have HB := Lib.hid hbb
    have HI := Lib.hid hI
    clear hbb hI
    by_cases hlt : k < m
    · rcases H2.out with h0 | ⟨b, off, rfl, hbl, hc⟩
      · exfalso; have := HM.out; rw [h0] at this; simp at this; omega
      · obtain ⟨z, hz⟩ : ∃ z, l[k]? = some z := ⟨_, List.getElem?_eq_getElem (by have := HM.out; omega)⟩
        have hcz := (HB.out.cell (p := ⟨b, off + k, none⟩) hbl).trans (hc k z hz)
        have HS := Lib.hid (behR_snoc a l k z hz)
        have hlen : (behR a (l.take k)).length ≤ 200 := by have := HL.out (l.take k); have h5 := hba.out; rw [List.length_take] at this; omega
        have HX := Lib.hid (once2_any A cc _ z wo HI.out (by omega))
        generalize behR a (l.take k) = cur at *
        clear hz hc
        go_wp2_with (first
          | (go_at_call 26; (with_reducible refine HX.out.mono ?_); rintro e w3 ⟨A3, c3, rfl, hI3, hB3, hal3⟩; have HAL3 := Lib.hid hal3; clear hal3)
          | fail)
        go_roundw
        case rel => exact ⟨k + 1, A3, c3, by omega, by go_num, by rw [HS.out], by rw [HS.out]; exact hI3, HB.out.trans (hB3.mono HB.out.size), alias_next HAL.out HAL3.out HB.out.size⟩
        case measure => simp [intOf]; omega
    · have HE := Lib.hid (show behR a (l.take k) = behR a l by rw [List.take_of_length_le (by have := HM.out; omega)])
      go_wp2_with fail
      go_ret
      exact ⟨A, cc, by rw [← HE.out]; rfl, by rw [← HE.out]; exact HI.out, HB.out, HAL.out⟩
@[reducible] def MBox (w : World) (t : Int) (A : Option Addr) (n c : Nat) (A2 : Option Addr) (n2 c2 : Nat) (wx : World) : Prop :=
  wx.cell? ⟨w.heap.size, 0, none⟩ = some (.int .i64 t) ∧ wx.cell? ⟨w.heap.size, 1, none⟩ = some (.slice A n c) ∧ wx.cell? ⟨w.heap.size + 1, 1, none⟩ = some (.slice A2 n2 c2) ∧ w.heap.size + 1 + 1 < wx.heap.size ∧ Below w.heap.size w wx
section
variable {w W w2 : World} {t : Int} {A A2 : Option Addr} {n c n2 c2 : Nat}
theorem MBox.call (h : MBox w t A n c A2 n2 c2 W) (hB : Below W.heap.size W w2) : MBox w t A n c A2 n2 c2 w2 :=
  ⟨cell_kept h.1 hB, cell_kept h.2.1 hB, cell_kept h.2.2.1 hB, Nat.lt_of_lt_of_le h.2.2.2.1 hB.size, h.2.2.2.2.trans (hB.mono h.2.2.2.2.size)⟩
theorem cell_far {b k : Nat} (j o : Nat) (v : Value) (h : k ≠ b) : (W.setCell ⟨b, j, none⟩ v).cell? ⟨k, o, none⟩ = W.cell? ⟨k, o, none⟩ := World.cell?_of_block (heap_setFar v h)
theorem MBox.set (h : MBox w t A n c A2 n2 c2 W) (j : Nat) (v : Value) : MBox w t A n c A2 n2 c2 (W.setCell ⟨w.heap.size + 1 + 1, j, none⟩ v) :=
  ⟨(cell_far j 0 v (by omega)).trans h.1, (cell_far j 1 v (by omega)).trans h.2.1, (cell_far j 1 v (by omega)).trans h.2.2.1, by simpa using h.2.2.2.1, h.2.2.2.2.setCell (p := ⟨w.heap.size + 1 + 1, j, none⟩) (by simp; omega) v⟩
end
theorem first3_on {w : World} {A : Option Addr} {n c : Nat} {a : List Int} (h : Ints w A c a) (hn : n = a.length) : Calls Try.prog 27 #[.slice A n c, .int .i64 3] w (fun e w' => ∃ n' : Nat, e = .returned (.slice A n' c) ∧ n' = (a.take 3).length ∧ w = w') := by
  subst hn
  exact (first_any A c a 3 w h (by omega)).mono fun e w' h => ⟨_, h.1, rfl, h.2⟩
set_option maxRecDepth 100000 in
set_option maxHeartbeats 2000000 in
theorem rmerge_no (a b : DefT) (w : World) (h : a.tab ≠ b.tab) : Calls Try.prog 31 #[.agg a.cells.toArray, .agg b.cells.toArray] w (MergeNo w) := by
  obtain ⟨t, A, c, l⟩ := a
  obtain ⟨t2, A2, c2, l2⟩ := b
  have hne : (t != t2) = true := by simpa using h
  clear h
  show Calls Try.prog 31 #[.agg #[.int .i64 t, .slice A l.length c, .bool false], .agg #[.int .i64 t2, .slice A2 l2.length c2, .bool false]] w _
  go_enter Try.func31, Try.ntmps31
  go_wp2_with fail
  exact bodyPost_ret (v := .tuple #[.agg #[.int .i64 0, .slice none 0 0, .bool false], .bool false]) (by simp [results, Try.results31, go_sem]) rfl ⟨rfl, below3 w _ _ _⟩
/-- what two indexes merge to: in the first one's slice, or in a new one -/
def MergeYes2 (a b : DefT) (w : World) (e : Ending) (w' : World) : Prop := ∃ A n c, e = .returned (.tuple #[.agg #[.int .i64 a.tab, .slice A n c, .bool false], .bool true]) ∧ n = ((behR a.cols b.cols).take 3).length ∧ Ints w' A c ((behR a.cols b.cols).take 3) ∧ Below w.heap.size w w' ∧ (A = a.A ∨ ∀ ad, A = some ad → w.heap.size ≤ ad.block)
set_option maxRecDepth 100000 in
set_option maxHeartbeats 4000000 in
theorem rmerge_yes (a b : DefT) (w : World) (h : a.tab = b.tab) (h1 : Ints w a.A a.c a.cols) (h2 : Ints w b.A b.c b.cols) (hl1 : a.cols.length ≤ 100) (hl2 : b.cols.length ≤ 100) : Calls Try.prog 31 #[.agg a.cells.toArray, .agg b.cells.toArray] w (MergeYes2 a b w) := by
  obtain ⟨t, A, c, l⟩ := a
  obtain ⟨t2, A2, c2, l2⟩ := b
  obtain rfl : t = t2 := h
  have HAB := Lib.hid h1.below
  have HB := Lib.hid (fun (W : World) (hB : Below w.heap.size w W) => together2_any _ _ _ _ _ _ W (h1.keep hB) (h2.keep hB) hl1 hl2)
  clear h1 h2 hl1 hl2
  show Calls Try.prog 31 #[.agg #[.int .i64 t, .slice A l.length c, .bool false], .agg #[.int .i64 t, .slice A2 l2.length c2, .bool false]] w _
  unfold MergeYes2
  dsimp only at HB HAB ⊢
  generalize behR l l2 = zs at HB ⊢
  obtain ⟨z3, hz3⟩ : ∃ z3, z3 = zs.take 3 := ⟨_, rfl⟩
  rw [← hz3]
  have HZ3 := Lib.hid hz3
  have KB := Lib.hid (show MBox w t A l.length c A2 l2.length c2 (((w.alloc (.cells #[.int .i64 t, .slice A l.length c, .bool false] 36)).alloc (.cells #[.int .i64 t, .slice A2 l2.length c2, .bool false] 36)).alloc (.cells #[.int .i64 0, .slice none 0 0, .bool false] 36)).drew by
    have hb3 := below3 w (.cells #[.int .i64 t, .slice A l.length c, .bool false] 36) (.cells #[.int .i64 t, .slice A2 l2.length c2, .bool false] 36) (.cells #[.int .i64 0, .slice none 0 0, .bool false] 36)
    have q := heap_three w (.cells #[.int .i64 t, .slice A l.length c, .bool false] 36) (.cells #[.int .i64 t, .slice A2 l2.length c2, .bool false] 36) (.cells #[.int .i64 0, .slice none 0 0, .bool false] 36) ((Below.refl _ _).drew)
    have q1 : (((w.alloc (.cells #[.int .i64 t, .slice A l.length c, .bool false] 36)).alloc (.cells #[.int .i64 t, .slice A2 l2.length c2, .bool false] 36)).alloc (.cells #[.int .i64 0, .slice none 0 0, .bool false] 36)).drew.heap[w.heap.size + 1]? = some (.cells #[.int .i64 t, .slice A2 l2.length c2, .bool false] 36 (0, 0)) := by
      have := alloc2_new w (.cells #[.int .i64 t, .slice A l.length c, .bool false] 36) (.cells #[.int .i64 t, .slice A2 l2.length c2, .bool false] 36)
      exact (Below.heap_alloc _ _ _ (by simp)).trans this
    exact ⟨cell_of_row _ _ 0 _ _ _ q.1, cell_of_row _ _ 1 _ _ _ q.1, cell_of_row _ _ 1 _ _ _ q1, by have := q.2.2.2; omega, q.2.2.1⟩)
  have KQ := Lib.hid (show (((w.alloc (.cells #[.int .i64 t, .slice A l.length c, .bool false] 36)).alloc (.cells #[.int .i64 t, .slice A2 l2.length c2, .bool false] 36)).alloc (.cells #[.int .i64 0, .slice none 0 0, .bool false] 36)).drew.heap[w.heap.size + 1 + 1]? = some (.cells #[.int .i64 0, .slice none 0 0, .bool false] 36 (0, 0)) from
    (heap_three w (.cells #[.int .i64 t, .slice A l.length c, .bool false] 36) (.cells #[.int .i64 t, .slice A2 l2.length c2, .bool false] 36) (.cells #[.int .i64 0, .slice none 0 0, .bool false] 36) ((Below.refl _ _).drew)).2.1)
  clear hz3
  go_enter Try.func31, Try.ntmps31
  go_wp2_with fail
  go_region_held3 (fun wx => MBox w t A l.length c A2 l2.length c2 wx)
    (first
      | (with_reducible exact KB.out)
      | (with_reducible assumption)
      | (with_reducible exact hM)
      | (with_reducible exact MBox.set (MBox.set (MBox.set hM _ _) _ _) _ _)
      | fail)
    (first
      | (go_at_call 28; (with_reducible refine (HB.out _ KB.out.2.2.2.2).mono ?_); rintro e w2 ⟨A3, c3, rfl, hI3, hB2, hal⟩; have HAL := Lib.hid hal; have hM := MBox.call KB.out hB2; have hq := (hB2.block (w.heap.size + 1 + 1) (heap_lt KQ.out)).trans KQ.out; have HI3 := Lib.hid hI3; clear hI3 hal)
      | (go_at_call 27; (with_reducible refine (first3_on HI3.out rfl).mono ?_); rintro e w3 ⟨n4, rfl, hn4, rfl⟩; have HN4 := Lib.hid hn4; clear hn4; have r0 := cell_of_row _ _ 0 _ _ _ hq; have r1 := cell_of_row _ _ 1 _ _ _ hq; have r2 := cell_of_row _ _ 2 _ _ _ hq; have g0 := frozen_of_row _ _ 0 _ _ hq; have g1 := frozen_of_row _ _ 1 _ _ hq; have g2 := frozen_of_row _ _ 2 _ _ hq)
      | fail)
  all_goals
    have hM2 := MBox.set (MBox.set (MBox.set hM 0 (.int .i64 t)) 1 (.slice A3 n4 c3)) 2 (.bool false)
    have HM2 := Lib.hid hM2.2.2.2.2
    clear hM2
    go_wp2_with fail
    refine bodyPost_ret (v := .tuple #[.agg #[.int .i64 t, .slice A3 n4 c3, .bool false], .bool true]) (by simp [results, Try.results31, go_sem, r0, r1, r2]) rfl ⟨A3, n4, c3, rfl, by rw [HN4.out, HZ3.out], ?_, HM2.out, HAL.out.imp id fun h ad hA => by have := h ad hA; simp at this; omega⟩
    have hne : ∀ ad, A3 = some ad → ad.block ≠ w.heap.size + 1 + 1 := by
      intro ad hA
      rcases HAL.out with h | h
      · have := HAB.out ad (h ▸ hA); omega
      · have := h ad hA
        simp at this; omega
    rw [HZ3.out]
    exact (((HI3.out.front_min 3).far hne 0 _).far hne 1 _).far hne 2 _
end Go.Proofs.Ytcnkghcdjicldaa
