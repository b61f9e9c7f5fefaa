/- The walks of the document's first, once, together. -/
import Derived.Test.YtcnkghcdjicldaaInts2
namespace Go.Proofs.Ytcnkghcdjicldaa
open Go.RowKit

theorem Ints.front_min {w : World} {A : Option Addr} {c : Nat} {zs : List Int} (h : Ints w A c zs) (p : Nat) : Ints w A c (zs.take p) := by
  by_cases hp : p ≤ zs.length
  · exact h.front p hp
  · rw [List.take_of_length_le (by omega)]; exact h
set_option maxHeartbeats 1000000 in
theorem first_any (A : Option Addr) (c : Nat) (zs : List Int) (p : Nat) (w : World) (h : Ints w A c zs) (hp : p ≤ 100) :
    Calls Try.prog 27 #[.slice A zs.length c, .int .i64 p] w fun e w' => e = .returned (.slice A (zs.take p).length c) ∧ w = w' := by
  obtain ⟨n, hn⟩ : ∃ n, n = zs.length := ⟨_, rfl⟩
  have HN := Lib.hid hn
  have hl := h.len
  have hs := h.2
  unfold maxLen at hs
  rw [← hn] at hl ⊢
  obtain ⟨q, hq⟩ : ∃ q, q = (zs.take p).length := ⟨_, rfl⟩
  rw [← hq]
  have HQ := Lib.hid (show q = if n < p then n else p by rw [hq, List.length_take, hn]; split <;> omega)
  clear h hn hq
  by_cases hlt : n < p
  · have HE := Lib.hid (show q = n by have := HQ.out; rwa [if_pos hlt] at this)
    go_enter Try.func27, Try.ntmps27
    go_wp2
    go_ret
    exact ⟨by rw [HE.out]; rfl, rfl⟩
  · have HE := Lib.hid (show q = p by have := HQ.out; rwa [if_neg hlt] at this)
    go_enter Try.func27, Try.ntmps27
    go_wp2
    all_goals
      go_ret
      first
        | exact ⟨by rw [HE.out]; rfl, rfl⟩
        | exact ⟨by rw [HE.out, show p = n by omega]; rfl, rfl⟩
set_option maxRecDepth 100000 in
set_option maxHeartbeats 2000000 in
theorem once_any (A : Option Addr) (c : Nat) (zs : List Int) (x : Int) (w : World) (h : Ints w A c zs) (hb : zs.length ≤ 500) : Calls Try.prog 26 #[.slice A zs.length c, .int .i64 x] w (RetI (onceR zs x) w) := by
  obtain ⟨n, hn⟩ : ∃ n, n = zs.length := ⟨_, rfl⟩
  have HN := Lib.hid hn
  have H := Lib.hid h.at
  have HH := Lib.hid h
  rw [← hn] at hb ⊢
  clear h hn
  obtain ⟨i0, hi0, hz0, hz1, hz2⟩ := info_parts info3
  have H47 := Lib.hid (show 0 + n ≤ maxLen ∧ (0 + n) * 8 ≤ 140737488355328 ∧ n + 1 ≤ maxLen ∧ (n + 1) * 8 ≤ 140737488355328 by unfold maxLen; omega)
  go_enter Try.func26, Try.ntmps26
  go_wp2_with fail
  go_loop [5] (fun i => ∃ k : Nat, k ≤ n ∧ i = .int .i64 k ∧ Hid (hasZ (zs.take k) x = false)) (fun i => n - (intOf i).toNat)
  case atStart => exact ⟨0, Nat.zero_le _, rfl, Lib.hid rfl⟩
  case round =>
    obtain ⟨k, hk, rfl, HC⟩ := hrel
    by_cases hlt : k < n
    · rcases H.out with h0 | ⟨b, off, rfl, hb, hc⟩
      · exfalso; have := HN.out; rw [h0] at this; simp at this; omega
      · obtain ⟨z, hz⟩ : ∃ z, zs[k]? = some z := ⟨_, List.getElem?_eq_getElem (by have := HN.out; omega)⟩
        have hcz := hc k z hz
        have HZ := Lib.hid hz
        clear hz hc
        by_cases hx : z = x
        · subst hx
          have HR := Lib.hid (show onceR zs z = zs by unfold onceR; rw [if_pos (hasZ_true.2 (List.mem_of_getElem? HZ.out))])
          go_wp2_with fail
          go_ret
          exact ⟨some ⟨b, off, none⟩, c, by rw [HR.out, ← HN.out]; rfl, by rw [HR.out]; exact HH.out, Below.refl _ _⟩
        · have hne : (z == x) = false := by simpa using hx
          have HD := Lib.hid (show hasZ (zs.take (k + 1)) x = false by rw [hasZ_false, take_snocZ zs k z HZ.out]; have := hasZ_false.1 HC.out; simp [this, Ne.symm hx])
          clear hx
          go_wp2_with fail
          go_round
          case rel => exact ⟨k + 1, by omega, by go_num, HD⟩
          case measure => simp [intOf]; omega
    · have HR := Lib.hid (show onceR zs x = zs ++ [x] by unfold onceR; rw [if_neg]; have := HC.out; rw [List.take_of_length_le (by have := HN.out; omega)] at this; rw [this]; decide)
      go_wp2_with (first
        | (at_builtin
           refine list_append _ (by rfl) (.tmp 20) (.tmp 21) 22 (by rfl) w.heap.size 3 i0 (.int .i64 0) 8 Try.underlying22 hi0 hz0 hz1 hz2 (by rfl) (.slice (some ⟨w.heap.size, 0, none⟩) 0 0) 0 [] (by rfl) (World.ownsRow_lit w #[] 0 (Nat.le_refl _) (Nat.zero_le _) rfl)
             w.heap.size A n c (intsV zs) (by rfl) ?_ (intsV_one zs) ?_ ?_ ?_ ?_
           · rw [HN.out]; exact HH.out.1.keep ((Below.refl _ w).alloc (Nat.le_refl _) _)
           · exact H47.out.1
           · exact H47.out.2.1
           · simp
           intro v1 w1 hown1 hg1 hat1
           have hown1 := owns_cast (us' := intsV zs) (m := n) hown1 (by simp) (by rw [intsV_length, HN.out])
           have hb1 : Below w.heap.size w w1 := Below.grown ((Below.refl _ w).alloc (Nat.le_refl _) _) hg1 (by simp) (fun k hk => slice_ge (Nat.le_refl _) hk)
           clear hat1 hg1)
        | (at_builtin
           refine list_append _ (by rfl) (.tmp 23) (.tmp 25) 22 (by rfl) w.heap.size 3 i0 (.int .i64 0) 8 Try.underlying22 hi0 hz0 hz1 hz2 (by rfl) v1 n (intsV zs) (by rfl) (hown1.alloc _)
             (w1.heap.size + 1) _ 1 1 [.int .i64 x] (by rfl) (Src.new w1 _ _) ?_ ?_ ?_ ?_ ?_
           · intro u hu; obtain rfl := List.mem_singleton.1 hu; rfl
           · exact H47.out.2.2.1
           · exact H47.out.2.2.2
           · have := hb1.size; simp; omega
           intro v2 w2 hown2 hg2 hat2
           have hb2 : Below w.heap.size w w2 := Below.grown (hb1.alloc hb1.size _) hg2 (by have := hb1.size; simp; omega) (own_ge hown1)
           clear hat2 hg2)
        | fail)
      go_ret
      exact RetO.toI ⟨_, rfl, by rw [HR.out]; exact owns_cast hown2 (by simp [intsV]) (intsV_length _), hb2⟩
set_option maxRecDepth 100000 in
set_option maxHeartbeats 2000000 in
theorem together_any (A1 A2 : Option Addr) (c1 c2 : Nat) (a l : List Int) (w : World) (h1 : Ints w A1 c1 a) (h2 : Ints w A2 c2 l) (hb : a.length ≤ 100) (hb2 : l.length ≤ 100) :
    Calls Try.prog 28 #[.slice A1 a.length c1, .slice A2 l.length c2] w (RetI (behR a l) w) := by
  obtain ⟨m, hm⟩ : ∃ m, m = l.length := ⟨_, rfl⟩
  have HL := Lib.hid (behR_le a)
  have HM := Lib.hid hm
  have H1 := Lib.hid h1
  have H2 := Lib.hid h2.at
  have hba := Lib.hid hb
  rw [← hm] at hb2 ⊢
  clear h1 h2 hm hb
  go_enter Try.func28, Try.ntmps28
  go_wp2_with fail
  go_loopw [0, 5] (fun cs i wr => ∃ (k : Nat) (A : Option Addr) (c : Nat), k ≤ m ∧ i = .int .i64 k ∧ cs = .slice A (behR a (l.take k)).length c ∧ Ints wr A c (behR a (l.take k)) ∧ Below w.heap.size w wr) (fun _ i _ => m - (intOf i).toNat)
  case atStart => exact ⟨0, _, _, Nat.zero_le _, rfl, rfl, H1.out, Below.refl _ _⟩
  case round =>
    obtain ⟨k, A, cc, hk, rfl, rfl, hI, hbb⟩ := hrel
    obtain ⟨wo, rfl⟩ : ∃ wo : World, wo = wr := ⟨_, rfl⟩
    have HB := Lib.hid hbb
    have HI := Lib.hid hI
    clear hbb hI
    by_cases hlt : k < m
    · rcases H2.out with h0 | ⟨b, off, rfl, hbl, hc⟩
      · exfalso; have := HM.out; rw [h0] at this; simp at this; omega
      · obtain ⟨z, hz⟩ : ∃ z, l[k]? = some z := ⟨_, List.getElem?_eq_getElem (by have := HM.out; omega)⟩
        have hcz := (HB.out.cell (p := ⟨b, off + k, none⟩) hbl).trans (hc k z hz)
        have HS := Lib.hid (behR_snoc a l k z hz)
        have hlen : (behR a (l.take k)).length ≤ 200 := by have := HL.out (l.take k); have h5 := hba.out; rw [List.length_take] at this; omega
        have HX := Lib.hid (once_any A cc _ z wo HI.out (by omega))
        generalize behR a (l.take k) = cur at *
        clear hz hc
        go_wp2_with (first
          | (go_at_call 26; (with_reducible refine HX.out.mono ?_); rintro e w3 ⟨A3, c3, rfl, hI3, hB3⟩)
          | fail)
        go_roundw
        case rel => exact ⟨k + 1, A3, c3, by omega, by go_num, by rw [HS.out], by rw [HS.out]; exact hI3, HB.out.trans (hB3.mono HB.out.size)⟩
        case measure => simp [intOf]; omega
    · have HE := Lib.hid (show behR a (l.take k) = behR a l by rw [List.take_of_length_le (by have := HM.out; omega)])
      go_wp2_with fail
      go_ret
      exact ⟨A, cc, by rw [← HE.out]; rfl, by rw [← HE.out]; exact HI.out, HB.out⟩
end Go.Proofs.Ytcnkghcdjicldaa
