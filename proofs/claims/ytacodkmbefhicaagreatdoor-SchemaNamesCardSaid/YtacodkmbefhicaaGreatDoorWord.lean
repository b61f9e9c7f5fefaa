/- The walk of next at any short text. -/
import Derived.Test.YtacodkmbefhicaaGreatDoorDigit
import Derived.Test.YtacodkmbefhicaaGreatDoorText
import Derived.Test.YtacodkmbefhicaaGreatDoorNames
namespace Go.Proofs.YtacodkmbefhicaaGreatDoor
open Go.RowKit

set_option maxRecDepth 100000 in
set_option maxHeartbeats 8000000 in
theorem next_quote (s : ByteArray) (w : World) (h0 : 0 < s.size) (hs : s.size ≤ 12) (hq : s[0] = 39) : Calls Tryz.prog 21 #[.string s] w (OtherP s w) := by
  have HNU := Lib.hid (show ∀ W, Calls Tryz.prog 35 #[.string s] W (OtherP s W) from fun W => text_any s W h0 hs)
  have hc39 : (((39 : UInt8).toNat : Nat) : Int) = 39 := rfl
  have hw39 : wrap32 39 = 39 := by decide +kernel
  have hne := text_ne h0
  have HLE := Lib.hid (show ∀ W, Calls Tryz.prog 30 #[.int .i32 39] W (SameV (.bool false) W) from fun W => letter_any 39 W)
  have HDI := Lib.hid (show ∀ W, Calls Tryz.prog 32 #[.int .i32 39] W (SameV (.bool false) W) from fun W => digit_any 39 W)
  go_enter Tryz.func21, Tryz.ntmps21
  go_wp2_with (first
    | (go_at_call 30; (with_reducible refine (HLE.out _).mono ?_); rintro e w5 ⟨rfl, rfl⟩)
    | (go_at_call 32; (with_reducible refine (HDI.out _).mono ?_); rintro e w6 ⟨rfl, rfl⟩)
    | (go_at_call 35; (with_reducible refine (HNU.out _).mono ?_); rintro e w4 ⟨k, er, S, n, rfl, hB4, hP⟩; have HP := Lib.hid hP; have HK4 := Lib.hid (num_kept hB4); obtain ⟨r0, r1, r2, g0, g1, g2⟩ := num_cells HK4.out; clear hB4 hP; unfold nextV tokV)
    | fail)
  refine bodyPost_ret (v := nextV k S n er) (by simp [results, Tryz.results21, go_sem, r0, r1, r2, nextV, tokV]) rfl ⟨k, er, S, n, rfl, ?_, HP.out⟩
  exact ((HK4.out.2.setCell (p := ⟨w.heap.size, 0, none⟩) (Nat.le_refl _) _).setCell (p := ⟨w.heap.size, 1, none⟩) (Nat.le_refl _) _).setCell (p := ⟨w.heap.size, 2, none⟩) (Nat.le_refl _) _
/-- the word at the beginning of a text -/
def NextP (s : ByteArray) (w : World) (e : Ending) (w' : World) : Prop := ∃ (k er : Int) (S : ByteArray) (n : Nat), e = .returned (nextV k S n er) ∧ Below w.heap.size w w' ∧ WordAt s.data.toList k S n er
theorem list_first {s : ByteArray} (h0 : 0 < s.size) : ∃ r, s.data.toList = s[0] :: r := by
  have hsl : s.data.toList.length = s.size := by show _ = s.data.size; simp
  cases hx : s.data.toList with
  | nil => rw [hx] at hsl; simp at hsl; omega
  | cons a l =>
    refine ⟨l, ?_⟩
    have : s.data.toList[0]? = some a := by rw [hx]; rfl
    rw [Array.getElem?_toList] at this
    rw [← (Array.getElem?_eq_some_iff.1 this).2]
    rfl
theorem other_next {s : ByteArray} {w : World} (h0 : 0 < s.size) (hl : letP (s[0].toNat : Int) = false) {e : Ending} {w' : World} (h : OtherP s w e w') : NextP s w e w' := by
  obtain ⟨k, er, S, n, h1, h2, h3⟩ := h
  have hsl : s.data.toList.length = s.size := by show _ = s.data.size; simp
  obtain ⟨r, hr⟩ := list_first h0
  exact ⟨k, er, S, n, h1, h2, Or.inr (Or.inr ⟨s[0], r, hr, hl, fun he => by rw [hsl]; exact h3 he⟩)⟩
theorem next_any (m : Int) (t : Nat → Nat) (ht : ∀ j, j < 23 → finD (Ieee.double.read (t j)) = true) (s : ByteArray) (w : World) (hG : Glob m t w) (hs : s.size ≤ 12) : Calls Tryz.prog 21 #[.string s] w (NextP s w) := by
  have hsl : s.data.toList.length = s.size := by show _ = s.data.size; simp
  by_cases h0 : 0 < s.size
  · obtain ⟨r, hr⟩ := list_first h0
    cases hl : letP (s[0].toNat : Int) with
    | true =>
      refine (next_letter s m w hG.mx h0 (by omega) hl).mono fun e w' h => ?_
      obtain ⟨rfl, hB⟩ := h
      have hle := spanR_le namP s.data.toList
      have h1 : 1 ≤ spanR namP s.data.toList := by
        refine span_pos namP s h0 ?_
        unfold namP
        rw [hl]; rfl
      unfold wordR
      dsimp only
      by_cases hk : kwR (s.data.toList.take (spanR namP s.data.toList)) ≠ []
      · rw [if_pos hk]
        exact ⟨2, 0, _, _, rfl, hB, Or.inr (Or.inl ⟨s[0], r, hr, hl, rfl, h1, hle, rfl, Or.inl ⟨hk, rfl⟩⟩)⟩
      · rw [if_neg hk, if_neg (by omega)]
        exact ⟨1, 0, _, _, rfl, hB, Or.inr (Or.inl ⟨s[0], r, hr, hl, rfl, h1, hle, rfl, Or.inr ⟨Decidable.not_not.1 hk, rfl, rfl⟩⟩)⟩
    | false =>
      cases hd : digP (s[0].toNat : Int) with
      | true => exact (next_digit m t ht s w hG h0 hs hl hd).mono fun e w' h => other_next h0 hl h
      | false =>
        by_cases hq : s[0] = 39
        · exact (next_quote s w h0 hs hq).mono fun e w' h => other_next h0 hl h
        · exact (next_sign s w h0 hl hd hq).mono fun e w' h => other_next h0 hl h
  · have hs0 : s = ⟨#[]⟩ := by
      have : s.data = #[] := Array.eq_empty_of_size_eq_zero (by show s.size = 0; omega)
      cases s with
      | mk d =>
        have h : d = #[] := this
        rw [h]
    subst hs0
    refine (next_end w).mono fun e w' h => ?_
    exact ⟨0, 0, ⟨#[]⟩, 0, h.1, h.2, Or.inl ⟨rfl, rfl, rfl⟩⟩
end Go.Proofs.YtacodkmbefhicaaGreatDoor
