/- The walk of next at a sign: whatever the text, a sign of one or two bytes, or no word. -/
import Derived.Test.YtacodkmbefhicaaGreatDoorSmall
namespace Go.Proofs.YtacodkmbefhicaaGreatDoor
open Go.RowKit

/-- a word that is no name and no end, of some bytes; or an error -/
def OtherP (s : ByteArray) (w : World) (e : Ending) (w' : World) : Prop := ∃ (k er : Int) (S : ByteArray) (n : Nat), e = .returned (nextV k S n er) ∧ Below w.heap.size w w' ∧ (er = 0 → k ≠ 0 ∧ k ≠ 1 ∧ 1 ≤ n ∧ n ≤ s.size)
theorem prefix2 {s : ByteArray} {a b : UInt8} (h : Lib.hasPrefix s.data.toList [a, b] = true) : 2 ≤ s.size := by
  have hsl : s.data.toList.length = s.size := by show _ = s.data.size; simp
  cases hx : s.data.toList with
  | nil => rw [hx] at h; exact absurd h (by simp [Lib.hasPrefix])
  | cons x l =>
    cases l with
    | nil => rw [hx] at h; exact absurd h (by simp [Lib.hasPrefix])
    | cons y l => rw [hx] at hsl; simp at hsl; omega
set_option maxRecDepth 100000 in
set_option maxHeartbeats 8000000 in
theorem next_sign (s : ByteArray) (w : World) (h0 : 0 < s.size) (hl : letP (s[0].toNat : Int) = false) (hd : digP (s[0].toNat : Int) = false) (hq : s[0] ≠ 39) : Calls Tryz.prog 21 #[.string s] w (OtherP s w) := by
  obtain ⟨c, hc⟩ : ∃ c, c = s[0] := ⟨_, rfl⟩
  have hkc : s[0] = c := hc.symm
  rw [hkc] at hl hd hq
  have hc255 : (c.toNat : Int) ≤ 255 := by have := c.toNat_lt; omega
  have hc0 : (0 : Int) ≤ (c.toNat : Int) := by omega
  have hc39 : ((c.toNat : Int) == 39) = false := by
    rw [beq_eq_false_iff_ne]
    intro h
    exact hq (UInt8.toNat_inj.1 (by simp; omega))
  have hne := text_ne h0
  have HLE := Lib.hid (fun W => hl ▸ letter_any (c.toNat : Int) W)
  have HDI := Lib.hid (fun W => hd ▸ digit_any (c.toNat : Int) W)
  obtain ⟨p1, hp1⟩ : ∃ p, p = Lib.hasPrefix s.data.toList [60, 62] := ⟨_, rfl⟩
  obtain ⟨p2, hp2⟩ : ∃ p, p = Lib.hasPrefix s.data.toList [60, 61] := ⟨_, rfl⟩
  obtain ⟨p3, hp3⟩ : ∃ p, p = Lib.hasPrefix s.data.toList [62, 61] := ⟨_, rfl⟩
  have HP1 := Lib.hid (show ∀ W, Calls Tryz.prog 36 #[.string s, .string ⟨#[60, 62]⟩] W (SameV (.bool p1) W) from fun W => (Tryz.strings_HasPrefix s ⟨#[60, 62]⟩ W).mono (fun e w' h => ⟨by rw [hp1]; exact h.1, h.2.symm⟩))
  have HP2 := Lib.hid (show ∀ W, Calls Tryz.prog 36 #[.string s, .string ⟨#[60, 61]⟩] W (SameV (.bool p2) W) from fun W => (Tryz.strings_HasPrefix s ⟨#[60, 61]⟩ W).mono (fun e w' h => ⟨by rw [hp2]; exact h.1, h.2.symm⟩))
  have HP3 := Lib.hid (show ∀ W, Calls Tryz.prog 36 #[.string s, .string ⟨#[62, 61]⟩] W (SameV (.bool p3) W) from fun W => (Tryz.strings_HasPrefix s ⟨#[62, 61]⟩ W).mono (fun e w' h => ⟨by rw [hp3]; exact h.1, h.2.symm⟩))
  have HQ := Lib.hid (show p1 = true ∨ p2 = true ∨ p3 = true → 2 ≤ s.size from fun h => by
    rcases h with h | h | h
    · exact prefix2 (hp1 ▸ h)
    · exact prefix2 (hp2 ▸ h)
    · exact prefix2 (hp3 ▸ h))
  obtain ⟨x, hx⟩ : ∃ x, x = Lib.indexByte [40, 41, 44, 46, 61, 60, 62, 43, 45, 42, 59] c := ⟨_, rfl⟩
  have HIB := Lib.hid (show ∀ W, Calls Tryz.prog 37 #[.string ⟨#[40, 41, 44, 46, 61, 60, 62, 43, 45, 42, 59]⟩, .int .u8 (c.toNat : Int)] W (SameV (.int .i64 x) W) from fun W => (Tryz.strings_IndexByte ⟨#[40, 41, 44, 46, 61, 60, 62, 43, 45, 42, 59]⟩ (c.toNat : Int) W).mono (fun e w' h => ⟨by rw [hx]; have := h.1; simpa using this, h.2.symm⟩))
  have HS0 := Lib.hid h0
  clear hl hd hq hc hp1 hp2 hp3 hx
  go_enter Tryz.func21, Tryz.ntmps21
  go_wp2_with (first
    | (go_at_call 30; (with_reducible refine (HLE.out _).mono ?_); rintro e w5 ⟨rfl, rfl⟩)
    | (go_at_call 32; (with_reducible refine (HDI.out _).mono ?_); rintro e w6 ⟨rfl, rfl⟩)
    | fail)
  go_loopw [59] (fun i wr => ∃ k : Nat, k ≤ 3 ∧ i = .int .i64 k ∧ wr = (w.alloc (.cells #[.int .i64 0, .string ⟨#[]⟩, .int .i64 0] 41)).alloc (.cells #[.string ⟨#[60, 62]⟩, .string ⟨#[60, 61]⟩, .string ⟨#[62, 61]⟩] 9)) (fun i _ => 3 - (intOf i).toNat)
  case atStart => exact ⟨0, by omega, rfl, rfl⟩
  case round =>
    obtain ⟨k, hk, rfl, rfl⟩ := hrel
    have hk2 : k = 0 ∨ k = 1 ∨ k = 2 ∨ k = 3 := by omega
    rcases hk2 with rfl | rfl | rfl | rfl
    · cases p1 with
      | true =>
        go_wp2_with (first
          | (go_at_call 36; (with_reducible refine (HP1.out _).mono ?_); rintro e w5 ⟨rfl, rfl⟩)
          | fail)
        refine bodyPost_ret (v := nextV 6 ⟨#[60, 62]⟩ 2 0) (by simp [results, Tryz.results21, go_sem, nextV, tokV]) rfl ⟨6, 0, ⟨#[60, 62]⟩, 2, rfl, ?_, fun _ => ⟨by decide, by decide, by omega, HQ.out (by simp)⟩⟩
        exact ((Below.refl _ _).alloc (Nat.le_refl _) _).alloc (by simp) _
      | false =>
        go_wp2_with (first
          | (go_at_call 36; (with_reducible refine (HP1.out _).mono ?_); rintro e w5 ⟨rfl, rfl⟩)
          | fail)
        go_roundw
        case rel => exact ⟨1, by omega, rfl, trivial⟩
        case measure => simp [intOf]
    · cases p2 with
      | true =>
        go_wp2_with (first
          | (go_at_call 36; (with_reducible refine (HP2.out _).mono ?_); rintro e w5 ⟨rfl, rfl⟩)
          | fail)
        refine bodyPost_ret (v := nextV 6 ⟨#[60, 61]⟩ 2 0) (by simp [results, Tryz.results21, go_sem, nextV, tokV]) rfl ⟨6, 0, ⟨#[60, 61]⟩, 2, rfl, ?_, fun _ => ⟨by decide, by decide, by omega, HQ.out (by simp)⟩⟩
        exact ((Below.refl _ _).alloc (Nat.le_refl _) _).alloc (by simp) _
      | false =>
        go_wp2_with (first
          | (go_at_call 36; (with_reducible refine (HP2.out _).mono ?_); rintro e w5 ⟨rfl, rfl⟩)
          | fail)
        go_roundw
        case rel => exact ⟨2, by omega, rfl, trivial⟩
        case measure => simp [intOf]
    · cases p3 with
      | true =>
        go_wp2_with (first
          | (go_at_call 36; (with_reducible refine (HP3.out _).mono ?_); rintro e w5 ⟨rfl, rfl⟩)
          | fail)
        refine bodyPost_ret (v := nextV 6 ⟨#[62, 61]⟩ 2 0) (by simp [results, Tryz.results21, go_sem, nextV, tokV]) rfl ⟨6, 0, ⟨#[62, 61]⟩, 2, rfl, ?_, fun _ => ⟨by decide, by decide, by omega, HQ.out (by simp)⟩⟩
        exact ((Below.refl _ _).alloc (Nat.le_refl _) _).alloc (by simp) _
      | false =>
        go_wp2_with (first
          | (go_at_call 36; (with_reducible refine (HP3.out _).mono ?_); rintro e w5 ⟨rfl, rfl⟩)
          | fail)
        go_roundw
        case rel => exact ⟨3, by omega, rfl, trivial⟩
        case measure => simp [intOf]
    · by_cases hx0 : x < 0
      · go_wp2_with (first
          | (go_at_call 37; (with_reducible refine (HIB.out _).mono ?_); rintro e w5 ⟨rfl, rfl⟩)
          | fail)
        refine bodyPost_ret (v := nextV 0 ⟨#[]⟩ 0 100) (by simp [results, Tryz.results21, go_sem, nextV, tokV]) rfl ⟨0, 100, ⟨#[]⟩, 0, rfl, ?_, fun h => absurd h (by decide)⟩
        exact ((Below.refl _ _).alloc (Nat.le_refl _) _).alloc (by simp) _
      · have hsz1 : ((1 : Int) ≤ (s.size : Int)) = True := eq_true (by have := HS0.out; omega)
        go_wp2_with (first
          | (go_at_call 37; (with_reducible refine (HIB.out _).mono ?_); rintro e w5 ⟨rfl, rfl⟩)
          | fail)
        refine bodyPost_ret (v := nextV 6 (s.extract 0 1) 1 0) (by simp [results, Tryz.results21, go_sem, nextV, tokV]) rfl ⟨6, 0, s.extract 0 1, 1, rfl, ?_, fun _ => ⟨by decide, by decide, by omega, HS0.out⟩⟩
        exact ((Below.refl _ _).alloc (Nat.le_refl _) _).alloc (by simp) _
end Go.Proofs.YtacodkmbefhicaaGreatDoor
