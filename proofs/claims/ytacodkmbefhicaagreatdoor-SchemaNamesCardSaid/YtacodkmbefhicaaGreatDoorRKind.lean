/- The walks of the document's kind, digits. -/
import Derived.Test.YtacodkmbefhicaaGreatDoorNext
namespace Go.Proofs.YtacodkmbefhicaaGreatDoor
open Go.RowKit

def kindZ (r : Int) : Int := if letP r then 1 else if digP r then 2 else if blaP r then 3 else 0
theorem ret_i {a b : Int} (h : a = b) : Ending.returned (.int .i64 a) = .returned (.int .i64 b) := by rw [h]
set_option maxHeartbeats 4000000 in
theorem kind_any (r : Int) (w : World) : Calls Tryz.prog 22 #[.int .u8 r] w (SameV (.int .i64 (kindZ r)) w) := by
  obtain ⟨b, hb⟩ : ∃ b, b = kindZ r := ⟨_, rfl⟩
  have HB := Lib.hid hb
  rw [← hb]
  clear hb
  go_enter Tryz.func22, Tryz.ntmps22
  go_wp2
  all_goals
    go_ret
    refine ⟨ret_i ?_, rfl⟩
    have hz := HB.out
    clear HB
    subst hz
    try simp only [beq_iff_eq, beq_eq_false_iff_ne, ne_eq] at *
    simp only [kindZ, letP, digP, blaP, Bool.or_eq_true, Bool.and_eq_true, decide_eq_true_iff]
    (repeat' split) <;> omega
theorem kindZ_let {r : Int} (h : letP r = true) : kindZ r = 1 := by simp [kindZ, h]
theorem kindZ_dig {r : Int} (h : letP r = false) (h2 : digP r = true) : kindZ r = 2 := by simp [kindZ, h, h2]
theorem kindZ_is1 (r : Int) : (kindZ r == 1) = letP r := by
  unfold kindZ
  cases letP r <;> cases digP r <;> cases blaP r <;> rfl
theorem dig_not_let {r : Int} (h : digP r = true) : letP r = false := by
  simp only [digP, Bool.and_eq_true, decide_eq_true_iff] at h
  simp only [letP, Bool.or_eq_false_iff, Bool.and_eq_false_iff, decide_eq_false_iff_not]
  omega
theorem bla_not_dig {r : Int} (h : blaP r = true) : letP r = false ∧ digP r = false := by
  simp only [blaP, Bool.or_eq_true, decide_eq_true_iff] at h
  rcases h with ((h | h) | h) | h <;> subst h <;> decide
theorem kindZ_is2 (r : Int) : (kindZ r == 2) = digP r := by
  cases h : digP r with
  | true => simp [kindZ, h, dig_not_let h]
  | false =>
    unfold kindZ
    rw [h]
    cases letP r <;> cases blaP r <;> rfl
theorem kindZ_is3 (r : Int) : (kindZ r == 3) = blaP r := by
  cases h : blaP r with
  | true => simp [kindZ, h, bla_not_dig h]
  | false =>
    unfold kindZ
    rw [h]
    cases letP r <;> cases digP r <;> rfl
set_option maxHeartbeats 4000000 in
theorem digits_any (s : ByteArray) (p : Nat) (w : World) (hp : p ≤ s.size) (hs : s.size ≤ 200) : Calls Tryz.prog 53 #[.string s, .int .i64 (p : Int)] w (SameV (.int .i64 ((p + spanR digP (s.data.toList.drop p) : Nat) : Int)) w) := by
  have hsl : s.data.toList.length = s.size := by show _ = s.data.size; simp
  obtain ⟨R, hR⟩ : ∃ R : Nat, R = p + spanR digP (s.data.toList.drop p) := ⟨_, rfl⟩
  rw [← hR]
  have HR := Lib.hid hR
  have HSL := Lib.hid hsl
  clear hR hsl
  have HP := Lib.hid hp
  clear hp
  go_enter Tryz.func53, Tryz.ntmps53
  go_wp2_with fail
  go_loop [1] (fun i => ∃ k : Nat, p ≤ k ∧ k ≤ s.size ∧ i = .int .i64 k ∧ Hid (∀ j d, j < k - p → (s.data.toList.drop p)[j]? = some d → digP (d.toNat : Int) = true)) (fun i => s.size - (intOf i).toNat)
  case atStart => exact ⟨p, Nat.le_refl _, HP.out, rfl, Lib.hid (fun j d h => absurd h (by omega))⟩
  case round =>
    obtain ⟨k, hpk, hk, rfl, HC⟩ := hrel
    by_cases hlt : k < s.size
    · obtain ⟨c, hc⟩ : ∃ c, c = s[k] := ⟨_, rfl⟩
      have hkc : s[k] = c := hc.symm
      have HCL := Lib.hid (show (s.data.toList.drop p)[k - p]? = some c by
        rw [List.getElem?_drop, show p + (k - p) = k by omega, hc, Array.getElem?_toList]; exact Array.getElem?_eq_getElem hlt)
      have HK := Lib.hid (fun W => kind_any (c.toNat : Int) W)
      have h2 := kindZ_is2 (c.toNat : Int)
      generalize kindZ (c.toNat : Int) = z at HK h2
      have hc255 : (c.toNat : Int) ≤ 255 := by have := c.toNat_lt; omega
      have hc0 : (0 : Int) ≤ (c.toNat : Int) := by omega
      cases hq : digP (c.toNat : Int) with
      | true =>
        rw [hq] at h2
        have HC2 := Lib.hid (show ∀ j d, j < k + 1 - p → (s.data.toList.drop p)[j]? = some d → digP (d.toNat : Int) = true from fun j d h1 h2 => by
          by_cases e : j = k - p
          · subst e; rw [HCL.out] at h2; cases h2; exact hq
          · exact HC.out j d (by omega) h2)
        clear hq hc
        go_wp2_with (first
          | (go_at_call 22; (with_reducible refine (HK.out _).mono ?_); rintro e w2 ⟨rfl, rfl⟩)
          | fail)
        go_round
        case rel => exact ⟨k + 1, by omega, by omega, by go_num, HC2⟩
        case measure => simp [intOf] <;> omega
      | false =>
        rw [hq] at h2
        have HE := Lib.hid (show R = k by rw [HR.out, span_stop digP HC.out HCL.out hq]; omega)
        clear hq hc
        go_wp2_with (first
          | (go_at_call 22; (with_reducible refine (HK.out _).mono ?_); rintro e w2 ⟨rfl, rfl⟩)
          | fail)
        go_ret
        exact ⟨by rw [HE.out]; rfl, rfl⟩
    · have HE := Lib.hid (show R = k by
        have h := span_all digP (l := s.data.toList.drop p) (fun j d h1 h2 => HC.out j d (by rw [List.length_drop, HSL.out] at h1; omega) h2)
        rw [HR.out, h, List.length_drop, HSL.out]; omega)
      go_wp2_with fail
      go_ret
      exact ⟨by rw [HE.out]; rfl, rfl⟩
end Go.Proofs.YtacodkmbefhicaaGreatDoor
