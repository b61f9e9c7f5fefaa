/- The walk of the document's word at a sign. -/
import Derived.Test.YtcgpflkaejbkhaaGreatDoorJI
namespace Go.Proofs.YtcgpflkaejbkhaaGreatDoor
open Go.RowKit

set_option maxRecDepth 100000 in
set_option maxHeartbeats 8000000 in
theorem rword_sign (s : ByteArray) (p : Nat) (w : World) (h0 : p < s.size) (hs : s.size ≤ 12) (hl : letP (s[p].toNat : Int) = false) (hd : digP (s[p].toNat : Int) = false) (hq : s[p] ≠ 39) : Calls Tryz.prog 99 #[.string s, .int .i64 (p : Int)] w (ROther s p w) := by
  have hp : ((p : Int) == (s.size : Int)) = false := by rw [beq_eq_false_iff_ne]; omega
  obtain ⟨c, hc⟩ : ∃ c, c = s[p] := ⟨_, rfl⟩
  have hkc : s[p] = c := hc.symm
  rw [hkc] at hl hd hq
  have hc255 : (c.toNat : Int) ≤ 255 := by have := c.toNat_lt; omega
  have hc0 : (0 : Int) ≤ (c.toNat : Int) := by omega
  have hc39 : ((c.toNat : Int) == 39) = false := by
    rw [beq_eq_false_iff_ne]
    intro h
    exact hq (UInt8.toNat_inj.1 (by simp; omega))
  have HK := Lib.hid (fun W => kind_any (c.toNat : Int) W)
  have h1 : (kindZ (c.toNat : Int) == 1) = false := by rw [kindZ_is1]; exact hl
  have h2 : (kindZ (c.toNat : Int) == 2) = false := by rw [kindZ_is2]; exact hd
  generalize kindZ (c.toNat : Int) = z at HK h1 h2
  have HST := Lib.hid (TwoTok.start w 6 ⟨#[]⟩ p)
  clear hl hd hq hc
  by_cases htwo : p + 1 < s.size
  · obtain ⟨T, hT⟩ : ∃ T, T = s.extract p (p + 2) := ⟨_, rfl⟩
    have hw2 : ∀ W, (Instr.slice 9 (.string s) (some (.int .i64 (p : Int))) (some (.int .i64 ((p : Int) + 2))) none).run Tryz.prog W = .ok (.string T) W := fun W => by rw [hT]; exact slice_str s _ _ p (p + 2) rfl (by omega) (by omega) (by omega) W
    have hlt : ((p : Int) + 1 < (s.size : Int)) = True := eq_true (by omega)
    have hwr : IntKind.i64.wrap ((p : Int) + 2) = (p : Int) + 2 := IntWalk.i64_in _ (by omega)
    obtain ⟨b1, hb1⟩ : ∃ b, (T.toList == [60, 62]) = b := ⟨_, rfl⟩
    obtain ⟨b2, hb2⟩ : ∃ b, (T.toList == [60, 61]) = b := ⟨_, rfl⟩
    obtain ⟨b3, hb3⟩ : ∃ b, (T.toList == [62, 61]) = b := ⟨_, rfl⟩
    clear hT
    have hor : (b1 = true ∨ (b1 = false ∧ b2 = true) ∨ (b1 = false ∧ b2 = false ∧ b3 = true)) ∨ (b1 = false ∧ b2 = false ∧ b3 = false) := by cases b1 <;> cases b2 <;> cases b3 <;> simp
    rcases hor with hor | ⟨rfl, rfl, rfl⟩
    · rcases hor with rfl | ⟨rfl, rfl⟩ | ⟨rfl, rfl, rfl⟩
      all_goals
        go_enter Tryz.func99, Tryz.ntmps99
        go_wp2_with (first
          | (go_at_call 98; (with_reducible refine (HK.out _).mono ?_); rintro e' w4 ⟨rfl, rfl⟩)
          | fail)
        exact bodyPost_ret (v := wordV 6 T p ((p + 2 : Nat) : Int) 0) (by simp [results, Tryz.results99, go_sem, wordV, tokV]) rfl ⟨6, 0, T, 2, rfl, (below1 w _).alloc (by simp) _, fun _ => ⟨by decide, by decide, by omega, by omega⟩⟩
    · go_enter Tryz.func99, Tryz.ntmps99
      go_wp2_with (first
        | (go_at_call 98; (with_reducible refine (HK.out _).mono ?_); rintro e' w4 ⟨rfl, rfl⟩)
        | fail)
      go_loopw [11] (fun i wr => ∃ (k : Nat), k ≤ 11 ∧ i = .int .i64 k ∧ Hid (TwoTok w 6 ⟨#[]⟩ p wr)) (fun i _ => 11 - (intOf i).toNat)
      case atStart => exact ⟨0, Nat.zero_le _, rfl, HST⟩
      case round =>
        obtain ⟨k, hk, rfl, HB⟩ := hrel
        obtain ⟨wo, rfl⟩ : ∃ wo : World, wo = wr := ⟨_, rfl⟩
        obtain ⟨q0, q1, q2, f0, f1, f2⟩ := HB.out.ans
        obtain ⟨r0, r1, r2, g0, g1, g2⟩ := HB.out.tok
        by_cases hlt : k < 11
        · obtain ⟨d, hd⟩ : ∃ d, d = (⟨#[40, 41, 44, 46, 61, 60, 62, 43, 45, 42, 59]⟩ : ByteArray)[k]'hlt := ⟨_, rfl⟩
          have hkd : (⟨#[40, 41, 44, 46, 61, 60, 62, 43, 45, 42, 59]⟩ : ByteArray)[k]'hlt = d := hd.symm
          have hd255 : (d.toNat : Int) ≤ 255 := by have := d.toNat_lt; omega
          have hd0 : (0 : Int) ≤ (d.toNat : Int) := by omega
          have HD := Lib.hid HB.out.drew
          clear hd
          cases he : ((d.toNat : Int) == (c.toNat : Int)) with
          | true =>
            obtain ⟨V, hV⟩ : ∃ V, V = s.extract p (p + 1) := ⟨_, rfl⟩
            have hw3 : ∀ W, (Instr.slice 9 (.string s) (some (.int .i64 (p : Int))) (some (.int .i64 ((p : Int) + 1))) none).run Tryz.prog W = .ok (.string V) W := fun W => by rw [hV]; exact slice_str s _ _ p (p + 1) rfl (by omega) (by omega) (by omega) W
            clear hV
            go_wp2_with fail
            go_region
            go_wp2_with fail
            exact bodyPost_ret (v := wordV 6 V p ((p + 1 : Nat) : Int) 0) (by simp [results, Tryz.results99, go_sem, q0, q1, q2, wordV, tokV]) rfl ⟨6, 0, V, 1, rfl, (HB.out.drew.setS V).done _ _ _, fun _ => ⟨by decide, by decide, by omega, by omega⟩⟩
          | false =>
            go_wp2_with fail
            go_region
            go_wp2_with fail
            go_roundw
            case rel => exact ⟨k + 1, by omega, by go_num, HD⟩
            case measure => simp [intOf] <;> omega
        · go_wp2_with fail
          exact bodyPost_ret (v := wordV 6 ⟨#[]⟩ p ((p + 0 : Nat) : Int) 100) (by simp [results, Tryz.results99, go_sem, q0, q1, q2, wordV, tokV]) rfl ⟨6, 100, ⟨#[]⟩, 0, rfl, HB.out.done _ _ _, fun h => absurd h (by decide)⟩
  · have hlt : ((p : Int) + 1 < (s.size : Int)) = False := eq_false (by omega)
    go_enter Tryz.func99, Tryz.ntmps99
    go_wp2_with (first
      | (go_at_call 98; (with_reducible refine (HK.out _).mono ?_); rintro e' w4 ⟨rfl, rfl⟩)
      | fail)
    go_loopw [11] (fun i wr => ∃ (k : Nat), k ≤ 11 ∧ i = .int .i64 k ∧ Hid (TwoTok w 6 ⟨#[]⟩ p wr)) (fun i _ => 11 - (intOf i).toNat)
    case atStart => exact ⟨0, Nat.zero_le _, rfl, HST⟩
    case round =>
      obtain ⟨k, hk, rfl, HB⟩ := hrel
      obtain ⟨wo, rfl⟩ : ∃ wo : World, wo = wr := ⟨_, rfl⟩
      obtain ⟨q0, q1, q2, f0, f1, f2⟩ := HB.out.ans
      obtain ⟨r0, r1, r2, g0, g1, g2⟩ := HB.out.tok
      by_cases hlt : k < 11
      · obtain ⟨d, hd⟩ : ∃ d, d = (⟨#[40, 41, 44, 46, 61, 60, 62, 43, 45, 42, 59]⟩ : ByteArray)[k]'hlt := ⟨_, rfl⟩
        have hkd : (⟨#[40, 41, 44, 46, 61, 60, 62, 43, 45, 42, 59]⟩ : ByteArray)[k]'hlt = d := hd.symm
        have hd255 : (d.toNat : Int) ≤ 255 := by have := d.toNat_lt; omega
        have hd0 : (0 : Int) ≤ (d.toNat : Int) := by omega
        have HD := Lib.hid HB.out.drew
        clear hd
        cases he : ((d.toNat : Int) == (c.toNat : Int)) with
        | true =>
          obtain ⟨V, hV⟩ : ∃ V, V = s.extract p (p + 1) := ⟨_, rfl⟩
          have hw3 : ∀ W, (Instr.slice 9 (.string s) (some (.int .i64 (p : Int))) (some (.int .i64 ((p : Int) + 1))) none).run Tryz.prog W = .ok (.string V) W := fun W => by rw [hV]; exact slice_str s _ _ p (p + 1) rfl (by omega) (by omega) (by omega) W
          clear hV
          go_wp2_with fail
          go_region
          go_wp2_with fail
          exact bodyPost_ret (v := wordV 6 V p ((p + 1 : Nat) : Int) 0) (by simp [results, Tryz.results99, go_sem, q0, q1, q2, wordV, tokV]) rfl ⟨6, 0, V, 1, rfl, (HB.out.drew.setS V).done _ _ _, fun _ => ⟨by decide, by decide, by omega, by omega⟩⟩
        | false =>
          go_wp2_with fail
          go_region
          go_wp2_with fail
          go_roundw
          case rel => exact ⟨k + 1, by omega, by go_num, HD⟩
          case measure => simp [intOf] <;> omega
      · go_wp2_with fail
        exact bodyPost_ret (v := wordV 6 ⟨#[]⟩ p ((p + 0 : Nat) : Int) 100) (by simp [results, Tryz.results99, go_sem, q0, q1, q2, wordV, tokV]) rfl ⟨6, 100, ⟨#[]⟩, 0, rfl, HB.out.done _ _ _, fun h => absurd h (by decide)⟩
end Go.Proofs.YtcgpflkaejbkhaaGreatDoor
