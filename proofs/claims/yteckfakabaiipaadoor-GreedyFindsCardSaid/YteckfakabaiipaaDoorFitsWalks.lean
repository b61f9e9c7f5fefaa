/- The walks of the statement GreedyFits' own closures: how many things has a set, does it fit; and of 'wrong'. -/
import Derived.Test.YteckfakabaiipaaDoorArgs
import Derived.Test.YteckfakabaiipaaDoorLaw
namespace Go.Proofs.YteckfakabaiipaaDoor
open Go.RowKit

set_option maxHeartbeats 1000000 in
theorem many_any (s : Nat) (w : World) (hs : s < 4294967296) : Calls Tryd.prog 15 #[.int .u32 s] w fun e w' => e = .returned (.int .i64 (pc s)) ∧ w = w' := by
  have HP := Lib.hid (pc_le 32 s (by omega))
  go_enter Tryd.func15, Tryd.ntmps15
  go_wp2
  go_loop [0, 3] (fun x c => ∃ t : Nat, t ≤ s ∧ x = .int .u32 t ∧ ∃ q : Nat, c = .int .i64 q ∧ Hid (q + pc t = pc s) ∧ q ≤ 32) (fun x _ => (intOf x).toNat)
  case atStart => exact ⟨s, Nat.le_refl _, rfl, 0, rfl, Lib.hid (by omega), by omega⟩
  case round =>
    obtain ⟨t, ht, rfl, q, rfl, HQ, hq⟩ := hrel
    by_cases h0 : 0 < t
    · go_wp2
      go_round
      case rel => exact ⟨t / 2, by omega, by go_num, q + t % 2, by go_num, Lib.hid (by have h1 := HQ.out; have h2 := pc_step t; omega), by have h1 := HQ.out; have h2 := pc_step t; have h3 := HP.out; omega⟩
      case measure => simp [intOf]; omega
    · have HR := Lib.hid (show q = pc s by
        have h1 := HQ.out
        have : t = 0 := by omega
        subst this; rw [pc_zero] at h1; omega)
      go_wp2
      go_ret
      exact ⟨ret_i64 (by rw [HR.out]), rfl⟩

def wrongB (budget m k : Int) : Bool := decide (m < 0) || decide (3 < m) || decide (k < 0) || decide (budget < 0)

set_option maxHeartbeats 1000000 in
theorem wrong_any (a ao at2 : Option Addr) (n c no co nt ct : Nat) (budget m k base : Int) (w : World) :
    Calls Tryd.prog 11 #[caseV a ao at2 n c no co nt ct budget m k base] w (RetV (.bool (wrongB budget m k)) w) := by
  by_cases h1 : m < 0
  · have HF := Lib.hid (show wrongB budget m k = true by unfold wrongB; simp [h1])
    go_enter Tryd.func11, Tryd.ntmps11
    go_wp2
    go_ret
    exact ⟨ret_bool HF.out.symm, by go_grown⟩
  · by_cases h2 : 3 < m
    · have HF := Lib.hid (show wrongB budget m k = true by unfold wrongB; simp [h2])
      go_enter Tryd.func11, Tryd.ntmps11
      go_wp2
      go_ret
      exact ⟨ret_bool HF.out.symm, by go_grown⟩
    · by_cases h3 : k < 0
      · have HF := Lib.hid (show wrongB budget m k = true by unfold wrongB; simp [h3])
        go_enter Tryd.func11, Tryd.ntmps11
        go_wp2
        go_ret
        exact ⟨ret_bool HF.out.symm, by go_grown⟩
      · have HF := Lib.hid (show wrongB budget m k = decide (budget < 0) by unfold wrongB; simp [h1, h2, h3])
        go_enter Tryd.func11, Tryd.ntmps11
        go_wp2
        go_ret
        exact ⟨ret_bool HF.out.symm, by go_grown⟩

set_option maxHeartbeats 2000000 in
theorem ok_some (b off B cap : Nat) (zs : List Int) (left : Int) (s : Nat) (w : World) (hl : zs.length ≤ 16) (hset : s < 65536) (h0 : 0 ≤ left) (h1 : left ≤ 9223372036854775807)
    (e0 : w.cell? ⟨B, 0, none⟩ = some (.slice (some ⟨b, off, none⟩) zs.length cap)) (e1 : w.cell? ⟨B, 1, none⟩ = some (.int .i64 left))
    (hc : ∀ j, j < zs.length → w.cell? ⟨b, off + j, none⟩ = some (.int .i64 (zs.getD j 0))) :
    Calls Tryd.prog 16 #[.int .u32 s, .pointer (some ⟨B, 0, none⟩)] w fun e w' => e = .returned (.bool (fitsL zs 0 left s)) ∧ w = w' := by
  have HC := Lib.hid hc
  clear hc
  go_enter Tryd.func16, Tryd.ntmps16
  go_wp2
  go_loop [4, 12] (fun l i => ∃ (k : Nat) (L : Int), k ≤ zs.length ∧ i = .int .i64 k ∧ l = .int .i64 L ∧ 0 ≤ L ∧ L ≤ 9223372036854775807 ∧ Hid (fitsL (zs.drop k) k L s = fitsL zs 0 left s)) (fun _ i => zs.length - (intOf i).toNat)
  case atStart => exact ⟨0, left, Nat.zero_le _, rfl, rfl, h0, h1, Lib.hid rfl⟩
  case round =>
    obtain ⟨k, L, hk, rfl, rfl, hL0, hL1, HI⟩ := hrel
    by_cases hlt : k < zs.length
    · have hck := HC.out k hlt
      have HA := Lib.hid (fitsL_at zs k L s hlt)
      obtain ⟨x, hx⟩ : ∃ x, x = zs.getD k 0 := ⟨_, rfl⟩
      rw [← hx] at hck
      have HN := Lib.hid hx
      clear hx
      have hsp := bit_spell s k (by omega)
      by_cases hbit : s / 2 ^ k % 2 = 0
      · have ht : (bits BinOp.and IntKind.u32 ((s : Int) / 2 ^ k) 1 == 1) = false := by rw [hsp, hbit]; rfl
        clear hsp
        have HB := Lib.hid hbit
        clear hbit
        go_wp2
        go_round
        case rel => exact ⟨k + 1, L, by omega, by go_num, rfl, hL0, hL1, Lib.hid (by have h := HI.out; rw [HA.out, if_pos HB.out] at h; exact h)⟩
        case measure => simp [intOf]; omega
      · have ht : (bits BinOp.and IntKind.u32 ((s : Int) / 2 ^ k) 1 == 1) = true := by
          rw [hsp]
          have : s / 2 ^ k % 2 = 1 := by omega
          rw [this]; rfl
        clear hsp
        have HB := Lib.hid hbit
        clear hbit
        by_cases hneg : x < 0
        · have HF := Lib.hid (show fitsL zs 0 left s = false by have h := HI.out; rw [HA.out, if_neg HB.out, if_pos (by rw [← HN.out]; exact .inl hneg)] at h; exact h.symm)
          go_wp2
          go_ret
          exact ⟨ret_bool HF.out.symm, rfl⟩
        · by_cases hbig : L < x
          · have HF := Lib.hid (show fitsL zs 0 left s = false by have h := HI.out; rw [HA.out, if_neg HB.out, if_pos (by rw [← HN.out]; exact .inr hbig)] at h; exact h.symm)
            go_wp2
            go_ret
            exact ⟨ret_bool HF.out.symm, rfl⟩
          · go_wp2
            go_round
            case rel => exact ⟨k + 1, L - x, by omega, by go_num, rfl, by omega, by omega, Lib.hid (by have h := HI.out; rw [HA.out, if_neg HB.out, if_neg (by rw [← HN.out]; omega), ← HN.out] at h; exact h)⟩
            case measure => simp [intOf]; omega
    · have HF := Lib.hid (show fitsL zs 0 left s = true by have h := HI.out; rw [List.drop_eq_nil_of_le (by omega)] at h; rw [← h]; rfl)
      go_wp2
      go_ret
      exact ⟨ret_bool HF.out.symm, rfl⟩

set_option maxHeartbeats 400000 in
theorem ok_nil (a : Option Addr) (B cap : Nat) (left : Int) (s : Nat) (w : World)
    (e0 : w.cell? ⟨B, 0, none⟩ = some (.slice a 0 cap)) (e1 : w.cell? ⟨B, 1, none⟩ = some (.int .i64 left)) :
    Calls Tryd.prog 16 #[.int .u32 s, .pointer (some ⟨B, 0, none⟩)] w fun e w' => e = .returned (.bool true) ∧ w = w' := by
  go_enter Tryd.func16, Tryd.ntmps16
  go_wp2
  refine wp_loop_rounds 1 ?_
  rw [rounds_succ]
  go_wp2
  go_ret
  exact ⟨rfl, rfl⟩

theorem ok_any (a : Option Addr) (B cap : Nat) (zs : List Int) (left : Int) (s : Nat) (w : World) (hl : zs.length ≤ 16) (hset : s < 65536) (h0 : 0 ≤ left) (h1 : left ≤ 9223372036854775807)
    (e0 : w.cell? ⟨B, 0, none⟩ = some (.slice a zs.length cap)) (e1 : w.cell? ⟨B, 1, none⟩ = some (.int .i64 left)) (hz : IntsAt w a zs) :
    Calls Tryd.prog 16 #[.int .u32 s, .pointer (some ⟨B, 0, none⟩)] w fun e w' => e = .returned (.bool (fitsL zs 0 left s)) ∧ w = w' := by
  rcases hz with rfl | ⟨b, off, rfl, hc⟩
  · exact ok_nil a B cap left s w e0 e1
  · exact ok_some b off B cap zs left s w hl hset h0 h1 e0 e1 hc
end Go.Proofs.YteckfakabaiipaaDoor
