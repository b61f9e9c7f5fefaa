/- The bits of a set: what math/bits' counts come to. -/
import Derived.Test.YteckfakabaiipaaDoorRows
import Derived.Test.YteckfakabaiipaaDoorPlain
import Derived.WalkKit
import Derived.WalkSpells
import Derived.WalkLawsBesides
import Derived.Handy
import Derived.Lib.Hide
import Derived.Deep.QuietTactic
import Derived.BigQuiet
import Derived.Lib.BitFns
namespace Go.Proofs.YteckfakabaiipaaDoor
open Go.RowKit

theorem ret_i64 {a b : Int} (h : a = b) : Ending.returned (.int .i64 a) = .returned (.int .i64 b) := by rw [h]

theorem pop8_pc : ∀ n : Fin 256, Lib.pop8 (n.val : Int) = (pcf 8 n.val : Int) := by decide +kernel
theorem pop8_of (i : Nat) (h : i < 256) : Lib.pop8 (i : Int) = (pc i : Int) := by
  have := pop8_pc ⟨i, h⟩
  simp only at this
  rw [this, pcf_eq 8 i h]
theorem pop8_bd (i : Nat) (h : i < 256) : 0 ≤ Lib.pop8 (i : Int) ∧ Lib.pop8 (i : Int) ≤ 8 := by
  rw [pop8_of i h]
  have := pc_le 8 i h
  omega

theorem and255 (a : Int) (h0 : 0 ≤ a) (h1 : a < 4294967296) : bits .and .u32 a 255 = a % 256 := by
  rw [u32_and a 255 h0 h1 (by decide) (by decide)]
  have : a.toNat &&& (255 : Int).toNat = a.toNat % 256 := Nat.and_two_pow_sub_one_eq_mod a.toNat 8
  rw [this]; omega
theorem and1 (a : Int) (h0 : 0 ≤ a) (h1 : a < 4294967296) : bits .and .u32 a 1 = a % 2 := by
  rw [u32_and a 1 h0 h1 (by decide) (by decide)]
  have : a.toNat &&& (1 : Int).toNat = a.toNat % 2 := Nat.and_two_pow_sub_one_eq_mod a.toNat 1
  rw [this]; omega

/-- the call returns this number and leaves the world alone, but for draws -/
def RetN (x : Int) (w : World) (e : Ending) (w' : World) : Prop := e = .returned (.int .i64 x) ∧ ∃ n, w' = w.drewN n

set_option maxRecDepth 100000 in
set_option maxHeartbeats 1000000 in
theorem ones_any (x : Nat) (w : World) (hx : x < 4294967296) : Calls Tryd.prog 19 #[.int .u32 x] w (RetN (pc x) w) := by
  have H := Lib.hid (show pc x = pc (x / 16777216) + pc (x / 65536 % 256) + pc (x / 256 % 256) + pc (x % 256) by
    have h1 := pc_add 8 (x / 256) (x % 256) (by omega)
    have h2 := pc_add 8 (x / 65536) (x / 256 % 256) (by omega)
    have h3 := pc_add 8 (x / 16777216) (x / 65536 % 256) (by omega)
    rw [show 2 ^ 8 * (x / 256) + x % 256 = x by omega] at h1
    rw [show 2 ^ 8 * (x / 65536) + x / 256 % 256 = x / 256 by omega] at h2
    rw [show 2 ^ 8 * (x / 16777216) + x / 65536 % 256 = x / 65536 by omega] at h3
    omega)
  have b0 := pop8_bd (x / 16777216) (by omega)
  have b1 := pop8_bd (x / 65536 % 256) (by omega)
  have b2 := pop8_bd (x / 256 % 256) (by omega)
  have b3 := pop8_bd (x % 256) (by omega)
  have E := Lib.hid (And.intro (pop8_of (x / 16777216) (by omega)) (And.intro (pop8_of (x / 65536 % 256) (by omega)) (And.intro (pop8_of (x / 256 % 256) (by omega)) (pop8_of (x % 256) (by omega)))))
  simp only [Int.natCast_ediv, Int.natCast_emod, Int.cast_ofNat_Int] at b0 b1 b2 b3
  have h0 : (0 : Int) ≤ (x : Int) := by omega
  have h1 : (x : Int) < 4294967296 := by omega
  have q0 : (0 : Int) ≤ (x : Int) / 16777216 := by omega
  have q1 : (x : Int) / 16777216 ≤ 255 := by omega
  have m1 := and255 ((x : Int) / 65536) (by omega) (by omega)
  have m2 := and255 ((x : Int) / 256) (by omega) (by omega)
  have m3 := and255 (x : Int) (by omega) (by omega)
  obtain ⟨b00, b01⟩ := b0
  obtain ⟨b10, b11⟩ := b1
  obtain ⟨b20, b21⟩ := b2
  obtain ⟨b30, b31⟩ := b3
  go_enter Tryd.func19, Tryd.ntmps19
  go_wp2_with fail
  go_quiet (fail)
  go_wp2
  go_ret
  refine ⟨ret_i64 ?_, _, rfl⟩
  have e := E.out
  simp only [Int.natCast_ediv, Int.natCast_emod, Int.cast_ofNat_Int] at e
  have h := H.out
  obtain ⟨e1, e2, e3, e4⟩ := e
  rw [e1, e2, e3, e4, h]
  omega
end Go.Proofs.YteckfakabaiipaaDoor
