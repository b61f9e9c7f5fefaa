/- The walks of package greedy: does a set fit? which of two sets is ahead? -/
import Derived.Test.YteckfakabaiipaaDoorBits
import Derived.Lib.TrailingZeros
import Derived.Laws.Bits64b
namespace Go.Proofs.YteckfakabaiipaaDoor
open Go.RowKit

/-- the call returns this; of what was there nothing turns -/
def RetV (v : Value) (w : World) (e : Ending) (w' : World) : Prop := e = .returned v ∧ Below w.heap.size w w'

/-- do the things of a set fit into what is left? -/
def fitsL : List Int → Nat → Int → Nat → Bool
  | [], _, _, _ => true
  | n :: r, i, left, set => if set / 2 ^ i % 2 = 0 then fitsL r (i + 1) left set else if n < 0 ∨ left < n then false else fitsL r (i + 1) (left - n) set

theorem fitsL_at (zs : List Int) (k : Nat) (L : Int) (set : Nat) (h : k < zs.length) : fitsL (zs.drop k) k L set = if set / 2 ^ k % 2 = 0 then fitsL (zs.drop (k + 1)) (k + 1) L set else if zs.getD k 0 < 0 ∨ L < zs.getD k 0 then false else fitsL (zs.drop (k + 1)) (k + 1) (L - zs.getD k 0) set := by
  have e : zs.drop k = zs.getD k 0 :: zs.drop (k + 1) := by
    rw [List.drop_eq_getElem_cons h]
    simp [List.getD, List.getElem?_eq_getElem h]
  rw [e]; rfl
/-- the bit that is asked for, as the walk spells it -/
theorem bit_spell (set k : Nat) (hset : set < 4294967296) : bits .and .u32 ((set : Int) / 2 ^ k) 1 = ((set / 2 ^ k % 2 : Nat) : Int) := by
  have e : ((set : Int) / 2 ^ k) = ((set / 2 ^ k : Nat) : Int) := by simp
  have hle : set / 2 ^ k ≤ set := Nat.div_le_self _ _
  rw [e]
  generalize set / 2 ^ k = m at hle
  rw [and1 _ (by omega) (by omega)]
  omega
theorem ret_bool {a b : Bool} (h : a = b) : Ending.returned (.bool a) = .returned (.bool b) := by rw [h]

set_option maxHeartbeats 1000000 in
theorem fits_any (b off len cap : Nat) (zs : List Int) (left : Int) (fv : Value) (set : Nat) (w : World) (hlen : zs.length = len) (hl : len ≤ 16) (hset : set < 65536) (h0 : 0 ≤ left) (h1 : left ≤ 9223372036854775807)
    (hc : ∀ j, j < len → w.cell? ⟨b, off + j, none⟩ = some (.int .i64 (zs.getD j 0))) :
    Calls Tryd.prog 20 #[.agg #[.slice (some ⟨b, off, none⟩) len cap, .int .i64 left, fv], .int .u32 set] w (RetV (.bool (fitsL zs 0 left set)) w) := by
  have HC := Lib.hid hc
  clear hc
  go_enter Tryd.func20, Tryd.ntmps20
  go_wp2
  go_loop [5, 13] (fun l i => ∃ (k : Nat) (L : Int), k ≤ len ∧ i = .int .i64 k ∧ l = .int .i64 L ∧ 0 ≤ L ∧ L ≤ 9223372036854775807 ∧ Hid (fitsL (zs.drop k) k L set = fitsL zs 0 left set)) (fun _ i => len - (intOf i).toNat)
  case atStart => exact ⟨0, left, Nat.zero_le _, rfl, rfl, h0, h1, Lib.hid rfl⟩
  case round =>
    obtain ⟨k, L, hk, rfl, rfl, hL0, hL1, HI⟩ := hrel
    by_cases hlt : k < len
    · have hck := HC.out k hlt
      have hbk : b < w.heap.size := World.block_lt_of_cell? w _ hck
      have HA := Lib.hid (fitsL_at zs k L set (by omega))
      obtain ⟨n, hn⟩ : ∃ n, n = zs.getD k 0 := ⟨_, rfl⟩
      rw [← hn] at hck
      have HN := Lib.hid hn
      clear hn
      have hsp := bit_spell set k (by omega)
      by_cases hbit : set / 2 ^ k % 2 = 0
      · have ht : (bits BinOp.and IntKind.u32 ((set : Int) / 2 ^ k) 1 == 0) = true := by rw [hsp, hbit]; rfl
        clear hsp
        have HB := Lib.hid hbit
        clear hbit
        go_wp2
        go_round
        case rel => exact ⟨k + 1, L, by omega, by go_num, rfl, hL0, hL1, Lib.hid (by have h := HI.out; rw [HA.out, if_pos HB.out] at h; exact h)⟩
        case measure => simp [intOf]; omega
      · have ht : (bits BinOp.and IntKind.u32 ((set : Int) / 2 ^ k) 1 == 0) = false := by
          rw [hsp]
          have : set / 2 ^ k % 2 = 1 := by omega
          rw [this]; rfl
        clear hsp
        have HB := Lib.hid hbit
        clear hbit
        by_cases hneg : n < 0
        · have HF := Lib.hid (show fitsL zs 0 left set = false by have h := HI.out; rw [HA.out, if_neg HB.out, if_pos (by rw [← HN.out]; exact .inl hneg)] at h; exact h.symm)
          go_wp2
          go_ret
          exact ⟨ret_bool HF.out.symm, by go_grown⟩
        · by_cases hbig : L < n
          · have HF := Lib.hid (show fitsL zs 0 left set = false by have h := HI.out; rw [HA.out, if_neg HB.out, if_pos (by rw [← HN.out]; exact .inr hbig)] at h; exact h.symm)
            go_wp2
            go_ret
            exact ⟨ret_bool HF.out.symm, by go_grown⟩
          · go_wp2
            go_round
            case rel => exact ⟨k + 1, L - n, by omega, by go_num, rfl, by omega, by omega, Lib.hid (by have h := HI.out; rw [HA.out, if_neg HB.out, if_neg (by rw [← HN.out]; omega), ← HN.out] at h; exact h)⟩
            case measure => simp [intOf]; omega
    · have HF := Lib.hid (show fitsL zs 0 left set = true by have h := HI.out; rw [List.drop_eq_nil_of_le (by omega)] at h; rw [← h]; rfl)
      go_wp2
      go_ret
      exact ⟨ret_bool HF.out.symm, by go_grown⟩

set_option maxHeartbeats 400000 in
theorem fits_nil (a : Option Addr) (cap : Nat) (left : Int) (fv : Value) (set : Nat) (w : World) (h0 : 0 ≤ left) :
    Calls Tryd.prog 20 #[.agg #[.slice a 0 cap, .int .i64 left, fv], .int .u32 set] w (RetV (.bool true) w) := by
  go_enter Tryd.func20, Tryd.ntmps20
  go_wp2
  refine wp_loop_rounds 1 ?_
  rw [rounds_succ]
  go_wp2
  go_ret
  exact ⟨rfl, by go_grown⟩

/-- the numbers of a slice, as they stand in memory -/
def IntsAt (w : World) (a : Option Addr) (zs : List Int) : Prop :=
  zs = [] ∨ ∃ b off, a = some ⟨b, off, none⟩ ∧ ∀ j, j < zs.length → w.cell? ⟨b, off + j, none⟩ = some (.int .i64 (zs.getD j 0))

theorem fits_all (a : Option Addr) (cap : Nat) (zs : List Int) (left : Int) (fv : Value) (set : Nat) (w : World) (hl : zs.length ≤ 16) (hset : set < 65536) (h0 : 0 ≤ left) (h1 : left ≤ 9223372036854775807) (hz : IntsAt w a zs) :
    Calls Tryd.prog 20 #[.agg #[.slice a zs.length cap, .int .i64 left, fv], .int .u32 set] w (RetV (.bool (fitsL zs 0 left set)) w) := by
  rcases hz with rfl | ⟨b, off, rfl, hc⟩
  · exact fits_nil a cap left fv set w h0
  · exact fits_any b off zs.length cap zs left fv set w rfl hl hset h0 h1 hc

/-- the table of math/bits -/
def TabIn (w : World) : Prop := ∀ j, j < Lib.deBruijn32tab.length → w.cell? ⟨0, j, none⟩ = some (.int .u8 (Lib.deBruijn32tab.getD j 0))

set_option maxHeartbeats 1000000 in
theorem tz_core (x k idx : Nat) (w : World) (hx0 : ((x : Int) == 0) = false)
    (key : bits BinOp.and IntKind.u32 (x : Int) (-(x : Int) % 4294967296) * 125613361 % 4294967296 / 134217728 = (idx : Int))
    (hi : idx < 32) (hk : k < 32) (hcell : w.cell? ⟨0, idx, none⟩ = some (.int .u8 k)) :
    Calls Tryd.prog 25 #[.int .u32 x] w fun e w' => e = .returned (.int .i64 k) ∧ w = w' := by
  go_enter Tryd.func25, Tryd.ntmps25
  go_wp2_with (simp only [key])
  go_ret
  exact ⟨rfl, rfl⟩

theorem tz_key (x a : Nat) (hx : x < 4294967296) (hx0 : x ≠ 0) (hlow : x &&& (4294967296 - x) = a) :
    bits BinOp.and IntKind.u32 (x : Int) (-(x : Int) % 4294967296) * 125613361 % 4294967296 / 134217728 = ((a * 125613361 % 4294967296 / 134217728 : Nat) : Int) := by
  have e1 : -(x : Int) % 4294967296 = ((4294967296 - x : Nat) : Int) := by omega
  rw [e1, u32_and_nat x _ hx (by omega), hlow]
  omega

theorem tz_any (x : Nat) (hx : x < 4294967296) (hx0 : x ≠ 0) (w : World) (hT : TabIn w) :
    Calls Tryd.prog 25 #[.int .u32 x] w fun e w' => e = .returned (.int .i64 (Lib.ctz 32 x)) ∧ w = w' := by
  obtain ⟨hlow, hk⟩ := Lib.lowest_bit 32 x hx0 hx
  obtain ⟨hi, htab⟩ := Lib.deBruijn32_at _ hk
  have hcell := hT _ hi
  rw [htab] at hcell
  exact tz_core x _ _ w (by simp; omega) (tz_key x _ hx hx0 hlow) hi hk hcell

/-- is a set ahead of another: by their least thing apart -/
def aheadB (a b : Nat) : Bool := decide (a ^^^ b ≠ 0) && decide (a / 2 ^ Lib.ctz 32 (a ^^^ b) % 2 = 1)

set_option maxHeartbeats 1000000 in
theorem ahead_any (a b : Nat) (w : World) (ha : a < 65536) (hb : b < 65536) (hT : TabIn w) :
    Calls Tryd.prog 24 #[.int .u32 a, .int .u32 b] w fun e w' => e = .returned (.bool (aheadB a b)) ∧ w = w' := by
  have hx : bits .xor .u32 (a : Int) (b : Int) = ((a ^^^ b : Nat) : Int) := u32_xor_nat a b (by omega) (by omega)
  have hlt : a ^^^ b < 65536 := Nat.xor_lt_two_pow (n := 16) (by omega) (by omega)
  have hsp := bit_spell a (Lib.ctz 32 (a ^^^ b)) (by omega)
  by_cases h0 : a ^^^ b = 0
  · have HF := Lib.hid (show aheadB a b = false by unfold aheadB; simp [h0])
    have ht : ((((a ^^^ b : Nat) : Int)) != 0) = false := by rw [h0]; rfl
    clear hsp
    have H0 := Lib.hid h0
    clear h0
    go_enter Tryd.func24, Tryd.ntmps24
    go_wp2
    go_ret
    exact ⟨ret_bool HF.out.symm, rfl⟩
  · have ht : ((((a ^^^ b : Nat) : Int)) != 0) = true := by simpa using h0
    have hk : Lib.ctz 32 (a ^^^ b) < 32 := (Lib.lowest_bit 32 _ h0 (by omega)).2
    by_cases hbit : a / 2 ^ Lib.ctz 32 (a ^^^ b) % 2 = 1
    · have HF := Lib.hid (show aheadB a b = true by unfold aheadB; simp [h0, hbit])
      have ht2 : (bits BinOp.and IntKind.u32 ((a : Int) / 2 ^ Lib.ctz 32 (a ^^^ b)) 1 == 1) = true := by rw [hsp, hbit]; rfl
      clear hsp hbit
      go_enter Tryd.func24, Tryd.ntmps24
      go_wp2_with (go_at_call 25; (with_reducible refine (tz_any _ (by omega) h0 _ hT).mono ?_); rintro e w' ⟨rfl, rfl⟩)
      go_ret
      exact ⟨ret_bool HF.out.symm, rfl⟩
    · have HF := Lib.hid (show aheadB a b = false by unfold aheadB; simp [h0, hbit])
      have ht2 : (bits BinOp.and IntKind.u32 ((a : Int) / 2 ^ Lib.ctz 32 (a ^^^ b)) 1 == 1) = false := by
        rw [hsp]
        have : a / 2 ^ Lib.ctz 32 (a ^^^ b) % 2 = 0 := by omega
        rw [this]; rfl
      clear hsp hbit
      go_enter Tryd.func24, Tryd.ntmps24
      go_wp2_with (go_at_call 25; (with_reducible refine (tz_any _ (by omega) h0 _ hT).mono ?_); rintro e w' ⟨rfl, rfl⟩)
      go_ret
      exact ⟨ret_bool HF.out.symm, rfl⟩

end Go.Proofs.YteckfakabaiipaaDoor
