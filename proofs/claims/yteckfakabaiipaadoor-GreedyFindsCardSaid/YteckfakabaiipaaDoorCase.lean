/- The walks of the statements' cases: are they small, and what does a set cost. -/
import Derived.Test.YteckfakabaiipaaDoorPrice
namespace Go.Proofs.YteckfakabaiipaaDoor
open Go.RowKit

/-- a case as a value -/
@[reducible] def caseV (a ao at2 : Option Addr) (n c no co nt ct : Nat) (budget m k base : Int) : Value :=
  .agg #[.slice a n c, .int .i64 budget, .int .i64 m, .int .i64 k, .int .i64 base, .slice ao no co, .slice at2 nt ct]

def smallB (n no nt : Nat) : Bool := decide (n ≤ 10) && decide (no ≤ 20) && decide (nt ≤ 20)

set_option maxHeartbeats 1000000 in
theorem fits_case (a ao at2 : Option Addr) (n c no co nt ct : Nat) (budget m k base : Int) (w : World) :
    Calls Tryd.prog 8 #[caseV a ao at2 n c no co nt ct budget m k base] w (RetV (.bool (smallB n no nt)) w) := by
  by_cases h1 : (n : Int) ≤ 10
  · by_cases h2 : (no : Int) ≤ 20
    · by_cases h3 : (nt : Int) ≤ 20
      · have HF := Lib.hid (show smallB n no nt = true by unfold smallB; simp; omega)
        go_enter Tryd.func8, Tryd.ntmps8
        go_wp2
        go_ret
        exact ⟨ret_bool HF.out.symm, by go_grown⟩
      · have HF := Lib.hid (show smallB n no nt = false by unfold smallB; simp; omega)
        go_enter Tryd.func8, Tryd.ntmps8
        go_wp2
        go_ret
        exact ⟨ret_bool HF.out.symm, by go_grown⟩
    · have HF := Lib.hid (show smallB n no nt = false by unfold smallB; simp; omega)
      have hd : decide ((no : Int) ≤ 20) = false := by simpa using h2
      go_enter Tryd.func8, Tryd.ntmps8
      go_wp2
      go_ret
      exact ⟨ret_bool HF.out.symm, by go_grown⟩
  · have HF := Lib.hid (show smallB n no nt = false by unfold smallB; simp; omega)
    have hd : decide ((n : Int) ≤ 10) = false := by simpa using h1
    go_enter Tryd.func8, Tryd.ntmps8
    go_wp2
    go_ret
    exact ⟨ret_bool HF.out.symm, by go_grown⟩

/-- small numbers of a slice, as they stand in memory -/
def ShortsAt (w : World) (a : Option Addr) (n : Nat) (zs : List Int) : Prop :=
  zs.length = n ∧ (∀ j, j < n → -32768 ≤ zs.getD j 0 ∧ zs.getD j 0 ≤ 32767) ∧ (n = 0 ∨ ∃ b off, a = some ⟨b, off, none⟩ ∧ ∀ j, j < n → w.cell? ⟨b, off + j, none⟩ = some (.int .i16 (zs.getD j 0)))
theorem ShortsAt.keep {w w' : World} {a : Option Addr} {n : Nat} {zs : List Int} (h : ShortsAt w a n zs) {B : Nat} (hB : Below B w w') (hw : w.heap.size ≤ B) : ShortsAt w' a n zs := by
  obtain ⟨h1, h2, h3⟩ := h
  refine ⟨h1, h2, h3.imp id fun ⟨b, off, ha, hc⟩ => ⟨b, off, ha, fun j hj => ?_⟩⟩
  have hlt := World.block_lt_of_cell? w _ (hc j hj)
  exact (hB.cell (p := ⟨b, off + j, none⟩) (by show b < B; have : b < w.heap.size := hlt; omega)).trans (hc j hj)

/-- what a set costs, by the first things -/
def priceA (base : Int) (off two : List Int) (set : Nat) : Nat → Int
  | 0 => base.tmod 1000000
  | i + 1 => if set / 2 ^ i % 2 = 0 then priceA base off two set i else
      (if i < two.length ∧ set / 2 ^ (i + 1) % 2 = 1 then (if i < off.length then priceA base off two set i - off.getD i 0 else priceA base off two set i) + two.getD i 0
       else (if i < off.length then priceA base off two set i - off.getD i 0 else priceA base off two set i))

theorem priceA_bd (base : Int) (off two : List Int) (set : Nat) (ho : ∀ j, j < off.length → -32768 ≤ off.getD j 0 ∧ off.getD j 0 ≤ 32767) (ht : ∀ j, j < two.length → -32768 ≤ two.getD j 0 ∧ two.getD j 0 ≤ 32767) :
    ∀ i, i ≤ 20 → -2400000 ≤ priceA base off two set i ∧ priceA base off two set i ≤ 2400000 := by
  have main : ∀ i : Nat, -1000000 - 65536 * (i : Int) ≤ priceA base off two set i ∧ priceA base off two set i ≤ 1000000 + 65536 * (i : Int) := by
    intro i
    induction i with
    | zero =>
      have h1 := Int.tmod_lt_of_pos base (show (0 : Int) < 1000000 by decide)
      have h2 : -1000000 < base.tmod 1000000 := by
        have := Int.tmod_lt_of_pos (-base) (show (0 : Int) < 1000000 by decide)
        rw [Int.neg_tmod] at this; omega
      simp only [priceA]; omega
    | succ i ih =>
      have e1 : (if i < off.length then priceA base off two set i - off.getD i 0 else priceA base off two set i) ≤ 1000000 + 65536 * (i : Int) + 32768 ∧ -1000000 - 65536 * (i : Int) - 32768 ≤ (if i < off.length then priceA base off two set i - off.getD i 0 else priceA base off two set i) := by
        split
        · have := ho i (by assumption); omega
        · omega
      rw [priceA]
      split
      · omega
      · split
        · rename_i h
          have := ht i h.1; omega
        · omega
  intro i hi
  have := main i
  omega

set_option maxHeartbeats 4000000 in
theorem price_case (a ao at2 : Option Addr) (n c no co nt ct : Nat) (budget m k base : Int) (off two : List Int) (set : Nat) (w : World) (hn : n ≤ 10) (_hno : no ≤ 20) (_hnt : nt ≤ 20) (hset : set < 65536) (ho : ShortsAt w ao no off) (ht : ShortsAt w at2 nt two) :
    Calls Tryd.prog 10 #[caseV a ao at2 n c no co nt ct budget m k base, .int .u32 set] w (RetV (.int .i64 (priceA base off two set n)) w) := by
  have HP := Lib.hid (priceA_bd base off two set (by rw [ho.1]; exact ho.2.1) (by rw [ht.1]; exact ht.2.1))
  have HO := Lib.hid ho
  have HT := Lib.hid ht
  clear ho ht
  go_enter Tryd.func10, Tryd.ntmps10
  go_wp2
  go_loop [5, 13] (fun t i => ∃ j : Nat, j ≤ n ∧ i = .int .i64 j ∧ t = .int .i64 (priceA base off two set j)) (fun _ i => n - (intOf i).toNat)
  case atStart => exact ⟨0, Nat.zero_le _, rfl, rfl⟩
  case round =>
    obtain ⟨j, hj, rfl, rfl⟩ := hrel
    by_cases hlt : j < n
    · have HA := Lib.hid (show priceA base off two set (j + 1) = _ from rfl)
      have hb := HP.out j (by omega)
      generalize hpd : priceA base off two set j = p at hb HA ⊢
      have hs1 := bit_spell set j (by omega)
      have hs2 := bit_spell set (j + 1) (by omega)
      by_cases h1 : set / 2 ^ j % 2 = 0
      · have t1 : (bits BinOp.and IntKind.u32 ((set : Int) / 2 ^ j) 1 == 0) = true := by rw [hs1, h1]; rfl
        clear hs1 hs2
        have H1 := Lib.hid h1
        clear h1
        have HE := Lib.hid (show priceA base off two set (j + 1) = p by rw [priceA, if_pos H1.out]; exact hpd)
        clear hpd
        go_wp2
        go_round
        case rel => exact ⟨j + 1, by omega, by go_num, by rw [HE.out]⟩
        case measure => simp [intOf]; omega
      · have t1 : (bits BinOp.and IntKind.u32 ((set : Int) / 2 ^ j) 1 == 0) = false := by
          rw [hs1, show set / 2 ^ j % 2 = 1 by omega]; rfl
        clear hs1
        have H1 := Lib.hid h1
        have PD := Lib.hid hpd
        have HL := Lib.hid (And.intro HO.out.1 HT.out.1)
        clear h1 hpd HA
        by_cases h2 : j < no
        · obtain ⟨b, o, rfl, hc⟩ := HO.out.2.2.resolve_left (by omega)
          have hcell := hc j h2
          have hbl : b < w.heap.size := World.block_lt_of_cell? w _ hcell
          have hr := HO.out.2.1 j h2
          obtain ⟨x, hx⟩ : ∃ x, x = off.getD j 0 := ⟨_, rfl⟩
          rw [← hx] at hcell hr
          have HX := Lib.hid hx
          clear hc hx
          have h2' : (j : Int) < (no : Int) := by omega
          by_cases h3 : j < nt
          · obtain ⟨b2, o2, rfl, hc2⟩ := HT.out.2.2.resolve_left (by omega)
            have hcell2 := hc2 j h3
            have hbl2 : b2 < w.heap.size := World.block_lt_of_cell? w _ hcell2
            have hr2 := HT.out.2.1 j h3
            obtain ⟨y, hy⟩ : ∃ y, y = two.getD j 0 := ⟨_, rfl⟩
            rw [← hy] at hcell2 hr2
            have HY := Lib.hid hy
            clear hc2 hy
            have h3' : (j : Int) < (nt : Int) := by omega
            by_cases h4 : set / 2 ^ (j + 1) % 2 = 1
            · have t2 : (bits BinOp.and IntKind.u32 ((set : Int) / 2 ^ (j + 1)) 1 == 1) = true := by rw [hs2, h4]; rfl
              have H4 := Lib.hid h4
              clear hs2 h4
              have HE := Lib.hid (show priceA base off two set (j + 1) = p - x + y by rw [priceA, if_neg H1.out, if_pos ⟨by rw [HL.out.2]; exact h3, H4.out⟩, if_pos (by rw [HL.out.1]; exact h2), ← HX.out, ← HY.out, PD.out])
              go_wp2
              go_round
              case rel => exact ⟨j + 1, by omega, by go_num, by rw [HE.out]⟩
              case measure => simp [intOf]; omega
            · have t2 : (bits BinOp.and IntKind.u32 ((set : Int) / 2 ^ (j + 1)) 1 == 1) = false := by
                rw [hs2, show set / 2 ^ (j + 1) % 2 = 0 by omega]; rfl
              have H4 := Lib.hid h4
              clear hs2 h4
              have HE := Lib.hid (show priceA base off two set (j + 1) = p - x by rw [priceA, if_neg H1.out, if_neg (fun h => H4.out h.2), if_pos (by rw [HL.out.1]; exact h2), ← HX.out, PD.out])
              go_wp2
              go_round
              case rel => exact ⟨j + 1, by omega, by go_num, by rw [HE.out]⟩
              case measure => simp [intOf]; omega
          · have HE := Lib.hid (show priceA base off two set (j + 1) = p - x by rw [priceA, if_neg H1.out, if_neg (fun h => h3 (by rw [← HL.out.2]; exact h.1)), if_pos (by rw [HL.out.1]; exact h2), ← HX.out, PD.out])
            have h3' : decide ((j : Int) < (nt : Int)) = false := by simp; omega
            clear hs2
            go_wp2
            go_round
            case rel => exact ⟨j + 1, by omega, by go_num, by rw [HE.out]⟩
            case measure => simp [intOf]; omega
        · have h2' : ¬ (j : Int) < (no : Int) := by omega
          by_cases h3 : j < nt
          · obtain ⟨b2, o2, rfl, hc2⟩ := HT.out.2.2.resolve_left (by omega)
            have hcell2 := hc2 j h3
            have hbl2 : b2 < w.heap.size := World.block_lt_of_cell? w _ hcell2
            have hr2 := HT.out.2.1 j h3
            obtain ⟨y, hy⟩ : ∃ y, y = two.getD j 0 := ⟨_, rfl⟩
            rw [← hy] at hcell2 hr2
            have HY := Lib.hid hy
            clear hc2 hy
            have h3' : (j : Int) < (nt : Int) := by omega
            by_cases h4 : set / 2 ^ (j + 1) % 2 = 1
            · have t2 : (bits BinOp.and IntKind.u32 ((set : Int) / 2 ^ (j + 1)) 1 == 1) = true := by rw [hs2, h4]; rfl
              have H4 := Lib.hid h4
              clear hs2 h4
              have HE := Lib.hid (show priceA base off two set (j + 1) = p + y by rw [priceA, if_neg H1.out, if_pos ⟨by rw [HL.out.2]; exact h3, H4.out⟩, if_neg (by rw [HL.out.1]; exact h2), ← HY.out, PD.out])
              go_wp2
              go_round
              case rel => exact ⟨j + 1, by omega, by go_num, by rw [HE.out]⟩
              case measure => simp [intOf]; omega
            · have t2 : (bits BinOp.and IntKind.u32 ((set : Int) / 2 ^ (j + 1)) 1 == 1) = false := by
                rw [hs2, show set / 2 ^ (j + 1) % 2 = 0 by omega]; rfl
              have H4 := Lib.hid h4
              clear hs2 h4
              have HE := Lib.hid (show priceA base off two set (j + 1) = p by rw [priceA, if_neg H1.out, if_neg (fun h => H4.out h.2), if_neg (by rw [HL.out.1]; exact h2), PD.out])
              go_wp2
              go_round
              case rel => exact ⟨j + 1, by omega, by go_num, by rw [HE.out]⟩
              case measure => simp [intOf]; omega
          · have HE := Lib.hid (show priceA base off two set (j + 1) = p by rw [priceA, if_neg H1.out, if_neg (fun h => h3 (by rw [← HL.out.2]; exact h.1)), if_neg (by rw [HL.out.1]; exact h2), PD.out])
            have h3' : decide ((j : Int) < (nt : Int)) = false := by simp; omega
            clear hs2
            go_wp2
            go_round
            case rel => exact ⟨j + 1, by omega, by go_num, by rw [HE.out]⟩
            case measure => simp [intOf]; omega
    · go_wp2
      go_ret
      obtain rfl : j = n := by omega
      exact ⟨rfl, by go_grown⟩
end Go.Proofs.YteckfakabaiipaaDoor
