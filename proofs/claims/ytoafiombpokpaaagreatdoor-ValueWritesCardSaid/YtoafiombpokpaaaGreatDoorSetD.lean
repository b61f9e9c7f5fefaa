/- The walk of strconv's setDigits and numDigits. -/
import Derived.Test.YtoafiombpokpaaaGreatDoorFmtI
namespace Go.Proofs.YtoafiombpokpaaaGreatDoor
open Go.RowKit

def nDig (u : Nat) : Nat := if u = 0 then 0 else Lib.nDigits u
def dgF (u t : Nat) : UInt8 := Lib.dg u (nDig u - 1 - t)
theorem dgF_cut (u t : Nat) : CutC (dgF u t) := cut_dig (Nat.mod_lt _ (by decide))
theorem nDig_le {u : Nat} (h : u < 18446744073709551616) : nDig u ≤ 20 := by
  unfold nDig
  split
  · omega
  · have := Lib.numDigits_eq u (by omega) h
    split at this <;> omega
theorem nDig_lt (u : Nat) : u < 10 ^ nDig u := by
  unfold nDig
  split
  · omega
  · exact Lib.lt_pow_nDigits u
theorem encB (b : UInt8) : (fun (b : UInt8) => Value.int .u8 (b.toNat : Int)) b = byV b := rfl
set_option maxRecDepth 100000 in
set_option maxHeartbeats 4000000 in
theorem numD_any (u : Nat) (h2 : u < 18446744073709551616) (w : World) (htab : Lib.TabIs Tryz.prog w "internal/strconv.uint64pow10" .u64 Lib.pow10Tab) :
    Calls Tryz.prog 37 #[.int .u64 u] w fun e w' => e = .returned (.int .i64 (nDig u)) ∧ w' = w := by
  unfold nDig
  by_cases h : u = 0
  · subst h
    have z0 : w.cell? ⟨1, 0, none⟩ = some (.int .u64 1) := by
      exact (htab.cell Tryz.laysM284.m17 0 (by decide)).trans rfl
    have hb : Lib.bitLen 0 = 0 := by decide
    clear htab
    go_enter Tryz.func37, Tryz.ntmps37
    go_wp2_with (first
      | (go_at_call 62; (with_reducible refine (Tryz.bits_Len64 0 _ (by omega) (by omega)).mono ?_); rintro e1 w1 ⟨rfl, rfl⟩; rw [show (0 : Int).toNat = 0 from rfl, hb])
      | (go_at_call 61; (with_reducible refine (log10_any 0 (by omega) (by omega) _).mono ?_); rintro e1 w1 ⟨rfl, rfl⟩)
      | (go_at_call 63; (with_reducible refine (Tryz.internal_strconv_bool2_int _ _).mono ?_); rintro e1 w1 ⟨rfl, rfl⟩))
    all_goals go_ret
    all_goals exact ⟨rfl, rfl⟩
  · rw [if_neg h]
    exact Tryz.internal_strconv_numDigits u (by omega) h2 w htab
set_option maxRecDepth 100000 in
theorem open36 {a : Act} (h : a.tmps.size = 36) : ∃ u : Nat → Value, a.tmps = #[u 0, u 1, u 2, u 3, u 4, u 5, u 6, u 7, u 8, u 9, u 10, u 11, u 12, u 13, u 14, u 15, u 16, u 17, u 18, u 19, u 20, u 21, u 22, u 23, u 24, u 25, u 26, u 27, u 28, u 29, u 30, u 31, u 32, u 33, u 34, u 35] ∧ ∀ t, t < 36 → a.tmps.getD t undef = u t := by
  refine ⟨fun t => a.tmps.getD t undef, ?_, fun t _ => rfl⟩
  have e : a.tmps = ((List.range 36).map fun t => a.tmps.getD t undef).toArray := by
    apply Array.ext
    · simp [h]
    · intro i h1 h2
      simp [h1]
  exact e
structure T82 (blk : Nat) (qn : Int) (a : Act) : Prop where
  size : a.tmps.size = 36
  df : a.defers = []
  s0 : a.tmps.getD 0 undef = .slice (some ⟨blk, 0, none⟩) 32 32
  s8 : a.tmps.getD 8 undef = .int .i64 qn
theorem below_put {w : World} {g q o : Nat} {d : Array UInt8} (enc : UInt8 → Value) : Below g w ((Sort.putRow enc w g o d).drewN q) :=
by
  have h : Below g w (Sort.putRow enc w g o d) := ⟨rfl, rfl, rfl, by simp [Sort.putRow, Sort.mapBlock], fun k hk => by
    simp [Sort.putRow, Sort.mapBlock, Array.getElem?_modify, show g ≠ k by omega]⟩
  exact below_drewN h q
set_option maxRecDepth 100000 in
set_option maxHeartbeats 4000000 in
theorem set_any (u : Nat) (q : Int) (h2 : u < 18446744073709551616) (hq : -400 ≤ q ∧ q ≤ 400) (blk : Nat) (w : World) (hz : ∀ t, t < 32 → w.cell? ⟨blk, t, none⟩ = some (.int .u8 0) ∧ w.frozen? ⟨blk, t, none⟩ = false) :
    Calls Tryz.prog 82 #[.slice (some ⟨blk, 0, none⟩) 32 32, .int .u64 u, .int .i64 q, .int .i64 (nDig u)] w fun e w' => e = .returned (.tuple #[.int .i64 ((nDig u : Int) + q), .int .i64 (cutN (dgF u) (nDig u))]) ∧ (∀ t, t < nDig u → w'.cell? ⟨blk, t, none⟩ = some (byV (dgF u t))) ∧ Below blk w w' := by
  have hn := nDig_le h2
  have hH : Sort.Holds (fun (b : UInt8) => Value.int .u8 (b.toNat : Int)) w blk 0 (Array.replicate (nDig u) (0 : UInt8)) := fun j hj => by
    have hj' : j < nDig u := by simpa using hj
    refine ⟨?_, ?_⟩
    · rw [Nat.zero_add, (hz j (by omega)).1, getElem!_pos _ j hj]
      simp
    · rw [Nat.zero_add]
      exact (hz j (by omega)).2
  have HF := Lib.hid (Tryz.internal_strconv_formatBase10 blk 0 32 u (Array.replicate (nDig u) 0) w hH (by rw [Array.size_replicate]; exact nDig_lt u) h2 (by rw [Array.size_replicate]; omega))
  have HH := Lib.hid hH
  obtain ⟨n, hN⟩ : ∃ n, n = nDig u := ⟨_, rfl⟩
  have HN := Lib.hid hN
  rw [← hN] at hn
  have HF := Lib.hid (show Calls Tryz.prog 38 #[.slice (some ⟨blk, 0, none⟩) n 32, .int .u64 u] w fun e w' => e = .returned (.tuple #[]) ∧ (∀ t, t < n → w'.cell? ⟨blk, t, none⟩ = some (byV (dgF u t))) ∧ Below blk w w' from by
    have h := HF.out
    rw [Array.size_replicate, ← hN] at h
    refine h.mono ?_
    rintro e w' ⟨rfl, k, v', dk, rfl, hF⟩
    refine ⟨rfl, fun t ht => ?_, below_put _⟩
    have h3 := Sort.cell?_putRow (fun (b : UInt8) => Value.int .u8 (b.toNat : Int)) w blk 0 _ dk HH.out (by rw [hF.size, Array.size_replicate, hN]) t (by rw [hF.size]; exact ht)
    rw [Nat.zero_add] at h3
    rw [World.cell?_drewN, h3, hF.done t (Nat.zero_le _) ht]
    unfold dgF byV
    rw [← hN])
  rw [← hN]
  clear hz hH HH hN h2
  obtain ⟨qn, hqn⟩ : ∃ z : Int, z = (n : Int) + q := ⟨_, rfl⟩
  have HQN := Lib.hid hqn
  have g0 : ((n : Int) ≤ 32) = True := eq_true (by omega)
  go_enter Tryz.func82, Tryz.ntmps82
  refine wp_seq_k fun K0 hK0 => ?_
  have HK0 := Lib.hid hK0
  clear hK0
  go_wp2_with fail
  refine HK0.out _ _ ?_
  refine wp_seq_k fun K1 hK1 => ?_
  have HK1 := Lib.hid hK1
  clear hK1
  go_wp2_with (first
    | (go_at_call 38; (with_reducible refine HF.out.mono ?_); rintro e1 w1 ⟨rfl, hc, hb⟩; have HC := Lib.hid hc; have HB := Lib.hid hb; clear hc hb)
    | fail)
  rw [show (n : Int) + q = qn from HQN.out.symm]
  refine wp_loop (fun a' wr => T82 blk qn a' ∧ wr = w1 ∧ ∃ k : Nat, k ≤ n ∧ a'.tmps.getD 3 undef = .int .i64 k ∧ Hid (cutN (dgF u) k = cutN (dgF u) n)) (fun a' _ => (intOf (a'.tmps.getD 3 undef)).toNat) ?st ?rd
  case st =>
    refine ⟨⟨?_, ?_, ?_, ?_⟩, rfl, n, Nat.le_refl _, ?_, Lib.hid rfl⟩
    all_goals rfl
  case rd =>
    rintro a wr ⟨hS, rfl, k, hk, p3, HCU⟩
    obtain ⟨v, hv, hvg⟩ := open36 hS.size
    have p0 := hS.s0; have p8 := hS.s8
    have hdf := hS.df
    rw [hvg _ (by omega)] at p0 p8 p3
    obtain ⟨tm, df⟩ := a
    dsimp only at hv hdf
    subst hv hdf
    clear hS hvg
    rw [p0, p8, p3]
    clear p0 p8 p3
    rcases k with _ | j
    · go_wp2_with fail
      refine HK1.out _ _ ?_
      go_wp2_with fail
      refine bodyPost_ret (res_tt rfl rfl rfl) rfl ⟨?_, HC.out, HB.out⟩
      rw [← HCU.out, ← HQN.out]
      rfl
    · obtain ⟨c, hc⟩ : ∃ c, c = dgF u j := ⟨_, rfl⟩
      have z0 : wr.cell? ⟨blk, j, none⟩ = some (Value.int .u8 (c.toNat : Int)) := by rw [hc]; exact HC.out j (by omega)
      have g1 : (0 < (j : Int) + 1) = True := eq_true (by omega)
      by_cases h48 : c = 48
      · have HCJ := Lib.hid (show cutN (dgF u) (j + 1) = cutN (dgF u) j from by rw [hc] at h48; show (if _ then _ else _) = _; rw [if_pos h48])
        rw [h48] at z0
        have z1 : wr.cell? ⟨blk, j, none⟩ = some (Value.int .u8 48) := z0
        clear z0 hc h48
        go_wp2_with fail
        refine ⟨⟨⟨?_, ?_, ?_, ?_⟩, trivial, j, by omega, ?_, Lib.hid (by rw [← HCJ.out]; exact HCU.out)⟩, ?_⟩
        case refine_6 =>
          show (intOf (.int .i64 (j : Int))).toNat < (intOf (.int .i64 ((j + 1 : Nat) : Int))).toNat
          simp [intOf] <;> omega
        all_goals rfl
      · have HCJ := Lib.hid (show cutN (dgF u) (j + 1) = j + 1 from by rw [hc] at h48; show (if _ then _ else _) = _; rw [if_neg h48])
        have h48' : ¬ (c.toNat : Int) = 48 := fun h => h48 (UInt8.toNat_inj.1 (by rw [show (48 : UInt8).toNat = 48 from rfl]; omega))
        have g2 : ((c.toNat : Int) == 48) = false := by rw [beq_eq_false_iff_ne]; exact h48'
        have g3 : ((c.toNat : Int) = 48) = False := eq_false h48'
        clear hc h48 h48'
        go_wp2_with fail
        refine HK1.out _ _ ?_
        go_wp2_with fail
        refine bodyPost_ret (res_tt rfl rfl rfl) rfl ⟨?_, HC.out, HB.out⟩
        rw [← HCU.out, HCJ.out, ← HQN.out]
        rfl
end Go.Proofs.YtoafiombpokpaaaGreatDoor
