/- What readFloat reads of a short number with a fraction: plain. The walk of readFloat at a short number with a fraction. -/
import Derived.Test.YtcgpflkaejbkhaaGreatDoorJD
import Derived.WalkMore
namespace Go.Proofs.YtcgpflkaejbkhaaGreatDoor
open Go.RowKit

/-- digits, a point, digits -/
structure DecT (s : ByteArray) (p : Nat) : Prop where
  short : s.size ≤ 12
  pos : 1 ≤ p
  more : p + 1 < s.size
  dot : s.data.toList[p]? = some 46
  digs : ∀ j c, j ≠ p → s.data.toList[j]? = some c → digP (c.toNat : Int) = true
/-- the mantissa, its digits, where the point is -/
structure RF where
  M : Nat
  nd : Nat
  dp : Int
def rfStep (st : RF) (c : UInt8) : RF :=
  if c = 46 then ⟨st.M, st.nd, st.nd⟩ else if c = 48 ∧ st.nd = 0 then ⟨st.M, st.nd, st.dp - 1⟩ else ⟨st.M * 10 + (c.toNat - 48), st.nd + 1, st.dp⟩
def rfAt (l : List UInt8) (k : Nat) : RF := (l.take k).foldl rfStep ⟨0, 0, 0⟩
theorem rfAt_succ {l : List UInt8} {k : Nat} {c : UInt8} (h : l[k]? = some c) : rfAt l (k + 1) = rfStep (rfAt l k) c := by
  unfold rfAt
  rw [List.take_add_one, h, List.foldl_append]
  rfl
structure RFok (p k : Nat) (st : RF) : Prop where
  m : st.M < 10 ^ k
  n : st.nd ≤ k
  d : (st.nd : Int) - st.dp ≤ k
  d0 : -(k : Int) ≤ st.dp
  d1 : st.dp ≤ st.nd
theorem rf_ok {s : ByteArray} {p : Nat} (h : DecT s p) : ∀ k, k ≤ s.size → RFok p k (rfAt s.data.toList k) := by
  have hsl : s.data.toList.length = s.size := by show _ = s.data.size; simp
  intro k
  induction k with
  | zero => intro _; exact ⟨by simp [rfAt], by simp [rfAt], by simp [rfAt], by simp [rfAt], by simp [rfAt]⟩
  | succ k ih =>
    intro hk
    obtain ⟨i1, i2, i3, i4, i5⟩ := ih (by omega)
    obtain ⟨c, hc⟩ : ∃ c, s.data.toList[k]? = some c := ⟨_, List.getElem?_eq_getElem (by omega)⟩
    rw [rfAt_succ hc]
    have hp : 10 ^ (k + 1) = 10 ^ k * 10 := Nat.pow_succ ..
    unfold rfStep
    split
    · refine ⟨?_, ?_, ?_, ?_, ?_⟩ <;> dsimp only <;> omega
    · split
      · refine ⟨?_, ?_, ?_, ?_, ?_⟩ <;> dsimp only <;> omega
      · rename_i h46 _
        have hd : digP (c.toNat : Int) = true := by
          by_cases e : k = p
          · subst e; rw [h.dot] at hc; cases hc; exact absurd rfl h46
          · exact h.digs k c e hc
        have hd2 := digP_iff.1 hd
        refine ⟨?_, ?_, ?_, ?_, ?_⟩ <;> dsimp only <;> omega
theorem low_ne : ∀ n : Fin 58, (bits .or .u8 ((n.val : Nat) : Int) 32 == 120) = false := by decide +kernel
end Go.Proofs.YtcgpflkaejbkhaaGreatDoor
namespace Go.Proofs.YtcgpflkaejbkhaaGreatDoor
open Go.RowKit

set_option maxRecDepth 100000 in
set_option maxHeartbeats 16000000 in
theorem read_any (s : ByteArray) (p : Nat) (h : DecT s p) (w : World) (F : RF) (hF : F = rfAt s.data.toList s.size) :
    Calls Tryz.prog 157 #[.string s] w (RetV (.tuple #[.int .u64 F.M, .int .i64 (if F.M = 0 then 0 else F.dp - F.nd), .bool false, .bool false, .bool false, .int .i64 s.size, .bool true]) w) := by
  have hsl : s.data.toList.length = s.size := by show _ = s.data.size; simp
  have hp1 := h.pos
  have hp2 := h.more
  have hsz := h.short
  have HF := Lib.hid hF
  obtain ⟨E, hE⟩ : ∃ E : Int, E = if F.M = 0 then 0 else F.dp - F.nd := ⟨_, rfl⟩
  have HE := Lib.hid hE
  rw [← hE]
  clear hE hF
  have HOK := Lib.hid (rf_ok h)
  have HGET := Lib.hid (show ∀ j (hj : j < s.size), s.data.toList[j]? = some s[j] from fun j hj => by
    rw [Array.getElem?_toList]; exact Array.getElem?_eq_getElem hj)
  obtain ⟨c, hc⟩ : ∃ c, c = s[0] := ⟨_, rfl⟩
  have hkc : s[0] = c := hc.symm
  obtain ⟨c1, hc1⟩ : ∃ c, c = s[1] := ⟨_, rfl⟩
  have hkc1 : s[1] = c1 := hc1.symm
  have hd0 := digP_iff.1 (h.digs 0 c (by omega) (by rw [hc]; exact HGET.out 0 (by omega)))
  have h43 : ((c.toNat : Int) == 43) = false := by rw [beq_eq_false_iff_ne]; omega
  have h45 : ((c.toNat : Int) == 45) = false := by rw [beq_eq_false_iff_ne]; omega
  have hc1l : c1.toNat ≤ 57 := by
    by_cases e : 1 = p
    · have := h.dot
      rw [← e, HGET.out 1 (by omega), ← hc1] at this
      cases this; decide
    · have := digP_iff.1 (h.digs 1 c1 e (by rw [hc1]; exact HGET.out 1 (by omega)))
      omega
  obtain ⟨x, hx⟩ : ∃ x, x = bits .or .u8 (c1.toNat : Int) 32 := ⟨_, rfl⟩
  have HLW := Lib.hid (show ∀ W, Calls Tryz.prog 173 #[.int .u8 (c1.toNat : Int)] W (SameV (.int .u8 x) W) from fun W => (Tryz.internal_strconv_lower _ W).mono (fun e w' h => ⟨by rw [hx]; exact h.1, h.2.symm⟩))
  have hx120 : (x == 120) = false := by rw [hx]; exact low_ne ⟨c1.toNat, by omega⟩
  have h0lt : 0 < s.size := by omega
  have h1lt : 1 < s.size := by omega
  have h2lt : ((2 : Int) < (s.size : Int)) = True := eq_true (by omega)
  have hc255 : (c.toNat : Int) ≤ 255 := by have := c.toNat_lt; omega
  have hc0 : (0 : Int) ≤ (c.toNat : Int) := by omega
  have hse : (s = ByteArray.empty) = False := eq_false (fun e => by rw [e] at h0lt; exact absurd h0lt (by decide))
  have HD := Lib.hid h
  clear hx hc hc1 hd0 hc1l h
  have h48 : ((c.toNat : Int) == 48) = true ∨ ((c.toNat : Int) == 48) = false := by cases ((c.toNat : Int) == 48) <;> simp
  rcases h48 with h48 | h48
  all_goals
    go_enter Tryz.func157, Tryz.ntmps157
    go_wp2_with fail
    go_step3
    go_wp2_with (first
      | (go_at_call 173; (with_reducible refine (HLW.out _).mono ?_); rintro e w2 ⟨rfl, rfl⟩)
      | fail)
    go_step3
    go_wp2_with fail
    go_loopw [2, 5, 7, 9, 13, 14, 15, 16, 17] (fun m tr i us sd sg n nm q wr => wr = w ∧ tr = .bool false ∧ us = .bool false ∧ ∃ (k M nd : Nat) (dp : Int) (d b : Bool), k ≤ s.size ∧ Hid (rfAt s.data.toList k = ⟨M, nd, dp⟩) ∧ Hid (d = decide (p < k)) ∧ Hid (0 < k → b = true) ∧ m = .int .u64 M ∧ i = .int .i64 k ∧ sd = .bool d ∧ sg = .bool b ∧ n = .int .i64 nd ∧ nm = .int .i64 nd ∧ q = .int .i64 dp) (fun _ _ i _ _ _ _ _ _ _ => s.size - (intOf i).toNat)
    case atStart => exact ⟨rfl, rfl, rfl, 0, 0, 0, 0, false, false, by omega, Lib.hid rfl, Lib.hid (by simp), Lib.hid (fun h => absurd h (by omega)), rfl, rfl, rfl, rfl, rfl, rfl, rfl⟩
    case round =>
      obtain ⟨rfl, rfl, rfl, k, M, nd, dp, d, b, hk, HS, HDD, HBB, rfl, rfl, rfl, rfl, rfl, rfl, rfl⟩ := hrel
      have hok := HOK.out k hk
      rw [HS.out] at hok
      obtain ⟨o1, o2, o3, o4, o5⟩ := hok
      dsimp only at o1 o2 o3 o4 o5
      have hpow : (10 : Nat) ^ k ≤ 1000000000000 := Nat.le_trans (Nat.pow_le_pow_right (by decide) (show k ≤ 12 by omega)) (by decide)
      have oM : (M : Int) < 1000000000000 := by omega
      have oM0 : (0 : Int) ≤ (M : Int) := by omega
      clear o1 hpow
      by_cases hlt : k < s.size
      · obtain ⟨a, ha⟩ : ∃ a, a = s[k] := ⟨_, rfl⟩
        have hka : s[k] = a := ha.symm
        have HA := Lib.hid (show s.data.toList[k]? = some a by rw [ha]; exact HGET.out k hlt)
        have ha255 : (a.toNat : Int) ≤ 255 := by have := a.toNat_lt; omega
        have ha0 : (0 : Int) ≤ (a.toNat : Int) := by omega
        have HSS := Lib.hid (rfAt_succ HA.out)
        rw [HS.out] at HSS
        clear ha
        by_cases hkp : k = p
        · subst hkp
          obtain rfl : a = 46 := by have h := HD.out.dot; rw [HA.out] at h; exact Option.some.inj h
          obtain rfl : d = false := by rw [HDD.out]; simp
          have han : (((46 : UInt8).toNat : Nat) : Int) = 46 := rfl
          go_wp2_with fail
          go_roundw
          case rel => exact ⟨trivial, rfl, rfl, k + 1, M, nd, (nd : Int), true, b, by omega, Lib.hid (by rw [HSS.out]; simp [rfStep]), Lib.hid (by simp), Lib.hid (fun _ => HBB.out (by omega)), rfl, by go_num, rfl, rfl, rfl, rfl, rfl⟩
          case measure => simp [intOf] <;> omega
        · have hdg := digP_iff.1 (HD.out.digs k a hkp HA.out)
          obtain ⟨hg1, hg2⟩ := hdg
          have h95 : ((a.toNat : Int) == 95) = false := by rw [beq_eq_false_iff_ne]; omega
          have h46 : ((a.toNat : Int) == 46) = false := by rw [beq_eq_false_iff_ne]; omega
          have HD2 := Lib.hid (show d = decide (p < k + 1) by rw [HDD.out]; congr 1; exact propext ⟨fun h => by omega, fun h => by omega⟩)
          by_cases hz : a = 48 ∧ nd = 0
          · obtain ⟨rfl, rfl⟩ := hz
            have han : (((48 : UInt8).toNat : Nat) : Int) = 48 := rfl
            go_wp2_with fail
            go_roundw
            case rel => exact ⟨trivial, rfl, rfl, k + 1, M, 0, dp - 1, d, true, by omega, Lib.hid (by rw [HSS.out]; simp [rfStep]), HD2, Lib.hid (fun _ => rfl), rfl, by go_num, rfl, rfl, rfl, rfl, by go_num⟩
            case measure => simp [intOf] <;> omega
          · have hzz : ((a.toNat : Int) == 48) = false ∨ (((a.toNat : Int) == 48) = true ∧ ((nd : Int) == 0) = false) := by
              by_cases e : a = 48
              · right
                refine ⟨by rw [e]; rfl, ?_⟩
                rw [beq_eq_false_iff_ne]
                intro h
                exact hz ⟨e, by omega⟩
              · left
                rw [beq_eq_false_iff_ne]
                intro h
                exact e (UInt8.toNat_inj.1 (by simp; omega))
            obtain ⟨M2, hM2, hM3⟩ : ∃ M2 : Nat, M2 = M * 10 + (a.toNat - 48) ∧ (M2 : Int) = (M : Int) * 10 + ((a.toNat : Int) - 48) := ⟨_, rfl, by omega⟩
            have HS2 := Lib.hid (show rfAt s.data.toList (k + 1) = ⟨M2, nd + 1, dp⟩ by
              rw [HSS.out]
              unfold rfStep
              rw [if_neg (by intro e; rw [e] at h46; exact absurd h46 (by decide)), if_neg hz, hM2])
            have h19 : ((nd : Int) < 19) = True := eq_true (by omega)
            clear hz hM2
            rcases hzz with hz1 | ⟨hz1, hz2⟩
            · go_wp2_with fail
              go_roundw
              case rel => exact ⟨trivial, rfl, rfl, k + 1, M2, nd + 1, dp, d, true, by omega, HS2, HD2, Lib.hid (fun _ => rfl), by go_num, by go_num, rfl, rfl, by go_num, by go_num, rfl⟩
              case measure => simp [intOf] <;> omega
            · go_wp2_with fail
              go_roundw
              case rel => exact ⟨trivial, rfl, rfl, k + 1, M2, nd + 1, dp, d, true, by omega, HS2, HD2, Lib.hid (fun _ => rfl), by go_num, by go_num, rfl, rfl, by go_num, by go_num, rfl⟩
              case measure => simp [intOf] <;> omega
      · obtain rfl : k = s.size := by omega
        obtain rfl : d = true := by rw [HDD.out]; simp; omega
        obtain rfl : b = true := HBB.out (by omega)
        have hF := HF.out
        rw [HS.out] at hF
        subst hF
        by_cases hM : M = 0
        · subst hM
          obtain rfl : E = 0 := by have h := HE.out; rw [if_pos rfl] at h; exact h
          go_wp2_with fail
          exact bodyPost_ret (v := .tuple #[.int .u64 0, .int .i64 0, .bool false, .bool false, .bool false, .int .i64 s.size, .bool true]) (by simp [results, Tryz.results157, go_sem]) rfl ⟨rfl, Below.refl _ _⟩
        · have hM0 : ((M : Int) != 0) = true := by rw [bne_iff_ne]; omega
          have hE : dp - (nd : Int) = E := by have h := HE.out; rw [if_neg hM] at h; exact h.symm
          have hE1 : (-12 : Int) ≤ dp - (nd : Int) := by omega
          have hE2 : dp - (nd : Int) ≤ 0 := by omega
          clear hM HE HF HS HDD HBB HOK HD o3 o4 o5
          go_wp2_with fail
          exact bodyPost_ret (v := .tuple #[.int .u64 M, .int .i64 E, .bool false, .bool false, .bool false, .int .i64 s.size, .bool true]) (by simp [results, Tryz.results157, go_sem]) rfl ⟨rfl, Below.refl _ _⟩
end Go.Proofs.YtcgpflkaejbkhaaGreatDoor
