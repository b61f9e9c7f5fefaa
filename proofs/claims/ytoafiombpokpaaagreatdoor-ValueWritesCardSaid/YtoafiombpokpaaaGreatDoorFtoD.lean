/- The walk of strconv's ftoa64: the contract. -/
import Derived.Test.YtoafiombpokpaaaGreatDoorFtoC
namespace Go.Proofs.YtoafiombpokpaaaGreatDoor
open Go.RowKit

theorem expD_len (n : Nat) : (expD n).length ≤ 3 := by
  unfold expD
  split
  · simp
  · split <;> simp
theorem expL_len (f : Nat → UInt8) (dp : Int) (nd : Nat) (h : nd ≤ 30) : (expL f dp nd).length ≤ 50 := by
  unfold expL
  have h1 := expD_len (expN dp nd).natAbs
  have h2 : (if 1 < nd then 46 :: (List.range (nd - 1)).map fun i => f (i + 1) else []).length ≤ 32 := by
    split
    · simp; omega
    · simp
  simp only [List.length_append, List.length_cons]
  omega
theorem fixL_len (f : Nat → UInt8) (dp : Int) (nd : Nat) (h : nd ≤ 30) (h1 : -450 ≤ dp) (h2 : dp ≤ 450) : (fixL f dp nd).length ≤ 990 := by
  unfold fixL
  split <;> split <;> simp <;> omega
theorem fmtL_len (neg : Bool) (f : Nat → UInt8) (dp : Int) (nd : Nat) (h : nd ≤ 30) (h1 : -450 ≤ dp) (h2 : dp ≤ 450) : (fmtL neg f dp nd).length ≤ 1000 := by
  unfold fmtL
  have h3 := expL_len f dp nd h
  have h4 := fixL_len f dp nd h h1 h2
  rw [List.length_append]
  have h5 : (if neg then [45] else [] : List UInt8).length ≤ 1 := by cases neg <;> simp
  by_cases hc : dp - 1 < -4 ∨ 6 ≤ dp - 1
  · rw [if_pos hc]; omega
  · rw [if_neg hc]; omega
theorem ftoa_any (P : Nat → Nat) (hPb : ∀ k, P k < 18446744073709551616) (b : Nat) (hb : b < 18446744073709551616) (hfin : b / 4503599627370496 % 2048 ≠ 2047) :
    ∃ s : List UInt8, FlS s ∧ s.length ≤ 1000 ∧ ∀ w0 B v w, OwnB w B v [] → Below B w0 w → B ≤ w.heap.size → 8 < B → PowAt P w → Lib.TabIs Tryz.prog w "internal/strconv.uint64pow10" .u64 Lib.pow10Tab →
      Calls Tryz.prog 55 #[v, .float .f64 b, .int .u8 103, .int .i64 (-1)] w (FmtO w0 B s) := by
  obtain ⟨ex, hex⟩ : ∃ ex, ex = b / 4503599627370496 % 2048 := ⟨_, rfl⟩
  obtain ⟨mt, hmt⟩ : ∃ mt, mt = b % 4503599627370496 := ⟨_, rfl⟩
  obtain ⟨neg, hng⟩ : ∃ neg, neg = ((b : Int) / 9223372036854775808 != 0) := ⟨_, rfl⟩
  have hx : ex < 2047 := by omega
  have hmt2 : mt < 4503599627370496 := by omega
  have q2 : bits .and .i64 ((b : Int) / 4503599627370496) 2047 = (ex : Int) := by
    have h := and_ex (b / 4503599627370496)
    rw [← hex] at h
    rw [← h]
    rfl
  have q3 : bits .and .u64 (b : Int) 4503599627370495 = (mt : Int) := by rw [and_mt, hmt]
  have HO := fb_open b ex mt (mt + 4503599627370496) neg hng.symm q2 q3 (or_mt mt hmt2) hx hb
  obtain ⟨M, hM⟩ : ∃ M, M = if ex = 0 then mt else mt + 4503599627370496 := ⟨_, rfl⟩
  obtain ⟨E, hE⟩ : ∃ E : Int, E = if ex = 0 then -1022 else (ex : Int) - 1023 := ⟨_, rfl⟩
  rw [← hM, ← hE] at HO
  have hM2 : M < 9007199254740992 := by rw [hM]; split <;> omega
  have hE2 : -1022 ≤ E ∧ E ≤ 1023 := by rw [hE]; split <;> omega
  clear hM hE q2 q3 hng hex hmt hx hmt2 hfin hb
  have hdn : ∀ (w : World) (n : Nat), Below w.heap.size w (w.drewN n) := fun w n => below_drewN (Below.refl _ _) n
  have hown : ∀ (w : World) (n B : Nat) (v : Value) (l : List UInt8), OwnB w B v l → OwnB (w.drewN n) B v l := fun w n B v l h => own_kept h (hdn w n) (Nat.le_refl _)
  by_cases h0 : M = 0
  · subst h0
    refine ⟨if neg then [45, 48] else [48], ?_, by cases neg <;> simp, fun w0 B v w hO hB hBw h8 hP hT => HO v w _ fun a n hS => ?_⟩
    · refine fls_cut fun c hc => ?_
      cases neg
      · obtain rfl : c = 48 := by simpa using hc
        exact cut_48
      · rcases (by simpa using hc : c = 45 ∨ c = 48) with rfl | rfl
        · exact cut_45
        · exact cut_48
    · exact fa_zero w0 B v neg E a _ hS (hown _ _ _ _ _ hO) (hB.trans ((hdn w n).mono hBw)) hBw h8 _ rfl
  · have hn1 : Lib.bitLen M ≤ 53 := Lib.bitLen_le M 53 (by omega) (by omega)
    have hn0 : 1 ≤ Lib.bitLen M := (Lib.bitLenAux_bounds 64 M (by omega) h0).1
    obtain ⟨m2, hm2, hm3⟩ := wrap_nat ((M : Int) * 2 ^ (64 - Lib.bitLen M))
    obtain ⟨d, q, hd, hq1, hq2, HS⟩ := short_any P hPb m2 hm3 (E - ((64 - Lib.bitLen M : Nat) : Int) - 52) (by omega)
    have h1 := nDig_le hd
    have h2 := cutN_le (dgF d) (nDig d)
    refine ⟨fmtL neg (dgF d) ((nDig d : Int) + q) (cutN (dgF d) (nDig d)), ?_, ?_, fun w0 B v w hO hB hBw h8 hP hT => HO v w _ fun a n hS => ?_⟩
    · exact fmt_class (fun t _ => dgF_cut d t) (by unfold expN; split <;> omega)
    · exact fmtL_len _ _ _ _ (by omega) (by omega) (by omega)
    · exact fa_rest P M (Lib.bitLen M) (64 - Lib.bitLen M) d q (by omega) hM2 rfl (by omega) (by omega) E hE2 (fun w h3 h4 => by rw [hm2]; exact HS w h3 h4) hd hq1 hq2 w0 B v neg a _ hS (hown _ _ _ _ _ hO) (hB.trans ((hdn w n).mono hBw)) hBw h8 (hP.keep (hdn w n)) (tab_keep hT (hdn w n)) _ rfl
end Go.Proofs.YtoafiombpokpaaaGreatDoor
