/- The walks of atof64, parseFloatPrefix, ParseFloat at a short number with a fraction. -/
import Derived.Test.YtacodkmbefhicaaGreatDoorReadFloat
namespace Go.Proofs.YtacodkmbefhicaaGreatDoor
open Go.RowKit

theorem frombits_zero (w : World) : (callFunc 88 #[.int .u64 0]).run Tryz.prog w = .ok (.value (.float .f64 0)) w := by kernel_rfl
theorem DecT.first {s : ByteArray} {p : Nat} (h : DecT s p) : ∃ h0 : 0 < s.size, digP (s[0].toNat : Int) = true := by
  have h0 : 0 < s.size := by have := h.more; omega
  exact ⟨h0, h.digs 0 s[0] (by have := h.pos; omega) (by rw [Array.getElem?_toList]; exact Array.getElem?_eq_getElem h0)⟩
set_option maxRecDepth 100000 in
set_option maxHeartbeats 8000000 in
theorem atof_any (m : Int) (t : Nat → Nat) (ht : ∀ j, j < 23 → finD (Ieee.double.read (t j)) = true) (s : ByteArray) (p : Nat) (h : DecT s p) : ∃ f, ∀ W, Glob m t W → Calls Tryz.prog 73 #[.string s] W (RetV (.tuple #[.float .f64 f, .int .i64 s.size, .nilIface]) W) := by
  obtain ⟨h0, hd⟩ := h.first
  have HSP := Lib.hid (fun W => special_any s W h0 hd)
  obtain ⟨M, nd, dp, hF⟩ : ∃ M nd dp, rfAt s.data.toList s.size = ⟨M, nd, dp⟩ := ⟨_, _, _, rfl⟩
  have hok := rf_ok h s.size (Nat.le_refl _)
  rw [hF] at hok
  obtain ⟨o1, o2, o3, o4, o5⟩ := hok
  dsimp only at o1 o2 o3 o4 o5
  have hsz := h.short
  have hpow : (10 : Nat) ^ s.size ≤ 1000000000000 := Nat.le_trans (Nat.pow_le_pow_right (by decide) hsz) (by decide)
  have hM52 : M < 4503599627370496 := by omega
  have HB2 := Lib.hid bool2_any
  have HFB := Lib.hid frombits_zero
  have hbo : bits .or .u64 0 0 = 0 := by decide +kernel
  by_cases hM : M = 0
  · subst hM
    have HRF := Lib.hid (fun W => read_any s p h W ⟨0, nd, dp⟩ hF.symm)
    have hz : (if (RF.mk 0 nd dp).M = 0 then (0 : Int) else (RF.mk 0 nd dp).dp - (RF.mk 0 nd dp).nd) = 0 := if_pos rfl
    rw [hz] at HRF
    refine ⟨0, fun W hG => ?_⟩
    have HG := Lib.hid hG
    clear hG h hd hF o1 o2 o3 o4 o5 hpow hz
    go_enter Tryz.func73, Tryz.ntmps73
    go_wp2_with (first
      | (go_at_call 78; (with_reducible refine (HSP.out _).mono ?_); rintro e w3 ⟨rfl, hB3⟩; have HB3 := Lib.hid hB3; clear hB3)
      | (go_at_call 79; (with_reducible refine (HRF.out _).mono ?_); rintro e w4 ⟨rfl, hB4⟩; have HB4 := Lib.hid (HB3.out.trans (hB4.mono HB3.out.size)); have hopt := (HG.out.keep HB4.out).opt; clear hB4)
      | (go_at_call 87; (with_reducible refine (HB2.out _).mono ?_); rintro e w5 ⟨rfl, hB5⟩; have HB5 := Lib.hid (HB4.out.trans (hB5.mono HB4.out.size)); have hfb := HFB.out w5; clear hB5)
      | fail)
    exact bodyPost_ret (v := .tuple #[.float .f64 0, .int .i64 s.size, .nilIface]) (by simp [results, Tryz.results73, go_sem]) rfl ⟨rfl, HB5.out⟩
  · obtain ⟨e, he, he2⟩ : ∃ e : Nat, e ≤ 22 ∧ dp - (nd : Int) = -(e : Int) := ⟨((nd : Int) - dp).toNat, by omega, by omega⟩
    have HRF := Lib.hid (fun W => read_any s p h W ⟨M, nd, dp⟩ hF.symm)
    have hz : (if (RF.mk M nd dp).M = 0 then (0 : Int) else (RF.mk M nd dp).dp - (RF.mk M nd dp).nd) = -(e : Int) := (if_neg hM).trans he2
    rw [hz] at HRF
    obtain ⟨f, hf⟩ := exact_any m t ht M e hM52 he
    have HX := Lib.hid hf
    have hM0 : ((M : Int) == 0) = false := by rw [beq_eq_false_iff_ne]; omega
    have he310 : ((310 : Int) < -(e : Int)) = False := eq_false (by omega)
    have he345 : (-(e : Int) < -345) = False := eq_false (by omega)
    refine ⟨f, fun W hG => ?_⟩
    have HG := Lib.hid hG
    clear hf hG h hd hF o1 o2 o3 o4 o5 hpow hz hM hM52
    go_enter Tryz.func73, Tryz.ntmps73
    go_wp2_with (first
      | (go_at_call 78; (with_reducible refine (HSP.out _).mono ?_); rintro e w3 ⟨rfl, hB3⟩; have HB3 := Lib.hid hB3; clear hB3)
      | (go_at_call 79; (with_reducible refine (HRF.out _).mono ?_); rintro e w4 ⟨rfl, hB4⟩; have HB4 := Lib.hid (HB3.out.trans (hB4.mono HB3.out.size)); have hopt := (HG.out.keep HB4.out).opt; clear hB4)
      | (go_at_call 87; (with_reducible refine (HB2.out _).mono ?_); rintro e w5 ⟨rfl, hB5⟩; have HB5 := Lib.hid (HB4.out.trans (hB5.mono HB4.out.size)); clear hB5)
      | (go_at_call 89; (with_reducible refine (HX.out _ (HG.out.keep HB5.out)).mono ?_); rintro e w6 ⟨rfl, hB6⟩; have HB6 := Lib.hid (HB5.out.trans (hB6.mono HB5.out.size)); clear hB6)
      | fail)
    exact bodyPost_ret (v := .tuple #[.float .f64 f, .int .i64 s.size, .nilIface]) (by simp [results, Tryz.results73, go_sem]) rfl ⟨rfl, HB6.out⟩
theorem parse_any (m : Int) (t : Nat → Nat) (ht : ∀ j, j < 23 → finD (Ieee.double.read (t j)) = true) (s : ByteArray) (p : Nat) (h : DecT s p) : ∃ f, ∀ W, Glob m t W → Calls Tryz.prog 47 #[.string s, .int .i64 64] W (RetV (.tuple #[.float .f64 f, .nilIface]) W) := by
  obtain ⟨f, hf⟩ := atof_any m t ht s p h
  refine ⟨f, fun W hG => ?_⟩
  have H1 := Lib.hid (hf W hG)
  have H2 := Lib.hid (show Calls Tryz.prog 63 #[.string s, .int .i64 64] W (RetV (.tuple #[.float .f64 f, .int .i64 s.size, .nilIface]) W) by
    go_enter Tryz.func63, Tryz.ntmps63
    go_wp2_with (first
      | (go_at_call 73; (with_reducible refine H1.out.mono ?_); rintro e w3 ⟨rfl, hB3⟩; have HB3 := Lib.hid hB3; clear hB3)
      | fail)
    exact bodyPost_ret (v := .tuple #[.float .f64 f, .int .i64 s.size, .nilIface]) (by simp [results, Tryz.results63, go_sem]) rfl ⟨rfl, HB3.out⟩)
  have H3 := Lib.hid (show Calls Tryz.prog 57 #[.string s, .int .i64 64] W (RetV (.tuple #[.float .f64 f, .nilIface]) W) by
    go_enter Tryz.func57, Tryz.ntmps57
    go_wp2_with (first
      | (go_at_call 63; (with_reducible refine H2.out.mono ?_); rintro e w3 ⟨rfl, hB3⟩; have HB3 := Lib.hid hB3; clear hB3)
      | fail)
    exact bodyPost_ret (v := .tuple #[.float .f64 f, .nilIface]) (by simp [results, Tryz.results57, go_sem]) rfl ⟨rfl, HB3.out⟩)
  go_enter Tryz.func47, Tryz.ntmps47
  go_wp2_with (first
    | (go_at_call 57; (with_reducible refine H3.out.mono ?_); rintro e w3 ⟨rfl, hB3⟩; have HB3 := Lib.hid hB3; clear hB3)
    | fail)
  exact bodyPost_ret (v := .tuple #[.float .f64 f, .nilIface]) (by simp [results, Tryz.results47, go_sem]) rfl ⟨rfl, HB3.out⟩
end Go.Proofs.YtacodkmbefhicaaGreatDoor
