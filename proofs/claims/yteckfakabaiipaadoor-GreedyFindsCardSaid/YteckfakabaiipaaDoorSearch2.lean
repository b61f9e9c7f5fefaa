/- The walk of package greedy's Search, where the first set may have m things. -/
import Derived.Test.YteckfakabaiipaaDoorSearch
namespace Go.Proofs.YteckfakabaiipaaDoor
open Go.RowKit

set_option maxRecDepth 100000 in
set_option maxHeartbeats 2000000 in
theorem search_ok2 (a : Option Addr) (cap : Nat) (zs : List Int) (left : Int) (F : FuncId) (B : Array Value) (P : Nat → Int) (m k : Int) (w0 w : World) (hl : zs.length ≤ 16) (h0 : 0 ≤ left) (h1 : left ≤ 9223372036854775807) (hz : IntsAt w a zs) (hT : TabIn w)
    (hP : Prices w0 F B P) (hw : Below w0.heap.size w0 w) (hs0 : w0.heap.size ≤ w.heap.size) (hm0 : 0 ≤ m) (hm3 : m ≤ 3) (hk0 : 0 ≤ k) (hmk : ¬ k < m) :
    Calls Tryd.prog 9 #[.slice a zs.length cap, .int .i64 left, .int .i64 m, .int .i64 k, .func (.func F) B #[]] w (RetV (.tuple #[.int .u32 (growS zs left P k (seedS zs left P m (2 ^ zs.length))), .int .i64 0]) w) := by
  have hcf := hP.1
  have hsl : seedS zs left P m (2 ^ zs.length) < 65536 := by
    have h1 := seedS_lt zs left P m (2 ^ zs.length) Nat.one_le_two_pow
    have h2 : 2 ^ zs.length ≤ 65536 := Nat.pow_le_pow_right (n := 2) (by omega) hl
    omega
  have c18 := fun W h2 h3 h4 h5 => seed_any a cap zs left F B P m w0 W hl h0 h1 h2 h3 hP h4 h5
  generalize seedS zs left P m (2 ^ zs.length) = s0 at hsl c18 ⊢
  have HP := Lib.hid hP.2
  clear hP
  have C18 := Lib.hid c18
  clear c18
  have hfn := func_nil
  have hl' : ¬ (16 : Int) < (zs.length : Int) := by omega
  go_enter Tryd.func9, Tryd.ntmps9
  have hw2 : Below w.heap.size w (w.alloc (.cells #[.slice a zs.length cap, .int .i64 left, .func (.func F) B #[]] 46)) := (Below.refl _ _).alloc (Nat.le_refl _) _
  go_wp2_with (first
    | (go_at_call 18; (with_reducible refine (C18.out _ ?_ ?_ ?_ ?_).mono ?_); exact hz.keep hw2; exact hT.keep hw2; exact hw.trans (hw2.mono hs0); (simp; omega); rintro e w1 ⟨rfl, hB⟩))
  have HF := FindKept.start s0 (P s0) hB
  clear hB hw2
  go_loopw [14] (fun _ wr => ∃ s : Nat, s < 65536 ∧ FindKept w wr w1.heap.size (.slice a zs.length cap) (.func (.func F) B #[]) left s (P s) ∧ Hid (growS zs left P k s = growS zs left P k s0)) (fun _ wr => 65536 - setIn wr w1.heap.size)
  case atStart => exact ⟨s0, hsl, HF, Lib.hid rfl⟩
  case round =>
    obtain ⟨s, hs, HK, HG⟩ := hrel
    have FK := HK
    obtain ⟨e0, e1, e2, e5, e6, f1, l0, l1, hbb⟩ := HK
    have HM := Lib.hid (setIn_of e5)
    by_cases hk : (pc s : Int) < k
    · go_wp2_with (first
        | (go_at_call 19; (with_reducible refine (ones_v _ _ (by omega)).mono ?_); rintro e w2 ⟨rfl, hB⟩; have FK := FK.call hB l1; clear hB; have SKc := FK; obtain ⟨e0, e1, e2, e5, e6, f1, l0, l1, hbb⟩ := SKc))
      have NK := NextKept.start FK
      go_loopw [58] (fun i wx => ∃ j : Nat, j ≤ zs.length ∧ i = .int .i64 j ∧ NextKept w wx w1.heap.size w2.heap.size (.slice a zs.length cap) (.func (.func F) B #[]) left s (P s) (addS zs left P s j) (P (addS zs left P s j))) (fun i _ => zs.length - (intOf i).toNat)
      case atStart => exact ⟨0, Nat.zero_le _, rfl, NK⟩
      case round =>
        clear NK
        obtain ⟨j, hj, rfl, NK⟩ := hrel
        obtain ⟨ha1, ha2, ha3⟩ := addS_bd zs left P s hs j (by omega)
        have HA := Lib.hid (show addS zs left P s (j + 1) = if s ||| 2 ^ j = s then addS zs left P s j else if fitsL zs 0 left (s ||| 2 ^ j) then (if P (s ||| 2 ^ j) < P (addS zs left P s j) then s ||| 2 ^ j else addS zs left P s j) else addS zs left P s j from rfl)
        obtain ⟨t, htd⟩ : ∃ t, t = addS zs left P s j := ⟨_, rfl⟩
        rw [← htd] at NK ha2
        have HTD := Lib.hid htd
        clear htd ha1 ha3
        clear e0 e1 e2 e5 e6 f1 l0 l1 hbb
        have NKc := NK
        obtain ⟨⟨e0, e1, e2, e5, e6, f1, l0, l1, hbb⟩, g0, g1, g2, l2, l3⟩ := NKc
        by_cases hlt : j < zs.length
        · have hpj : 2 ^ j < 2 ^ 16 := Nat.pow_lt_pow_right (by omega) (by omega)
          obtain ⟨T, hTd⟩ : ∃ T, T = s ||| 2 ^ j := ⟨_, rfl⟩
          have hT65 : T < 65536 := by rw [hTd]; exact Nat.or_lt_two_pow (n := 16) hs hpj
          have hor : bits .or .u32 (s : Int) ((2 : Int) ^ j % 4294967296) = (T : Int) := by
            have e : (2 : Int) ^ j % 4294967296 = ((2 ^ j : Nat) : Int) := by
              have e2 : (2 : Int) ^ j = ((2 ^ j : Nat) : Int) := by simp
              rw [e2]
              generalize 2 ^ j = q at hpj
              omega
            rw [e, u32_or_nat s (2 ^ j) (by omega) (by generalize 2 ^ j = q at hpj; omega), hTd]
          have HA2 := HA.out
          rw [← hTd] at HA2
          have HA := Lib.hid HA2
          clear HA2
          clear hpj
          have HTD2 := Lib.hid hTd
          clear hTd
          by_cases c1 : T = s
          · have c1b : (((T : Nat) : Int) == ((s : Nat) : Int)) = true := by rw [c1]; exact beq_self_eq_true _
            have C1 := Lib.hid c1
            clear c1
            have HE := Lib.hid (show addS zs left P s (j + 1) = t by rw [HA.out, if_pos C1.out]; exact HTD.out.symm)
            go_wp2_with fail
            go_quiet (fail)
            have NK := NK.drewN nq
            go_wp2_with (first
            | (go_at_call 20; (with_reducible refine (fits_all _ _ _ _ _ _ _ hl (by omega) h0 h1 ?_).mono ?_); exact hz.keep NK.1.below; rintro e w3 ⟨rfl, hB⟩; have NK := NK.call hB; clear hB; have NKc := NK; obtain ⟨⟨e0, e1, e2, e5, e6, f1, l0, l1, hbb⟩, g0, g1, g2, l2, l3⟩ := NKc)
            | ((with_reducible refine Calls.mono (HP.out T _ (by omega) ?_) ?_); exact hw.trans (NK.1.below.mono hs0); rintro e w3 ⟨rfl, hB⟩; have NK := NK.call hB; clear hB; have NKc := NK; obtain ⟨⟨e0, e1, e2, e5, e6, f1, l0, l1, hbb⟩, g0, g1, g2, l2, l3⟩ := NKc))
            go_roundw
            case rel => exact ⟨j + 1, by omega, by go_num, by rw [HE.out]; exact NK⟩
            case measure => simp [intOf]; omega
          · have c1b : (((T : Nat) : Int) == ((s : Nat) : Int)) = false := by rw [beq_eq_false_iff_ne]; omega
            by_cases hf : fitsL zs 0 left T = true
            · by_cases c2 : P T < P t
              · have HE := Lib.hid (show addS zs left P s (j + 1) = T by rw [HA.out, if_neg c1, if_pos hf, ← HTD.out, if_pos c2])
                go_wp2_with fail
                go_quiet (fail)
                have NK := NK.drewN nq
                go_wp2_with (first
            | (go_at_call 20; (with_reducible refine (fits_all _ _ _ _ _ _ _ hl (by omega) h0 h1 ?_).mono ?_); exact hz.keep NK.1.below; rintro e w3 ⟨rfl, hB⟩; have NK := NK.call hB; clear hB; have NKc := NK; obtain ⟨⟨e0, e1, e2, e5, e6, f1, l0, l1, hbb⟩, g0, g1, g2, l2, l3⟩ := NKc)
            | ((with_reducible refine Calls.mono (HP.out T _ (by omega) ?_) ?_); exact hw.trans (NK.1.below.mono hs0); rintro e w3 ⟨rfl, hB⟩; have NK := NK.call hB; clear hB; have NKc := NK; obtain ⟨⟨e0, e1, e2, e5, e6, f1, l0, l1, hbb⟩, g0, g1, g2, l2, l3⟩ := NKc))
                go_roundw
                case rel => exact ⟨j + 1, by omega, by go_num, by rw [HE.out]; exact NK.set _ _⟩
                case measure => simp [intOf]; omega
              · have HE := Lib.hid (show addS zs left P s (j + 1) = t by rw [HA.out, if_neg c1, if_pos hf, ← HTD.out, if_neg c2])
                go_wp2_with fail
                go_quiet (fail)
                have NK := NK.drewN nq
                go_wp2_with (first
            | (go_at_call 20; (with_reducible refine (fits_all _ _ _ _ _ _ _ hl (by omega) h0 h1 ?_).mono ?_); exact hz.keep NK.1.below; rintro e w3 ⟨rfl, hB⟩; have NK := NK.call hB; clear hB; have NKc := NK; obtain ⟨⟨e0, e1, e2, e5, e6, f1, l0, l1, hbb⟩, g0, g1, g2, l2, l3⟩ := NKc)
            | ((with_reducible refine Calls.mono (HP.out T _ (by omega) ?_) ?_); exact hw.trans (NK.1.below.mono hs0); rintro e w3 ⟨rfl, hB⟩; have NK := NK.call hB; clear hB; have NKc := NK; obtain ⟨⟨e0, e1, e2, e5, e6, f1, l0, l1, hbb⟩, g0, g1, g2, l2, l3⟩ := NKc))
                go_roundw
                case rel => exact ⟨j + 1, by omega, by go_num, by rw [HE.out]; exact NK⟩
                case measure => simp [intOf]; omega
            · have hf' : fitsL zs 0 left T = false := by simpa using hf
              clear hf
              have HE := Lib.hid (show addS zs left P s (j + 1) = t by rw [HA.out, if_neg c1, if_neg (by simp [hf'])]; exact HTD.out.symm)
              go_wp2_with fail
              go_quiet (fail)
              have NK := NK.drewN nq
              go_wp2_with (first
            | (go_at_call 20; (with_reducible refine (fits_all _ _ _ _ _ _ _ hl (by omega) h0 h1 ?_).mono ?_); exact hz.keep NK.1.below; rintro e w3 ⟨rfl, hB⟩; have NK := NK.call hB; clear hB; have NKc := NK; obtain ⟨⟨e0, e1, e2, e5, e6, f1, l0, l1, hbb⟩, g0, g1, g2, l2, l3⟩ := NKc)
            | ((with_reducible refine Calls.mono (HP.out T _ (by omega) ?_) ?_); exact hw.trans (NK.1.below.mono hs0); rintro e w3 ⟨rfl, hB⟩; have NK := NK.call hB; clear hB; have NKc := NK; obtain ⟨⟨e0, e1, e2, e5, e6, f1, l0, l1, hbb⟩, g0, g1, g2, l2, l3⟩ := NKc))
              go_roundw
              case rel => exact ⟨j + 1, by omega, by go_num, by rw [HE.out]; exact NK⟩
              case measure => simp [intOf]; omega
        · have HA3 := Lib.hid (show addS zs left P s zs.length = t by rw [HTD.out]; congr 1; omega)
          clear HA HTD
          by_cases c1 : t = s
          · have HR := Lib.hid (show growS zs left P k s0 = s by
              rw [← HG.out, growS, dif_neg]
              rw [HA3.out]; omega)
            subst c1
            go_wp2
            go_ret2
            exact ⟨ret_found HR.out.symm, NK.1.below⟩
          · have hne : ¬ ((t : Int) = (s : Int)) := by omega
            have HR := Lib.hid (show s < t ∧ growS zs left P k t = growS zs left P k s0 by
              have hb := addS_bd zs left P s hs zs.length hl
              rw [HA3.out] at hb
              have hlt2 : s < t := by omega
              refine ⟨hlt2, ?_⟩
              rw [← HG.out]
              conv => rhs; rw [growS, dif_pos (by rw [HA3.out]; exact ⟨hk, hlt2, ha2⟩), HA3.out])
            go_wp2
            go_roundw
            case rel => exact ⟨t, ha2, NK.1.set t (P t), Lib.hid HR.out.2⟩
            case measure =>
              have h9 := setIn_of (NK.1.set t (P t)).2.2.2.1
              have h8 := HM.out
              have h7 := HR.out.1
              rw [h9, h8]
              omega
    · have HR := Lib.hid (show growS zs left P k s0 = s by
        rw [← HG.out, growS, dif_neg (fun h => hk h.1)])
      go_wp2_with (first
        | (go_at_call 19; (with_reducible refine (ones_v _ _ (by omega)).mono ?_); rintro e w2 ⟨rfl, hB⟩; have FK := FK.call hB l1; clear hB; have SKc := FK; obtain ⟨e0, e1, e2, e5, e6, f1, l0, l1, hbb⟩ := SKc))
      go_ret2
      exact ⟨ret_found HR.out.symm, FK.below⟩

/-- the call returns this set and no error; of what was there nothing turns -/
theorem search_all (a : Option Addr) (cap : Nat) (zs : List Int) (left : Int) (F : FuncId) (B : Array Value) (P : Nat → Int) (m k : Int) (w0 w : World) (hl : zs.length ≤ 16) (h0 : 0 ≤ left) (h1 : left ≤ 9223372036854775807) (hz : IntsAt w a zs) (hT : TabIn w)
    (hP : Prices w0 F B P) (hw : Below w0.heap.size w0 w) (hs0 : w0.heap.size ≤ w.heap.size) (hm0 : 0 ≤ m) (hm3 : m ≤ 3) (hk0 : 0 ≤ k) :
    Calls Tryd.prog 9 #[.slice a zs.length cap, .int .i64 left, .int .i64 m, .int .i64 k, .func (.func F) B #[]] w (RetV (.tuple #[.int .u32 (growS zs left P k (seedS zs left P (min m k) (2 ^ zs.length))), .int .i64 0]) w) := by
  by_cases hmk : k < m
  · rw [show min m k = k by omega]
    exact search_ok a cap zs left F B P m k w0 w hl h0 h1 hz hT hP hw hs0 hm0 hm3 hk0 hmk
  · rw [show min m k = m by omega]
    exact search_ok2 a cap zs left F B P m k w0 w hl h0 h1 hz hT hP hw hs0 hm0 hm3 hk0 hmk
end Go.Proofs.YteckfakabaiipaaDoor
