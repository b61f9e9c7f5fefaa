/- The walk of the document's word. -/
import Derived.Test.YtcgpflkaejbkhaaGreatDoorJI
import Derived.Test.YtcgpflkaejbkhaaGreatDoorJG
namespace Go.Proofs.YtcgpflkaejbkhaaGreatDoor
open Go.RowKit

/-- the word from a place on -/
def RWordP (s : ByteArray) (p : Nat) (w : World) (e : Ending) (w' : World) : Prop := ∃ (k er : Int) (S : ByteArray) (n : Nat), e = .returned (wordV k S p ((p + n : Nat) : Int) er) ∧ Below w.heap.size w w' ∧ WordAt (s.data.toList.drop p) k S n er
theorem drop_first {s : ByteArray} {p : Nat} (h0 : p < s.size) : ∃ r, s.data.toList.drop p = s[p] :: r := by
  refine ⟨s.data.toList.drop (p + 1), ?_⟩
  rw [List.drop_eq_getElem_cons (by show p < s.data.toList.length; rw [Array.length_toList]; exact h0)]
  rfl
theorem rother_word {s : ByteArray} {p : Nat} {w : World} (h0 : p < s.size) (hl : letP (s[p].toNat : Int) = false) {e : Ending} {w' : World} (h : ROther s p w e w') : RWordP s p w e w' := by
  obtain ⟨k, er, S, n, h1, h2, h3⟩ := h
  have hsl : s.data.toList.length = s.size := by show _ = s.data.size; simp
  obtain ⟨r, hr⟩ := drop_first h0
  refine ⟨k, er, S, n, h1, h2, Or.inr (Or.inr ⟨s[p], r, hr, hl, fun he => ?_⟩)⟩
  obtain ⟨g1, g2, g3, g4⟩ := h3 he
  exact ⟨g1, g2, g3, by rw [List.length_drop, hsl]; omega⟩
set_option maxRecDepth 100000 in
set_option maxHeartbeats 8000000 in
theorem rword_end (s : ByteArray) (p : Nat) (w : World) (h0 : p = s.size) : Calls Tryz.prog 99 #[.string s, .int .i64 (p : Int)] w (RWordP s p w) := by
  have HE := Lib.hid (show s.data.toList.drop p = [] by rw [List.drop_eq_nil_iff]; show s.data.toList.length ≤ p; rw [Array.length_toList, h0]; exact Nat.le_refl _)
  subst h0
  go_enter Tryz.func99, Tryz.ntmps99
  go_wp2_with fail
  exact bodyPost_ret (v := wordV 0 ⟨#[]⟩ s.size ((s.size + 0 : Nat) : Int) 0) (by simp [results, Tryz.results99, go_sem, wordV, tokV]) rfl ⟨0, 0, ⟨#[]⟩, 0, rfl, (below1 w _).alloc (by simp) _, Or.inl ⟨HE.out, rfl, rfl⟩⟩
set_option maxRecDepth 100000 in
set_option maxHeartbeats 8000000 in
theorem rword_digit (m : Int) (t : Nat → Nat) (ht : ∀ j, j < 23 → finD (Ieee.double.read (t j)) = true) (s : ByteArray) (p : Nat) (w : World) (hG : Glob m t w) (h0 : p < s.size) (hs : s.size ≤ 12) (hd : digP (s[p].toNat : Int) = true) : Calls Tryz.prog 99 #[.string s, .int .i64 (p : Int)] w (ROther s p w) := by
  have HNU := Lib.hid (show ∀ W, Glob m t W → Calls Tryz.prog 118 #[.string s, .int .i64 (p : Int)] W (ROther s p W) from fun W g => rnumber_any m t ht s p W g h0 hs hd)
  have HG := Lib.hid hG
  obtain ⟨c, hc⟩ : ∃ c, c = s[p] := ⟨_, rfl⟩
  have hkc : s[p] = c := hc.symm
  rw [hkc] at hd
  have hc255 : (c.toNat : Int) ≤ 255 := by have := c.toNat_lt; omega
  have hc0 : (0 : Int) ≤ (c.toNat : Int) := by omega
  have hp : ((p : Int) == (s.size : Int)) = false := by rw [beq_eq_false_iff_ne]; omega
  have HK := Lib.hid (fun W => kind_any (c.toNat : Int) W)
  rw [kindZ_dig (dig_not_let hd) hd] at HK
  have HST := Lib.hid (TwoTok.start w 0 ⟨#[]⟩ p)
  clear hd hc hG ht
  go_enter Tryz.func99, Tryz.ntmps99
  go_wp2_with (first
    | (go_at_call 98; (with_reducible refine (HK.out _).mono ?_); rintro e' w4 ⟨rfl, rfl⟩)
    | (go_at_call 118; (with_reducible refine (HNU.out _ (HG.out.keep HST.out.below)).mono ?_); rintro e w4 ⟨k, er, S, n, rfl, hB4, hP⟩; have HP := Lib.hid hP; have HT := Lib.hid (HST.out.keep hB4); obtain ⟨q0, q1, q2, f0, f1, f2⟩ := HT.out.ans; clear hB4 hP; unfold wordV tokV)
    | fail)
  refine bodyPost_ret (v := wordV k S p ((p + n : Nat) : Int) er) (by simp [results, Tryz.results99, go_sem, q0, q1, q2, wordV, tokV]) rfl ⟨k, er, S, n, rfl, HT.out.done _ _ _, HP.out⟩
set_option maxRecDepth 100000 in
set_option maxHeartbeats 8000000 in
theorem rword_quote (s : ByteArray) (p : Nat) (w : World) (h0 : p < s.size) (hs : s.size ≤ 12) (hq : s[p] = 39) : Calls Tryz.prog 99 #[.string s, .int .i64 (p : Int)] w (ROther s p w) := by
  have HNU := Lib.hid (show ∀ W, Calls Tryz.prog 119 #[.string s, .int .i64 (p : Int)] W (ROther s p W) from fun W => rtext_any s p W h0 hs)
  have hp : ((p : Int) == (s.size : Int)) = false := by rw [beq_eq_false_iff_ne]; omega
  have HK := Lib.hid (show ∀ W, Calls Tryz.prog 98 #[.int .u8 39] W (SameV (.int .i64 0) W) from fun W => kind_any 39 W)
  have hc39 : (((39 : UInt8).toNat : Nat) : Int) = 39 := rfl
  have HST := Lib.hid (TwoTok.start w 0 ⟨#[]⟩ p)
  go_enter Tryz.func99, Tryz.ntmps99
  go_wp2_with (first
    | (go_at_call 98; (with_reducible refine (HK.out _).mono ?_); rintro e' w4 ⟨rfl, rfl⟩)
    | (go_at_call 119; (with_reducible refine (HNU.out _).mono ?_); rintro e w4 ⟨k, er, S, n, rfl, hB4, hP⟩; have HP := Lib.hid hP; have HT := Lib.hid (HST.out.keep hB4); obtain ⟨q0, q1, q2, f0, f1, f2⟩ := HT.out.ans; clear hB4 hP; unfold wordV tokV)
    | fail)
  refine bodyPost_ret (v := wordV k S p ((p + n : Nat) : Int) er) (by simp [results, Tryz.results99, go_sem, q0, q1, q2, wordV, tokV]) rfl ⟨k, er, S, n, rfl, HT.out.done _ _ _, HP.out⟩
set_option maxRecDepth 100000 in
set_option maxHeartbeats 8000000 in
theorem rword_letter (s : ByteArray) (p : Nat) (w : World) (h0 : p < s.size) (hs : s.size ≤ 12) (hl : letP (s[p].toNat : Int) = true) : Calls Tryz.prog 99 #[.string s, .int .i64 (p : Int)] w (RWordP s p w) := by
  have hp : ((p : Int) == (s.size : Int)) = false := by rw [beq_eq_false_iff_ne]; omega
  have hsl : s.data.toList.length = s.size := by show _ = s.data.size; simp
  obtain ⟨c, hc⟩ : ∃ c, c = s[p] := ⟨_, rfl⟩
  have hkc : s[p] = c := hc.symm
  rw [hkc] at hl
  have hc255 : (c.toNat : Int) ≤ 255 := by have := c.toNat_lt; omega
  have hc0 : (0 : Int) ≤ (c.toNat : Int) := by omega
  have HK := Lib.hid (fun W => kind_any (c.toNat : Int) W)
  rw [kindZ_let hl] at HK
  obtain ⟨n, hn⟩ : ∃ n, n = spanR namP (s.data.toList.drop p) := ⟨_, rfl⟩
  have HN := Lib.hid hn
  have HSL := Lib.hid hsl
  have HC := Lib.hid (show ∃ r, s.data.toList.drop p = c :: r from by rw [hc]; exact drop_first h0)
  have HL := Lib.hid hl
  have hle := spanR_le namP (s.data.toList.drop p)
  rw [← hn, List.length_drop, hsl] at hle
  have hn1 : 1 ≤ n := by
    obtain ⟨r, hr⟩ := HC.out
    rw [hn, hr]
    unfold spanR
    rw [List.takeWhile_cons, if_pos (by unfold namP; rw [hl]; rfl)]
    simp
  clear hn hsl hc hl
  go_enter Tryz.func99, Tryz.ntmps99
  go_wp2_with (first
    | (go_at_call 98; (with_reducible refine (HK.out _).mono ?_); rintro e' w4 ⟨rfl, rfl⟩)
    | fail)
  go_loop [8] (fun i => ∃ k : Nat, p ≤ k ∧ k ≤ s.size ∧ i = .int .i64 k ∧ Hid (∀ j d, j < k - p → (s.data.toList.drop p)[j]? = some d → namP (d.toNat : Int) = true)) (fun i => s.size - (intOf i).toNat)
  case atStart => exact ⟨p, Nat.le_refl _, Nat.le_of_lt h0, rfl, Lib.hid (fun j d h => absurd h (by omega))⟩
  case round =>
    obtain ⟨k, hpk, hk, rfl, HC1⟩ := hrel
    by_cases hgo : ∃ h : k < s.size, namP (s[k].toNat : Int) = true
    · obtain ⟨hlt, hq⟩ := hgo
      obtain ⟨d, hd⟩ : ∃ d, d = s[k] := ⟨_, rfl⟩
      have hkd : s[k] = d := hd.symm
      rw [hkd] at hq
      have HC2 := Lib.hid (show ∀ j d, j < k + 1 - p → (s.data.toList.drop p)[j]? = some d → namP (d.toNat : Int) = true from fun j d' h1 h2 => by
        by_cases e : j = k - p
        · subst e
          rw [List.getElem?_drop, show p + (k - p) = k by omega, Array.getElem?_toList, Array.getElem?_eq_getElem (show k < s.data.size from hlt)] at h2
          cases h2
          exact hkd ▸ hq
        · exact HC1.out j d' (by omega) h2)
      have HKD := Lib.hid (fun W => kind_any (d.toNat : Int) W)
      have h1 := kindZ_is1 (d.toNat : Int)
      have h2 := kindZ_is2 (d.toNat : Int)
      have hd255 : (d.toNat : Int) ≤ 255 := by have := d.toNat_lt; omega
      have hd0 : (0 : Int) ≤ (d.toNat : Int) := by omega
      have hor : letP (d.toNat : Int) = true ∨ (letP (d.toNat : Int) = false ∧ digP (d.toNat : Int) = true) := by
        unfold namP at hq
        cases h : letP (d.toNat : Int) with
        | true => exact Or.inl rfl
        | false => rw [h] at hq; exact Or.inr ⟨rfl, hq⟩
      generalize kindZ (d.toNat : Int) = z at HKD h1 h2
      clear hq hd
      rcases hor with ho | ⟨ho, ho2⟩
      · rw [ho] at h1
        clear h2
        go_wp2_with (first
          | (go_at_call 98; (with_reducible refine (HKD.out _).mono ?_); rintro e' w4 ⟨rfl, rfl⟩)
          | fail)
        go_round
        case rel => exact ⟨k + 1, by omega, by omega, by go_num, HC2⟩
        case measure => simp [intOf] <;> omega
      · rw [ho] at h1
        rw [ho2] at h2
        go_wp2_with (first
          | (go_at_call 98; (with_reducible refine (HKD.out _).mono ?_); rintro e' w4 ⟨rfl, rfl⟩)
          | fail)
        go_round
        case rel => exact ⟨k + 1, by omega, by omega, by go_num, HC2⟩
        case measure => simp [intOf] <;> omega
    · have HE := Lib.hid (show k = p + n by
        by_cases hlt : k < s.size
        · have hq : namP (s[k].toNat : Int) = false := by
            cases h : namP (s[k].toNat : Int) with
            | false => rfl
            | true => exact absurd ⟨hlt, h⟩ hgo
          have h := span_stop namP (l := s.data.toList.drop p) (k := k - p) (c := s[k]) HC1.out (by rw [List.getElem?_drop, show p + (k - p) = k by omega, Array.getElem?_toList]; exact Array.getElem?_eq_getElem hlt) hq
          rw [HN.out, h]; omega
        · have h := span_all namP (l := s.data.toList.drop p) (fun j d h1 h2 => HC1.out j d (by rw [List.length_drop, HSL.out] at h1; omega) h2)
          rw [HN.out, h, List.length_drop, HSL.out]; omega)
      have hno : (((k : Int) < (s.size : Int)) = False) ∨ ∃ (h : k < s.size) (d : UInt8), s[k] = d ∧ (kindZ (d.toNat : Int) == 1) = false ∧ (kindZ (d.toNat : Int) == 2) = false := by
        by_cases h : k < s.size
        · right
          refine ⟨h, _, rfl, ?_, ?_⟩
          · rw [kindZ_is1]
            cases h3 : letP (s[k].toNat : Int) with
            | false => rfl
            | true => exact absurd ⟨h, by unfold namP; rw [h3]; rfl⟩ hgo
          · rw [kindZ_is2]
            cases h3 : digP (s[k].toNat : Int) with
            | false => rfl
            | true => exact absurd ⟨h, by unfold namP; rw [h3, Bool.or_true]⟩ hgo
        · exact Or.inl (eq_false (by omega))
      obtain ⟨V, hV⟩ : ∃ V, V = s.extract p k := ⟨_, rfl⟩
      have HVL := Lib.hid (show V.data.toList = (s.data.toList.drop p).take n by
        rw [hV, ByteArray.data_extract, Array.toList_extract, List.extract_eq_take_drop, HE.out, show p + n - p = n by omega])
      have hw2 : ∀ W, (Instr.slice 9 (.string s) (some (.int .i64 (p : Int))) (some (.int .i64 (k : Int))) none).run Tryz.prog W = .ok (.string V) W := fun W => by rw [hV]; exact slice_str s _ _ p k rfl rfl (by omega) (by omega) W
      have HVS := Lib.hid (show V.size ≤ 200 by rw [hV, ByteArray.size_extract]; omega)
      have HKW := Lib.hid (fun (W : World) => rkeyword_any V W HVS.out)
      have HST := Lib.hid (TwoTok.start w 1 V p).drew
      have HEN := Lib.hid (show ((p + n : Nat) : Int) = (k : Int) by have := HE.out; omega)
      have h12 : ((12 : Int) < (k : Int) - (p : Int)) = False := eq_false (by omega)
      have HWA := Lib.hid (show kwR V.data.toList = [] → WordAt (s.data.toList.drop p) 1 V n 0 from fun h => by
        obtain ⟨r, hr⟩ := HC.out
        refine Or.inr (Or.inl ⟨c, r, hr, HL.out, HN.out, hn1, by rw [List.length_drop, HSL.out]; omega, rfl, Or.inr ⟨by rw [← HVL.out]; exact h, rfl, HVL.out⟩⟩))
      have HWB := Lib.hid (show kwR V.data.toList ≠ [] → ∀ T, WordAt (s.data.toList.drop p) 2 T n 0 from fun h T => by
        obtain ⟨r, hr⟩ := HC.out
        refine Or.inr (Or.inl ⟨c, r, hr, HL.out, HN.out, hn1, by rw [List.length_drop, HSL.out]; omega, rfl, Or.inl ⟨by rw [← HVL.out]; exact h, rfl⟩⟩))
      generalize kwR V.data.toList = ku at HKW HWA HWB
      clear hgo hV
      by_cases hk0 : ku = []
      · subst hk0
        have HWA2 := Lib.hid (HWA.out rfl)
        clear HWA HWB
        have HKW := Lib.hid (show ∀ W, Calls Tryz.prog 117 #[.string V] W (RetV (.string ⟨#[]⟩) W) from HKW.out)
        rcases hno with hno | ⟨hlt, d, hd, hd1, hd2⟩
        · go_wp2_with fail
          go_region
          go_wp2_with (first
            | (go_at_call 117; (with_reducible refine (HKW.out _).mono ?_); rintro e' w5 ⟨rfl, hB5⟩; have HT := Lib.hid (HST.out.keep hB5); obtain ⟨q0, q1, q2, f0, f1, f2⟩ := HT.out.ans; obtain ⟨r0, r1, r2, g0, g1, g2⟩ := HT.out.tok; clear hB5)
            | fail)
          refine bodyPost_ret (v := wordV 1 V p k 0) (by simp [results, Tryz.results99, go_sem, q0, q1, q2, wordV, tokV]) rfl ⟨1, 0, V, n, by rw [HEN.out], HT.out.done _ _ _, HWA2.out⟩
        · have hd255 : (d.toNat : Int) ≤ 255 := by have := d.toNat_lt; omega
          have hd0 : (0 : Int) ≤ (d.toNat : Int) := by omega
          have HKD := Lib.hid (fun W => kind_any (d.toNat : Int) W)
          generalize kindZ (d.toNat : Int) = z at HKD hd1 hd2
          go_wp2_with (first
            | (go_at_call 98; (with_reducible refine (HKD.out _).mono ?_); rintro e' w4 ⟨rfl, rfl⟩)
            | fail)
          go_region
          go_wp2_with (first
            | (go_at_call 117; (with_reducible refine (HKW.out _).mono ?_); rintro e' w5 ⟨rfl, hB5⟩; have HT := Lib.hid (HST.out.keep hB5); obtain ⟨q0, q1, q2, f0, f1, f2⟩ := HT.out.ans; obtain ⟨r0, r1, r2, g0, g1, g2⟩ := HT.out.tok; clear hB5)
            | fail)
          refine bodyPost_ret (v := wordV 1 V p k 0) (by simp [results, Tryz.results99, go_sem, q0, q1, q2, wordV, tokV]) rfl ⟨1, 0, V, n, by rw [HEN.out], HT.out.done _ _ _, HWA2.out⟩
      · obtain ⟨KU, hKU⟩ : ∃ KU : ByteArray, KU = ⟨ku.toArray⟩ := ⟨_, rfl⟩
        have hne : (KU.toList == []) = false := text_ne (by rw [hKU]; show 0 < ku.toArray.size; simp; exact List.length_pos_iff.2 hk0)
        have HWB := Lib.hid (HWB.out hk0 KU)
        rw [← hKU] at HKW
        clear hk0 hKU
        rcases hno with hno | ⟨hlt, d, hd, hd1, hd2⟩
        · go_wp2_with fail
          go_region
          go_wp2_with (first
            | (go_at_call 117; (with_reducible refine (HKW.out _).mono ?_); rintro e' w5 ⟨rfl, hB5⟩; have HT := Lib.hid (HST.out.keep hB5); obtain ⟨q0, q1, q2, f0, f1, f2⟩ := HT.out.ans; obtain ⟨r0, r1, r2, g0, g1, g2⟩ := HT.out.tok; clear hB5)
            | fail)
          refine bodyPost_ret (v := wordV 2 KU p k 0) (by simp [results, Tryz.results99, go_sem, q0, q1, q2, wordV, tokV]) rfl ⟨2, 0, KU, n, by rw [HEN.out], ((HT.out.setK 2).setS KU).done _ _ _, HWB.out⟩
        · have hd255 : (d.toNat : Int) ≤ 255 := by have := d.toNat_lt; omega
          have hd0 : (0 : Int) ≤ (d.toNat : Int) := by omega
          have HKD := Lib.hid (fun W => kind_any (d.toNat : Int) W)
          generalize kindZ (d.toNat : Int) = z at HKD hd1 hd2
          go_wp2_with (first
            | (go_at_call 98; (with_reducible refine (HKD.out _).mono ?_); rintro e' w4 ⟨rfl, rfl⟩)
            | fail)
          go_region
          go_wp2_with (first
            | (go_at_call 117; (with_reducible refine (HKW.out _).mono ?_); rintro e' w5 ⟨rfl, hB5⟩; have HT := Lib.hid (HST.out.keep hB5); obtain ⟨q0, q1, q2, f0, f1, f2⟩ := HT.out.ans; obtain ⟨r0, r1, r2, g0, g1, g2⟩ := HT.out.tok; clear hB5)
            | fail)
          refine bodyPost_ret (v := wordV 2 KU p k 0) (by simp [results, Tryz.results99, go_sem, q0, q1, q2, wordV, tokV]) rfl ⟨2, 0, KU, n, by rw [HEN.out], ((HT.out.setK 2).setS KU).done _ _ _, HWB.out⟩
end Go.Proofs.YtcgpflkaejbkhaaGreatDoor
