/- The walk of the document's number. -/
import Derived.Test.YtacodkmbefhicaaGreatDoorRText
import Derived.Test.YtacodkmbefhicaaGreatDoorNumber
namespace Go.Proofs.YtacodkmbefhicaaGreatDoor
open Go.RowKit

theorem drop_list2 (s : ByteArray) (p : Nat) : (s.extract p s.size).data.toList = s.data.toList.drop p := by
  have hsl : s.data.toList.length = s.size := by show _ = s.data.size; simp
  rw [ByteArray.data_extract, Array.toList_extract, List.extract_eq_take_drop, List.take_of_length_le]
  rw [List.length_drop, hsl]
  exact Nat.le_refl _
/-- every number with a fraction within a short text is read -/
theorem floats_at (m : Int) (t : Nat → Nat) (ht : ∀ j, j < 23 → finD (Ieee.double.read (t j)) = true) {s : ByteArray} (hs : s.size ≤ 12) {p n k : Nat} (hn1 : 1 ≤ n) (hn : n = spanR digP (s.data.toList.drop p)) (hk : k = spanR digP (s.data.toList.drop (p + n + 1))) (hd : s.data.toList[p + n]? = some 46) (hk0 : 0 < k) : p + n + 1 + k ≤ s.size ∧ ReadsF m t (s.extract p (p + n + 1 + k)) := by
  have hsl : s.data.toList.length = s.size := by show _ = s.data.size; simp
  have hle : p + n + 1 + k ≤ s.size := by
    have h := spanR_le digP (s.data.toList.drop (p + n + 1))
    rw [← hk, List.length_drop, hsl] at h
    omega
  obtain ⟨U, hU⟩ : ∃ U, U = s.extract p s.size := ⟨_, rfl⟩
  have hUL : U.data.toList = s.data.toList.drop p := by rw [hU]; exact drop_list2 s p
  have hUs : U.size = s.size - p := by rw [hU, ByteArray.size_extract]; omega
  have hUU : s.extract p (p + n + 1 + k) = U.extract 0 (n + (1 + k)) := by
    rw [hU, ByteArray.extract_extract, Nat.add_zero, Nat.min_eq_left (by omega)]
    congr 1
    omega
  rw [hUU]
  refine ⟨hle, parse_any m t ht _ n (floats_in (s := U) (k := k) (by omega) (by show _ = U.data.size; simp) hn1 (by rw [hUL]; exact hn) ?_ ?_ hk0)⟩
  · rw [hUL, List.drop_drop, show p + (n + 1) = p + n + 1 by omega]; exact hk
  · rw [hUL, List.getElem?_drop]; exact hd
set_option maxRecDepth 100000 in
set_option maxHeartbeats 8000000 in
theorem rnumber_any (m : Int) (t : Nat → Nat) (ht : ∀ j, j < 23 → finD (Ieee.double.read (t j)) = true) (s : ByteArray) (p : Nat) (w : World) (hG : Glob m t w) (h0 : p < s.size) (hs : s.size ≤ 12) (hd : digP (s[p].toNat : Int) = true) :
    Calls Tryz.prog 39 #[.string s, .int .i64 (p : Int)] w (ROther s p w) := by
  have HG := Lib.hid hG
  have HST := Lib.hid (TwoTok.start w 3 ⟨#[]⟩ p)
  have hsl : s.data.toList.length = s.size := by show _ = s.data.size; simp
  have hpf := fun n k => floats_at m t ht (s := s) hs (p := p) (n := n) (k := k)
  obtain ⟨n, hn⟩ : ∃ n, n = spanR digP (s.data.toList.drop p) := ⟨_, rfl⟩
  have hn1 : 1 ≤ n := by
    have h := span_pos digP (s.extract p s.size) (by rw [ByteArray.size_extract]; omega) (by
      have e : (s.extract p s.size)[0]'(by rw [ByteArray.size_extract]; omega) = s[p] := by simp [ByteArray.getElem_extract]
      rw [e]; exact hd)
    rw [drop_list2, ← hn] at h
    exact h
  have hle := spanR_le digP (s.data.toList.drop p)
  rw [← hn, List.length_drop, hsl] at hle
  have HD1 := Lib.hid (fun W => digits_any s p W (by omega) (by omega))
  rw [← hn] at HD1
  obtain ⟨e, he⟩ : ∃ e, e = p + n := ⟨_, rfl⟩
  rw [← he] at HD1
  have hes : e ≤ s.size := by omega
  obtain ⟨c, hc⟩ : ∃ c, c = s[p] := ⟨_, rfl⟩
  have hkc : s[p] = c := hc.symm
  have hc255 : (c.toNat : Int) ≤ 255 := by have := c.toNat_lt; omega
  have hc0 : (0 : Int) ≤ (c.toNat : Int) := by omega
  have hpe : p + 1 ≤ e := by omega
  clear hG ht hle hd hc
  by_cases hz : 1 < n ∧ c = 48
  · obtain ⟨hz1, rfl⟩ := hz
    have hz2 : (((48 : UInt8).toNat : Nat) : Int) = 48 := rfl
    have hz3 : ((p : Int) + 1 < (e : Int)) = True := eq_true (by omega)
    clear hpf hsl
    go_enter Tryz.func39, Tryz.ntmps39
    go_wp2_with (first
      | (go_at_call 53; (with_reducible refine (HD1.out _).mono ?_); rintro e w3 ⟨rfl, rfl⟩)
      | fail)
    exact bodyPost_ret (v := wordV 3 ⟨#[]⟩ p ((p + 0 : Nat) : Int) 7) (by simp [results, Tryz.results39, go_sem, wordV, tokV]) rfl ⟨3, 7, ⟨#[]⟩, 0, rfl, (below1 w _).alloc (by simp) _, fun h => absurd h (by decide)⟩
  · have hz3 : ((((p : Int) + 1 < (e : Int)) = False) ∧ ((c.toNat : Int) == 48) = true) ∨ (((c.toNat : Int) == 48) = false) := by
      by_cases h1 : c = 48
      · left
        exact ⟨eq_false (fun h => hz ⟨by omega, h1⟩), by rw [h1]; rfl⟩
      · right
        rw [beq_eq_false_iff_ne]
        intro h
        exact h1 (UInt8.toNat_inj.1 (by simp; omega))
    clear hz
    have hen : p + n + 1 = e + 1 := by omega
    have hee : s.data.toList[p + n]? = s.data.toList[e]? := by rw [he]
    have HPF := Lib.hid (fun k => hpf n k hn1 hn)
    rw [hee, hen] at HPF
    have HSZ := Lib.hid hs
    have HE := Lib.hid he
    clear hpf hee hen hsl he hn
    by_cases hdot : ∃ (h : e + 1 < s.size), s[e] = 46 ∧ digP (s[e + 1].toNat : Int) = true
    · obtain ⟨hlt, hd1, hd2⟩ := hdot
      obtain ⟨d, hd⟩ : ∃ d, d = s[e + 1] := ⟨_, rfl⟩
      have hd3 : s[e + 1] = d := hd.symm
      rw [hd3] at hd2
      have HK := Lib.hid (fun W => kind_any (d.toNat : Int) W)
      rw [kindZ_dig (dig_not_let hd2) hd2] at HK
      obtain ⟨k, hk⟩ : ∃ k, k = spanR digP (s.data.toList.drop (e + 1)) := ⟨_, rfl⟩
      have hk0 : 0 < k := by
        have h := span_pos digP (s.extract (e + 1) s.size) (by rw [ByteArray.size_extract]; omega) (by
          have e' : (s.extract (e + 1) s.size)[0]'(by rw [ByteArray.size_extract]; omega) = s[e + 1] := by simp [ByteArray.getElem_extract]
          rw [e', hd3]; exact hd2)
        rw [drop_list2, ← hk] at h
        exact h
      obtain ⟨hle2, f, hf⟩ := HPF.out k hk (by rw [Array.getElem?_toList]; show s.data[e]? = _; rw [Array.getElem?_eq_getElem (show e < s.data.size from by show e < s.size; omega)]; exact congrArg some hd1) hk0
      have HD2 := Lib.hid (fun W => digits_any s (e + 1) W (by omega) (by omega))
      rw [← hk] at HD2
      obtain ⟨e2, he2⟩ : ∃ e2, e2 = e + 1 + k := ⟨_, rfl⟩
      rw [← he2] at HD2 hf hle2
      have HD2 := Lib.hid (show ∀ W, Calls Tryz.prog 53 #[.string s, .int .i64 ((e : Int) + 1)] W (SameV (.int .i64 (e2 : Int)) W) from HD2.out)
      obtain ⟨V, hV⟩ : ∃ V, V = s.extract p e2 := ⟨_, rfl⟩
      rw [← hV] at hf
      have HF := Lib.hid hf
      have hw2 : ∀ W, (Instr.slice 9 (.string s) (some (.int .i64 (p : Int))) (some (.int .i64 (e2 : Int))) none).run Tryz.prog W = .ok (.string V) W := fun W => by rw [hV]; exact slice_str s _ _ p e2 rfl rfl (by omega) (by omega) W
      have h46 : (((46 : UInt8).toNat : Nat) : Int) = 46 := rfl
      have hkk : ((e : Int) + 1).toNat = e + 1 := by omega
      have hd255 : (d.toNat : Int) ≤ 255 := by have := d.toNat_lt; omega
      have hd0 : (0 : Int) ≤ (d.toNat : Int) := by omega
      have HE2 := Lib.hid (show e2 = p + (n + 1 + k) by have := HE.out; omega)
      have HEN := Lib.hid (show ((p + (n + 1 + k) : Nat) : Int) = (e2 : Int) by have := HE2.out; omega)
      have HLE2 := Lib.hid hle2
      have HW4 := Lib.hid (TwoTok.start w 4 V p).drew
      obtain ⟨o, ho, hb⟩ : ∃ o, FloatKind.f64.format.order f 4831355200913801216 = o ∧ ((o = some .gt ∨ o = some .eq ∨ o = none) ∨ o = some .lt) := by
        cases FloatKind.f64.format.order f 4831355200913801216 with
        | none => exact ⟨none, rfl, Or.inl (Or.inr (Or.inr rfl))⟩
        | some o => cases o with
          | lt => exact ⟨_, rfl, Or.inr rfl⟩
          | eq => exact ⟨_, rfl, Or.inl (Or.inr (Or.inl rfl))⟩
          | gt => exact ⟨_, rfl, Or.inl (Or.inl rfl)⟩
      clear hf hV hk he2 hd hd2 hle2
      rcases hb with hb | rfl
      · rcases hb with rfl | rfl | rfl
        all_goals rcases hz3 with ⟨hz3, hz4⟩ | hz3
        all_goals
          go_enter Tryz.func39, Tryz.ntmps39
          go_wp2_with (first
            | (go_at_call 53; first
              | ((with_reducible refine (HD1.out _).mono ?_); rintro e' w3 ⟨rfl, rfl⟩)
              | ((with_reducible refine (HD2.out _).mono ?_); rintro e' w3 ⟨rfl, rfl⟩))
            | (go_at_call 22; (with_reducible refine (HK.out _).mono ?_); rintro e' w4 ⟨rfl, rfl⟩)
            | fail)
          go_region
          go_wp2_with (first
            | (go_at_call 47; (with_reducible refine (HF.out _ (HG.out.keep HW4.out.below)).mono ?_); rintro e' w7 ⟨rfl, hB7⟩; have HT := Lib.hid (HW4.out.keep hB7); obtain ⟨q0, q1, q2, f0, f1, f2⟩ := HT.out.ans; obtain ⟨r0, r1, r2, g0, g1, g2⟩ := HT.out.tok; clear hB7)
            | fail)
          refine bodyPost_ret (v := wordV 4 V p ((p + 0 : Nat) : Int) 4) (by simp [results, Tryz.results39, go_sem, q0, q1, q2, wordV, tokV]) rfl ⟨4, 4, V, 0, rfl, HT.out.done _ _ _, fun h => absurd h (by decide)⟩
      · rcases hz3 with ⟨hz3, hz4⟩ | hz3
        all_goals
          go_enter Tryz.func39, Tryz.ntmps39
          go_wp2_with (first
            | (go_at_call 53; first
              | ((with_reducible refine (HD1.out _).mono ?_); rintro e' w3 ⟨rfl, rfl⟩)
              | ((with_reducible refine (HD2.out _).mono ?_); rintro e' w3 ⟨rfl, rfl⟩))
            | (go_at_call 22; (with_reducible refine (HK.out _).mono ?_); rintro e' w4 ⟨rfl, rfl⟩)
            | fail)
          go_region
          go_wp2_with (first
            | (go_at_call 47; (with_reducible refine (HF.out _ (HG.out.keep HW4.out.below)).mono ?_); rintro e' w7 ⟨rfl, hB7⟩; have HT := Lib.hid (HW4.out.keep hB7); obtain ⟨q0, q1, q2, f0, f1, f2⟩ := HT.out.ans; obtain ⟨r0, r1, r2, g0, g1, g2⟩ := HT.out.tok; clear hB7)
            | fail)
          refine bodyPost_ret (v := wordV 4 V p e2 0) (by simp [results, Tryz.results39, go_sem, q0, q1, q2, wordV, tokV]) rfl ⟨4, 0, V, n + 1 + k, by rw [HEN.out], HT.out.done _ _ _, fun _ => ⟨by decide, by decide, by omega, by have := HE2.out; have := HLE2.out; omega⟩⟩
    · have hdn : (((e : Int) + 1 < (s.size : Int)) = False) ∨ (∃ (h : e + 1 < s.size) (d : UInt8), s[e] = d ∧ ((d.toNat : Int) == 46) = false) ∨ (∃ (h : e + 1 < s.size) (d : UInt8), s[e] = 46 ∧ s[e + 1] = d ∧ (kindZ (d.toNat : Int) == 2) = false) := by
        by_cases h1 : e + 1 < s.size
        · right
          by_cases h2 : s[e] = 46
          · refine Or.inr ⟨h1, _, h2, rfl, ?_⟩
            rw [kindZ_is2]
            cases h3 : digP (s[e + 1].toNat : Int) with
            | false => rfl
            | true => exact absurd ⟨h1, h2, h3⟩ hdot
          · refine Or.inl ⟨h1, _, rfl, ?_⟩
            rw [beq_eq_false_iff_ne]
            intro h
            exact h2 (UInt8.toNat_inj.1 (by simp; omega))
        · exact Or.inl (eq_false (by omega))
      obtain ⟨V, hV⟩ : ∃ V, V = s.extract p e := ⟨_, rfl⟩
      have hw2 : ∀ W, (Instr.slice 9 (.string s) (some (.int .i64 (p : Int))) (some (.int .i64 (e : Int))) none).run Tryz.prog W = .ok (.string V) W := fun W => by rw [hV]; exact slice_str s _ _ p e rfl rfl (by omega) (by omega) W
      have h19 : ((19 : Int) < (e : Int) - (p : Int)) = False := eq_false (by have := HSZ.out; omega)
      have h19b : ((e : Int) - (p : Int) == 19) = false := by
        rw [beq_eq_false_iff_ne]
        have := HSZ.out
        omega
      have HEN := Lib.hid (show ((p + n : Nat) : Int) = (e : Int) by have := HE.out; omega)
      have h46 : (((46 : UInt8).toNat : Nat) : Int) = 46 := rfl
      have hkk : ((e : Int) + 1).toNat = e + 1 := by omega
      clear hV hdot
      rcases hdn with hdn | ⟨hlt, d, hd, hdn⟩ | ⟨hlt, d, hd, hd2, hdn⟩
      · rcases hz3 with ⟨hz3, hz4⟩ | hz3
        all_goals
          go_enter Tryz.func39, Tryz.ntmps39
          go_wp2_with (first
            | (go_at_call 53; (with_reducible refine (HD1.out _).mono ?_); rintro e' w3 ⟨rfl, rfl⟩)
            | fail)
          all_goals exact bodyPost_ret (v := wordV 3 V p e 0) (by simp [results, Tryz.results39, go_sem, wordV, tokV]) rfl ⟨3, 0, V, n, by rw [HEN.out], (below1 w _).alloc (by simp) _, fun _ => ⟨by decide, by decide, hn1, by have := HE.out; omega⟩⟩
      · have hd255 : (d.toNat : Int) ≤ 255 := by have := d.toNat_lt; omega
        have hd0 : (0 : Int) ≤ (d.toNat : Int) := by omega
        rcases hz3 with ⟨hz3, hz4⟩ | hz3
        all_goals
          go_enter Tryz.func39, Tryz.ntmps39
          go_wp2_with (first
            | (go_at_call 53; (with_reducible refine (HD1.out _).mono ?_); rintro e' w3 ⟨rfl, rfl⟩)
            | fail)
          all_goals exact bodyPost_ret (v := wordV 3 V p e 0) (by simp [results, Tryz.results39, go_sem, wordV, tokV]) rfl ⟨3, 0, V, n, by rw [HEN.out], (below1 w _).alloc (by simp) _, fun _ => ⟨by decide, by decide, hn1, by have := HE.out; omega⟩⟩
      · have HK := Lib.hid (fun W => kind_any (d.toNat : Int) W)
        generalize kindZ (d.toNat : Int) = z at HK hdn
        have hd255 : (d.toNat : Int) ≤ 255 := by have := d.toNat_lt; omega
        have hd0 : (0 : Int) ≤ (d.toNat : Int) := by omega
        rcases hz3 with ⟨hz3, hz4⟩ | hz3
        all_goals
          go_enter Tryz.func39, Tryz.ntmps39
          go_wp2_with (first
            | (go_at_call 53; (with_reducible refine (HD1.out _).mono ?_); rintro e' w3 ⟨rfl, rfl⟩)
            | (go_at_call 22; (with_reducible refine (HK.out _).mono ?_); rintro e' w4 ⟨rfl, rfl⟩)
            | fail)
          all_goals exact bodyPost_ret (v := wordV 3 V p e 0) (by simp [results, Tryz.results39, go_sem, wordV, tokV]) rfl ⟨3, 0, V, n, by rw [HEN.out], (below1 w _).alloc (by simp) _, fun _ => ⟨by decide, by decide, hn1, by have := HE.out; omega⟩⟩
end Go.Proofs.YtacodkmbefhicaaGreatDoor
