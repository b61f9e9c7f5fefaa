/- The walks of atof64, parseFloatPrefix, ParseFloat at a short number with a fraction. The walk of number, over what ParseFloat answers. -/
import Derived.Test.YtcgpflkaejbkhaaGreatDoorJE
namespace Go.Proofs.YtcgpflkaejbkhaaGreatDoor
open Go.RowKit

theorem frombits_zero (w : World) : (callFunc 166 #[.int .u64 0]).run Tryz.prog w = .ok (.value (.float .f64 0)) w := by kernel_rfl
theorem DecT.first {s : ByteArray} {p : Nat} (h : DecT s p) : ∃ h0 : 0 < s.size, digP (s[0].toNat : Int) = true := by
  have h0 : 0 < s.size := by have := h.more; omega
  exact ⟨h0, h.digs 0 s[0] (by have := h.pos; omega) (by rw [Array.getElem?_toList]; exact Array.getElem?_eq_getElem h0)⟩
set_option maxRecDepth 100000 in
set_option maxHeartbeats 8000000 in
theorem atof_any (m : Int) (t : Nat → Nat) (ht : ∀ j, j < 23 → finD (Ieee.double.read (t j)) = true) (s : ByteArray) (p : Nat) (h : DecT s p) : ∃ f, ∀ W, Glob m t W → Calls Tryz.prog 151 #[.string s] W (RetV (.tuple #[.float .f64 f, .int .i64 s.size, .nilIface]) W) := by
  obtain ⟨h0, hd⟩ := h.first
  have HSP := Lib.hid (fun W => special_any s W h0 hd)
  obtain ⟨M, nd, dp, hF⟩ : ∃ M nd dp, rfAt s.data.toList s.size = ⟨M, nd, dp⟩ := ⟨_, _, _, rfl⟩
  have hok := rf_ok h s.size (Nat.le_refl _)
  rw [hF] at hok
  obtain ⟨o1, o2, o3, o4, o5⟩ := hok
  dsimp only at o1 o2 o3 o4 o5
  have hsz := h.short
  have hpow : (10 : Nat) ^ s.size ≤ 1000000000000 := Nat.le_trans (Nat.pow_le_pow_right (by decide) hsz) (by decide)
  have hM52 : M < 4503599627370496 := by omega
  have HB2 := Lib.hid bool2_any
  have HFB := Lib.hid frombits_zero
  have hbo : bits .or .u64 0 0 = 0 := by decide +kernel
  by_cases hM : M = 0
  · subst hM
    have HRF := Lib.hid (fun W => read_any s p h W ⟨0, nd, dp⟩ hF.symm)
    have hz : (if (RF.mk 0 nd dp).M = 0 then (0 : Int) else (RF.mk 0 nd dp).dp - (RF.mk 0 nd dp).nd) = 0 := if_pos rfl
    rw [hz] at HRF
    refine ⟨0, fun W hG => ?_⟩
    have HG := Lib.hid hG
    clear hG h hd hF o1 o2 o3 o4 o5 hpow hz
    go_enter Tryz.func151, Tryz.ntmps151
    go_wp2_with (first
      | (go_at_call 156; (with_reducible refine (HSP.out _).mono ?_); rintro e w3 ⟨rfl, hB3⟩; have HB3 := Lib.hid hB3; clear hB3)
      | (go_at_call 157; (with_reducible refine (HRF.out _).mono ?_); rintro e w4 ⟨rfl, hB4⟩; have HB4 := Lib.hid (HB3.out.trans (hB4.mono HB3.out.size)); have hopt := (HG.out.keep HB4.out).opt; clear hB4)
      | (go_at_call 165; (with_reducible refine (HB2.out _).mono ?_); rintro e w5 ⟨rfl, hB5⟩; have HB5 := Lib.hid (HB4.out.trans (hB5.mono HB4.out.size)); have hfb := HFB.out w5; clear hB5)
      | fail)
    exact bodyPost_ret (v := .tuple #[.float .f64 0, .int .i64 s.size, .nilIface]) (by simp [results, Tryz.results151, go_sem]) rfl ⟨rfl, HB5.out⟩
  · obtain ⟨e, he, he2⟩ : ∃ e : Nat, e ≤ 22 ∧ dp - (nd : Int) = -(e : Int) := ⟨((nd : Int) - dp).toNat, by omega, by omega⟩
    have HRF := Lib.hid (fun W => read_any s p h W ⟨M, nd, dp⟩ hF.symm)
    have hz : (if (RF.mk M nd dp).M = 0 then (0 : Int) else (RF.mk M nd dp).dp - (RF.mk M nd dp).nd) = -(e : Int) := (if_neg hM).trans he2
    rw [hz] at HRF
    obtain ⟨f, hf⟩ := exact_any m t ht M e hM52 he
    have HX := Lib.hid hf
    have hM0 : ((M : Int) == 0) = false := by rw [beq_eq_false_iff_ne]; omega
    have he310 : ((310 : Int) < -(e : Int)) = False := eq_false (by omega)
    have he345 : (-(e : Int) < -345) = False := eq_false (by omega)
    refine ⟨f, fun W hG => ?_⟩
    have HG := Lib.hid hG
    clear hf hG h hd hF o1 o2 o3 o4 o5 hpow hz hM hM52
    go_enter Tryz.func151, Tryz.ntmps151
    go_wp2_with (first
      | (go_at_call 156; (with_reducible refine (HSP.out _).mono ?_); rintro e w3 ⟨rfl, hB3⟩; have HB3 := Lib.hid hB3; clear hB3)
      | (go_at_call 157; (with_reducible refine (HRF.out _).mono ?_); rintro e w4 ⟨rfl, hB4⟩; have HB4 := Lib.hid (HB3.out.trans (hB4.mono HB3.out.size)); have hopt := (HG.out.keep HB4.out).opt; clear hB4)
      | (go_at_call 165; (with_reducible refine (HB2.out _).mono ?_); rintro e w5 ⟨rfl, hB5⟩; have HB5 := Lib.hid (HB4.out.trans (hB5.mono HB4.out.size)); clear hB5)
      | (go_at_call 167; (with_reducible refine (HX.out _ (HG.out.keep HB5.out)).mono ?_); rintro e w6 ⟨rfl, hB6⟩; have HB6 := Lib.hid (HB5.out.trans (hB6.mono HB5.out.size)); clear hB6)
      | fail)
    exact bodyPost_ret (v := .tuple #[.float .f64 f, .int .i64 s.size, .nilIface]) (by simp [results, Tryz.results151, go_sem]) rfl ⟨rfl, HB6.out⟩
theorem parse_any (m : Int) (t : Nat → Nat) (ht : ∀ j, j < 23 → finD (Ieee.double.read (t j)) = true) (s : ByteArray) (p : Nat) (h : DecT s p) : ∃ f, ∀ W, Glob m t W → Calls Tryz.prog 124 #[.string s, .int .i64 64] W (RetV (.tuple #[.float .f64 f, .nilIface]) W) := by
  obtain ⟨f, hf⟩ := atof_any m t ht s p h
  refine ⟨f, fun W hG => ?_⟩
  have H1 := Lib.hid (hf W hG)
  have H2 := Lib.hid (show Calls Tryz.prog 141 #[.string s, .int .i64 64] W (RetV (.tuple #[.float .f64 f, .int .i64 s.size, .nilIface]) W) by
    go_enter Tryz.func141, Tryz.ntmps141
    go_wp2_with (first
      | (go_at_call 151; (with_reducible refine H1.out.mono ?_); rintro e w3 ⟨rfl, hB3⟩; have HB3 := Lib.hid hB3; clear hB3)
      | fail)
    exact bodyPost_ret (v := .tuple #[.float .f64 f, .int .i64 s.size, .nilIface]) (by simp [results, Tryz.results141, go_sem]) rfl ⟨rfl, HB3.out⟩)
  have H3 := Lib.hid (show Calls Tryz.prog 135 #[.string s, .int .i64 64] W (RetV (.tuple #[.float .f64 f, .nilIface]) W) by
    go_enter Tryz.func135, Tryz.ntmps135
    go_wp2_with (first
      | (go_at_call 141; (with_reducible refine H2.out.mono ?_); rintro e w3 ⟨rfl, hB3⟩; have HB3 := Lib.hid hB3; clear hB3)
      | fail)
    exact bodyPost_ret (v := .tuple #[.float .f64 f, .nilIface]) (by simp [results, Tryz.results135, go_sem]) rfl ⟨rfl, HB3.out⟩)
  go_enter Tryz.func124, Tryz.ntmps124
  go_wp2_with (first
    | (go_at_call 135; (with_reducible refine H3.out.mono ?_); rintro e w3 ⟨rfl, hB3⟩; have HB3 := Lib.hid hB3; clear hB3)
    | fail)
  exact bodyPost_ret (v := .tuple #[.float .f64 f, .nilIface]) (by simp [results, Tryz.results124, go_sem]) rfl ⟨rfl, HB3.out⟩
end Go.Proofs.YtcgpflkaejbkhaaGreatDoor
namespace Go.Proofs.YtcgpflkaejbkhaaGreatDoor
open Go.RowKit

/-- ParseFloat reads a text without an error -/
def ReadsF (m : Int) (t : Nat → Nat) (T : ByteArray) : Prop := ∃ f : Nat, ∀ W, Glob m t W → Calls Tryz.prog 124 #[.string T, .int .i64 64] W (RetV (.tuple #[.float .f64 f, .nilIface]) W)
theorem num_kept {w w3 : World} (hB3 : Below (w.alloc (.cells #[.int .i64 0, .string ⟨#[]⟩, .int .i64 0] 102)).heap.size (w.alloc (.cells #[.int .i64 0, .string ⟨#[]⟩, .int .i64 0] 102)) w3) : w3.heap[w.heap.size]? = some (.cells #[.int .i64 0, .string ⟨#[]⟩, .int .i64 0] 102) ∧ Below w.heap.size w w3 :=
  ⟨(hB3.block w.heap.size (by simp)).trans (heap_alloc_new w _), (below1 w _).trans (hB3.mono (below1 w (.cells #[.int .i64 0, .string ⟨#[]⟩, .int .i64 0] 102)).size)⟩
theorem num_kept2 {w w3 w4 : World} (h : w3.heap[w.heap.size]? = some (.cells #[.int .i64 0, .string ⟨#[]⟩, .int .i64 0] 102) ∧ Below w.heap.size w w3) (hB : Below w3.heap.size w3 w4) : w4.heap[w.heap.size]? = some (.cells #[.int .i64 0, .string ⟨#[]⟩, .int .i64 0] 102) ∧ Below w.heap.size w w4 :=
  ⟨(hB.block w.heap.size (heap_lt h.1)).trans h.1, h.2.trans (hB.mono h.2.size)⟩
theorem num_cells {w w3 : World} (h : w3.heap[w.heap.size]? = some (.cells #[.int .i64 0, .string ⟨#[]⟩, .int .i64 0] 102) ∧ Below w.heap.size w w3) : w3.cell? ⟨w.heap.size, 0, none⟩ = some (.int .i64 0) ∧ w3.cell? ⟨w.heap.size, 1, none⟩ = some (.string ⟨#[]⟩) ∧ w3.cell? ⟨w.heap.size, 2, none⟩ = some (.int .i64 0) ∧ w3.frozen? ⟨w.heap.size, 0, none⟩ = false ∧ w3.frozen? ⟨w.heap.size, 1, none⟩ = false ∧ w3.frozen? ⟨w.heap.size, 2, none⟩ = false :=
  ⟨cell_of_row _ _ 0 _ _ _ h.1, cell_of_row _ _ 1 _ _ _ h.1, cell_of_row _ _ 2 _ _ _ h.1, frozen_of_row _ _ 0 _ _ h.1, frozen_of_row _ _ 1 _ _ h.1, frozen_of_row _ _ 2 _ _ h.1⟩
theorem span_pos (p : Int → Bool) (s : ByteArray) (h0 : 0 < s.size) (h : p (s[0].toNat : Int) = true) : 1 ≤ spanR p s.data.toList := by
  have hsl : s.data.toList.length = s.size := by show _ = s.data.size; simp
  cases hx : s.data.toList with
  | nil => rw [hx] at hsl; simp at hsl; omega
  | cons a l =>
    have ha : s[0] = a := by
      have : s.data.toList[0]? = some a := by rw [hx]; rfl
      rw [Array.getElem?_toList] at this
      exact (Array.getElem?_eq_some_iff.1 this).2
    rw [ha] at h
    unfold spanR
    rw [List.takeWhile_cons, if_pos h]
    simp
theorem trim_len (l : List UInt8) : (Lib.trimPrefix l [46]).length ≤ l.length := by
  unfold Lib.trimPrefix
  split <;> simp
theorem dot_drop (l : List UInt8) (n : Nat) (h : Lib.hasPrefix (l.drop n) [46] = true) : l[n]? = some 46 ∧ Lib.trimPrefix (l.drop n) [46] = l.drop (n + 1) := by
  cases hx : l.drop n with
  | nil => rw [hx] at h; exact absurd h (by simp [Lib.hasPrefix])
  | cons a r =>
    rw [hx] at h
    have ha : 46 = a := by simpa [Lib.hasPrefix] using h
    subst ha
    refine ⟨?_, ?_⟩
    · have : (l.drop n)[0]? = some 46 := by rw [hx]; rfl
      simpa using this
    · have e : l.drop (n + 1) = r := by rw [← List.drop_drop, hx]; rfl
      rw [e]
      simp [Lib.trimPrefix, Lib.hasPrefix]
theorem span_get {p : Int → Bool} {l : List UInt8} {j : Nat} {c : UInt8} (hj : j < spanR p l) (hc : l[j]? = some c) : p (c.toNat : Int) = true := by
  unfold spanR at hj
  have h1 : (l.takeWhile (fun b => p (b.toNat : Int)))[j]? = some c := by
    rw [List.getElem?_eq_getElem hj]
    obtain ⟨r, hr⟩ := List.takeWhile_prefix (fun b : UInt8 => p (b.toNat : Int)) (l := l)
    have h2 : l[j]? = some (l.takeWhile (fun b => p (b.toNat : Int)))[j] := by
      conv => lhs; rw [← hr]
      rw [List.getElem?_append_left hj, List.getElem?_eq_getElem hj]
    rw [hc] at h2
    exact h2.symm
  exact List.all_eq_true.1 (List.all_takeWhile (p := fun b : UInt8 => p (b.toNat : Int)) (l := l)) c (List.mem_of_getElem? h1)
/-- every number with a fraction in a short text is read -/
theorem floats_in {s : ByteArray} (hs : s.size ≤ 12) {n k : Nat} (hsl : s.data.toList.length = s.size) (hn1 : 1 ≤ n) (hn : n = spanR digP s.data.toList) (hk : k = spanR digP (s.data.toList.drop (n + 1))) (hd : s.data.toList[n]? = some 46) (hk0 : 0 < k) : DecT (s.extract 0 (n + (1 + k))) n := by
  have hle : k ≤ s.size - (n + 1) := by
    have := spanR_le digP (s.data.toList.drop (n + 1))
    rw [← hk, List.length_drop, hsl] at this
    exact this
  have hn2 : n < s.size := by rw [← hsl]; exact (List.getElem?_eq_some_iff.1 hd).1
  have hT : (s.extract 0 (n + (1 + k))).data.toList = s.data.toList.take (n + (1 + k)) := by simp [ByteArray.data_extract]
  have hS : (s.extract 0 (n + (1 + k))).size = n + (1 + k) := by rw [ByteArray.size_extract]; omega
  refine ⟨by omega, hn1, by omega, by rw [hT, List.getElem?_take_of_lt (by omega)]; exact hd, fun j c hj hc => ?_⟩
  rw [hT] at hc
  have hjl : j < n + (1 + k) := by
    rcases Nat.lt_or_ge j (n + (1 + k)) with g | g
    · exact g
    · rw [List.getElem?_take_eq_none g] at hc; cases hc
  rw [List.getElem?_take_of_lt hjl] at hc
  rcases Nat.lt_or_ge j n with g | g
  · exact span_get (hn ▸ g) hc
  · refine span_get (p := digP) (l := s.data.toList.drop (n + 1)) (j := j - (n + 1)) (by omega) ?_
    rw [List.getElem?_drop, show n + 1 + (j - (n + 1)) = j by omega]
    exact hc
set_option maxRecDepth 100000 in
set_option maxHeartbeats 8000000 in
theorem number_any (m : Int) (t : Nat → Nat) (ht : ∀ j, j < 23 → finD (Ieee.double.read (t j)) = true) (s : ByteArray) (w : World) (hG : Glob m t w) (h0 : 0 < s.size) (hs : s.size ≤ 12) (hd : digP (s[0].toNat : Int) = true) :
    Calls Tryz.prog 111 #[.string s] w (OtherP s w) := by
  have HG := Lib.hid hG
  clear hG
  have hpf : ∀ n k, s.data.toList.length = s.size → n = spanR digP s.data.toList → k = spanR digP (s.data.toList.drop (n + 1)) → s.data.toList[n]? = some 46 → 0 < k → ReadsF m t (s.extract 0 (n + (1 + k))) := fun n k g1 g2 g3 g4 g5 =>
    parse_any m t ht _ n (floats_in hs g1 (g2 ▸ span_pos digP s h0 hd) g2 g3 g4 g5)
  clear ht
  obtain ⟨c, hc⟩ : ∃ c, c = s[0] := ⟨_, rfl⟩
  have hkc : s[0] = c := hc.symm
  have hc255 : (c.toNat : Int) ≤ 255 := by have := c.toNat_lt; omega
  have hc0 : (0 : Int) ≤ (c.toNat : Int) := by omega
  have hsl : s.data.toList.length = s.size := by show _ = s.data.size; simp
  obtain ⟨n, hn⟩ : ∃ n, n = spanR digP s.data.toList := ⟨_, rfl⟩
  have hn1 := span_pos digP s h0 hd
  have hle := spanR_le digP s.data.toList
  have HS1 := Lib.hid (fun W => dig_span s (by omega) W)
  rw [← hn] at HS1 hn1 hle
  have hns : n ≤ s.size := by omega
  obtain ⟨T, hT⟩ : ∃ T, T = s.extract n s.size := ⟨_, rfl⟩
  have hT2 : s.extract n s.size = T := hT.symm
  obtain ⟨p, hp⟩ : ∃ p, p = Lib.hasPrefix T.data.toList [46] := ⟨_, rfl⟩
  obtain ⟨U, hU⟩ : ∃ U : ByteArray, U = ⟨(Lib.trimPrefix T.data.toList [46]).toArray⟩ := ⟨_, rfl⟩
  have HTP := Lib.hid (show ∀ W, Calls Tryz.prog 123 #[.string T, .string ⟨#[46]⟩] W (SameV (.string U) W) from fun W => (Tryz.strings_TrimPrefix T ⟨#[46]⟩ W).mono (fun e w' h => ⟨by rw [hU]; exact h.1, h.2.symm⟩))
  have HHP := Lib.hid (show ∀ W, Calls Tryz.prog 113 #[.string T, .string ⟨#[46]⟩] W (SameV (.bool p) W) from fun W => (Tryz.strings_HasPrefix T ⟨#[46]⟩ W).mono (fun e w' h => ⟨by rw [hp]; exact h.1, h.2.symm⟩))
  have hTL : T.data.toList = s.data.toList.drop n := by
    rw [hT, ByteArray.data_extract, Array.toList_extract]
    rw [List.extract_eq_take_drop, List.take_of_length_le]
    rw [List.length_drop, hsl]
    exact Nat.le_refl _
  have hUL : U.data.toList = Lib.trimPrefix (s.data.toList.drop n) [46] := by rw [hU, hTL]
  have hUs : U.size ≤ s.size - n := by
    have e : U.size = U.data.toList.length := by show U.data.size = _; simp
    rw [e, hUL]
    have h := trim_len (s.data.toList.drop n)
    rw [List.length_drop, hsl] at h
    exact h
  obtain ⟨k, hk⟩ : ∃ k, k = spanR digP U.data.toList := ⟨_, rfl⟩
  have HS0 := Lib.hid (fun W => dig_span U (by omega) W)
  rw [← hk] at HS0
  have HSZ := Lib.hid hs
  have HPF := Lib.hid (show p = true → 0 < k → n + (1 + k) ≤ s.size ∧ ReadsF m t (s.extract 0 (n + (1 + k))) from fun h1 h2 => by
    rw [hp, hTL] at h1
    obtain ⟨e1, e2⟩ := dot_drop _ n h1
    rw [e2] at hUL
    have hk2 : k = spanR digP (s.data.toList.drop (n + 1)) := by rw [hk, hUL]
    have := spanR_le digP (s.data.toList.drop (n + 1))
    rw [← hk2, List.length_drop, hsl] at this
    exact ⟨by omega, hpf n k hsl hn hk2 e1 h2⟩)
  clear hd hpf hle hc hT hp hU hUs hk hn hsl
  by_cases hz : 1 < n ∧ c = 48
  · obtain ⟨hz1, rfl⟩ := hz
    have hz2 : (((48 : UInt8).toNat : Nat) : Int) = 48 := rfl
    have hz3 : ((1 : Int) < (n : Int)) = True := eq_true (by omega)
    go_enter Tryz.func111, Tryz.ntmps111
    go_wp2_with (first
      | (go_at_call 94; (with_reducible refine (HS1.out _).mono ?_); rintro e w3 ⟨rfl, hB3⟩; have HK3 := Lib.hid (num_kept hB3); obtain ⟨r0, r1, r2, g0, g1, g2⟩ := num_cells HK3.out; clear hB3)
      | fail)
    refine bodyPost_ret (v := nextV 0 ⟨#[]⟩ 0 7) (by simp [results, Tryz.results111, go_sem, r0, r1, r2, nextV, tokV]) rfl ⟨0, 7, ⟨#[]⟩, 0, rfl, ?_, fun h => absurd h (by decide)⟩
    exact ((HK3.out.2.setCell (p := ⟨w.heap.size, 0, none⟩) (Nat.le_refl _) _).setCell (p := ⟨w.heap.size, 1, none⟩) (Nat.le_refl _) _).setCell (p := ⟨w.heap.size, 2, none⟩) (Nat.le_refl _) _
  · have hz3 : (((1 : Int) < (n : Int)) = False) ∨ (((c.toNat : Int) == 48) = false) := by
      by_cases h1 : 1 < n
      · right
        rw [beq_eq_false_iff_ne]
        intro h
        exact hz ⟨h1, UInt8.toNat_inj.1 (by simp; omega)⟩
      · left; exact eq_false (by omega)
    clear hz
    by_cases hpk : p = true ∧ 0 < k
    · obtain ⟨rfl, hk0⟩ := hpk
      obtain ⟨hle2, f, hf⟩ := HPF.out rfl hk0
      have hk1 : ((0 : Int) < (k : Int)) = True := eq_true (by omega)
      obtain ⟨V, hV⟩ : ∃ V, V = s.extract 0 (n + (1 + k)) := ⟨_, rfl⟩
      have hV2 : s.extract 0 (n + (1 + k)) = V := hV.symm
      rw [← hV] at hf
      have HF := Lib.hid hf
      obtain ⟨o, ho, hb⟩ : ∃ o, FloatKind.f64.format.order f 4831355200913801216 = o ∧ ((o = some .gt ∨ o = some .eq) ∨ (o = none ∨ o = some .lt)) := by
        cases FloatKind.f64.format.order f 4831355200913801216 with
        | none => exact ⟨none, rfl, Or.inr (Or.inl rfl)⟩
        | some o => cases o with
          | lt => exact ⟨_, rfl, Or.inr (Or.inr rfl)⟩
          | eq => exact ⟨_, rfl, Or.inl (Or.inr rfl)⟩
          | gt => exact ⟨_, rfl, Or.inl (Or.inl rfl)⟩
      clear hf hV
      rcases hb with hb | hb
      · rcases hb with rfl | rfl
        all_goals rcases hz3 with hz3 | hz3
        all_goals
          go_enter Tryz.func111, Tryz.ntmps111
          go_wp2_with (first
            | (go_at_call 94; (with_reducible refine (HS1.out _).mono ?_); rintro e w3 ⟨rfl, hB3⟩; have HK3 := Lib.hid (num_kept hB3); obtain ⟨r0, r1, r2, g0, g1, g2⟩ := num_cells HK3.out; clear hB3)
            | (go_at_call 94; (with_reducible refine (HS0.out _).mono ?_); rintro e w4 ⟨rfl, hB4⟩; have HK4 := Lib.hid (num_kept2 HK3.out hB4); clear r0 r1 r2 g0 g1 g2; obtain ⟨r0, r1, r2, g0, g1, g2⟩ := num_cells HK4.out; clear hB4)
            | (go_at_call 123; (with_reducible refine (HTP.out _).mono ?_); rintro e w5 ⟨rfl, rfl⟩)
            | (go_at_call 113; (with_reducible refine (HHP.out _).mono ?_); rintro e w6 ⟨rfl, rfl⟩)
            | (go_at_call 124; (with_reducible refine (HF.out _ (HG.out.keep HK4.out.2)).mono ?_); rintro e w7 ⟨rfl, hB7⟩; have HK7 := Lib.hid (num_kept2 HK4.out hB7); clear r0 r1 r2 g0 g1 g2; obtain ⟨r0, r1, r2, g0, g1, g2⟩ := num_cells HK7.out; clear hB7)
            | fail)
          all_goals
            refine bodyPost_ret (v := nextV 0 ⟨#[]⟩ 0 4) (by simp [results, Tryz.results111, go_sem, r0, r1, r2, nextV, tokV]) rfl ⟨0, 4, ⟨#[]⟩, 0, rfl, ?_, fun h => absurd h (by decide)⟩
            exact ((HK7.out.2.setCell (p := ⟨w.heap.size, 0, none⟩) (Nat.le_refl _) _).setCell (p := ⟨w.heap.size, 1, none⟩) (Nat.le_refl _) _).setCell (p := ⟨w.heap.size, 2, none⟩) (Nat.le_refl _) _
      · rcases hb with rfl | rfl
        all_goals rcases hz3 with hz3 | hz3
        all_goals
          go_enter Tryz.func111, Tryz.ntmps111
          go_wp2_with (first
            | (go_at_call 94; (with_reducible refine (HS1.out _).mono ?_); rintro e w3 ⟨rfl, hB3⟩; have HK3 := Lib.hid (num_kept hB3); obtain ⟨r0, r1, r2, g0, g1, g2⟩ := num_cells HK3.out; clear hB3)
            | (go_at_call 94; (with_reducible refine (HS0.out _).mono ?_); rintro e w4 ⟨rfl, hB4⟩; have HK4 := Lib.hid (num_kept2 HK3.out hB4); clear r0 r1 r2 g0 g1 g2; obtain ⟨r0, r1, r2, g0, g1, g2⟩ := num_cells HK4.out; clear hB4)
            | (go_at_call 123; (with_reducible refine (HTP.out _).mono ?_); rintro e w5 ⟨rfl, rfl⟩)
            | (go_at_call 113; (with_reducible refine (HHP.out _).mono ?_); rintro e w6 ⟨rfl, rfl⟩)
            | (go_at_call 124; (with_reducible refine (HF.out _ (HG.out.keep HK4.out.2)).mono ?_); rintro e w7 ⟨rfl, hB7⟩; have HK7 := Lib.hid (num_kept2 HK4.out hB7); clear r0 r1 r2 g0 g1 g2; obtain ⟨r0, r1, r2, g0, g1, g2⟩ := num_cells HK7.out; clear hB7)
            | fail)
          all_goals
            refine bodyPost_ret (v := nextV 4 V ((n + (1 + k) : Nat) : Int) 0) (by simp [results, Tryz.results111, go_sem, r0, r1, r2, nextV, tokV]) rfl ⟨4, 0, V, n + (1 + k), rfl, ?_, fun _ => ⟨by decide, by decide, by omega, hle2⟩⟩
            exact ((HK7.out.2.setCell (p := ⟨w.heap.size, 0, none⟩) (Nat.le_refl _) _).setCell (p := ⟨w.heap.size, 1, none⟩) (Nat.le_refl _) _).setCell (p := ⟨w.heap.size, 2, none⟩) (Nat.le_refl _) _
    · have hkf : p = false ∨ (p = true ∧ k = 0) := by
        cases p with
        | false => exact .inl rfl
        | true => exact .inr ⟨rfl, Nat.eq_zero_of_not_pos (fun h => hpk ⟨rfl, h⟩)⟩
      obtain ⟨V, hV⟩ : ∃ V, V = s.extract 0 n := ⟨_, rfl⟩
      have hV2 : s.extract 0 n = V := hV.symm
      have h19 : ((19 : Int) < (n : Int)) = False := eq_false (by have := HSZ.out; omega)
      have h19b : ((n : Int) == 19) = false := by
        rw [beq_eq_false_iff_ne]
        have := HSZ.out
        omega
      clear hV hpk
      rcases hkf with rfl | ⟨rfl, rfl⟩
      all_goals rcases hz3 with hz3 | hz3
      all_goals
        go_enter Tryz.func111, Tryz.ntmps111
        go_wp2_with (first
          | (go_at_call 94; (with_reducible refine (HS1.out _).mono ?_); rintro e w3 ⟨rfl, hB3⟩; have HK3 := Lib.hid (num_kept hB3); obtain ⟨r0, r1, r2, g0, g1, g2⟩ := num_cells HK3.out; clear hB3)
          | (go_at_call 94; (with_reducible refine (HS0.out _).mono ?_); rintro e w4 ⟨rfl, hB4⟩; have HK4 := Lib.hid (num_kept2 HK3.out hB4); clear r0 r1 r2 g0 g1 g2; obtain ⟨r0, r1, r2, g0, g1, g2⟩ := num_cells HK4.out; clear hB4)
          | (go_at_call 123; (with_reducible refine (HTP.out _).mono ?_); rintro e w5 ⟨rfl, rfl⟩)
          | (go_at_call 113; (with_reducible refine (HHP.out _).mono ?_); rintro e w6 ⟨rfl, rfl⟩)
          | fail)
        all_goals
          refine bodyPost_ret (v := nextV 3 V n 0) (by simp [results, Tryz.results111, go_sem, r0, r1, r2, nextV, tokV]) rfl ⟨3, 0, V, n, rfl, ?_, fun _ => ⟨by decide, by decide, hn1, hns⟩⟩
          exact ((HK4.out.2.setCell (p := ⟨w.heap.size, 0, none⟩) (Nat.le_refl _) _).setCell (p := ⟨w.heap.size, 1, none⟩) (Nat.le_refl _) _).setCell (p := ⟨w.heap.size, 2, none⟩) (Nat.le_refl _) _
end Go.Proofs.YtcgpflkaejbkhaaGreatDoor
