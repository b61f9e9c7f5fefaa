/- The walks of atof64, parseFloatPrefix, ParseFloat at a short number with a fraction. -/
import Derived.Test.YtcgpflkaejbkhaaGreatDoorQAD
namespace Go.Proofs.YtcgpflkaejbkhaaGreatDoor
open Go.RowKit

theorem frombits_zero (w : World) : (callFunc 166 #[.int .u64 0]).run Tryz.prog w = .ok (.value (.float .f64 0)) w := by kernel_rfl
theorem DecT.first {s : ByteArray} {p : Nat} (h : DecT s p) : ∃ h0 : 0 < s.size, digP (s[0].toNat : Int) = true := by
 have h0 : 0 < s.size := by have := h.more; omega
 exact ⟨h0, h.digs 0 s[0] (by have := h.pos; omega) (by rw [Array.getElem?_toList]; exact Array.getElem?_eq_getElem h0)⟩
set_option maxRecDepth 100000 in
set_option maxHeartbeats 8000000 in
theorem atof_any (m : Int) (t : Nat → Nat) (ht : ∀ j, j < 23 → finD (Ieee.double.read (t j)) = true) (s : ByteArray) (p : Nat) (h : DecT s p) : ∃ f, ∀ W, Glob m t W → Calls Tryz.prog 151 #[.string s] W (RetV (.tuple #[.float .f64 f, .int .i64 s.size, .nilIface]) W) := by
 obtain ⟨h0, hd⟩ := h.first
 have HSP := Lib.hid (fun W => special_any s W h0 hd)
 obtain ⟨M, nd, dp, hF⟩ : ∃ M nd dp, rfAt s.data.toList s.size = ⟨M, nd, dp⟩ := ⟨_, _, _, rfl⟩
 have hok := rf_ok h s.size (Nat.le_refl _)
 rw [hF] at hok
 obtain ⟨o1, o2, o3, o4, o5⟩ := hok
 dsimp only at o1 o2 o3 o4 o5
 have hsz := h.short
 have hpow : (10 : Nat) ^ s.size ≤ 1000000000000 := Nat.le_trans (Nat.pow_le_pow_right (by decide) hsz) (by decide)
 have hM52 : M < 4503599627370496 := by omega
 have HB2 := Lib.hid bool2_any
 have HFB := Lib.hid frombits_zero
 have hbo : bits .or .u64 0 0 = 0 := by decide +kernel
 by_cases hM : M = 0
 · subst hM
   have HRF := Lib.hid (fun W => read_any s p h W ⟨0, nd, dp⟩ hF.symm)
   have hz : (if (RF.mk 0 nd dp).M = 0 then (0 : Int) else (RF.mk 0 nd dp).dp - (RF.mk 0 nd dp).nd) = 0 := if_pos rfl
   rw [hz] at HRF
   refine ⟨0, fun W hG => ?_⟩
   have HG := Lib.hid hG
   clear hG h hd hF o1 o2 o3 o4 o5 hpow hz
   go_enter Tryz.func151, Tryz.ntmps151
   go_wp2_with (first
     | (go_at_call 156; (with_reducible refine (HSP.out _).mono ?_); rintro e w3 ⟨rfl, hB3⟩; have HB3 := Lib.hid hB3; clear hB3)
     | (go_at_call 157; (with_reducible refine (HRF.out _).mono ?_); rintro e w4 ⟨rfl, hB4⟩; have HB4 := Lib.hid (HB3.out.trans (hB4.mono HB3.out.size)); have hopt := (HG.out.keep HB4.out).opt; clear hB4)
     | (go_at_call 165; (with_reducible refine (HB2.out _).mono ?_); rintro e w5 ⟨rfl, hB5⟩; have HB5 := Lib.hid (HB4.out.trans (hB5.mono HB4.out.size)); have hfb := HFB.out w5; clear hB5)
     | fail)
   exact bodyPost_ret (v := .tuple #[.float .f64 0, .int .i64 s.size, .nilIface]) (by simp [results, Tryz.results151, go_sem]) rfl ⟨rfl, HB5.out⟩
 · obtain ⟨e, he, he2⟩ : ∃ e : Nat, e ≤ 22 ∧ dp - (nd : Int) = -(e : Int) := ⟨((nd : Int) - dp).toNat, by omega, by omega⟩
   have HRF := Lib.hid (fun W => read_any s p h W ⟨M, nd, dp⟩ hF.symm)
   have hz : (if (RF.mk M nd dp).M = 0 then (0 : Int) else (RF.mk M nd dp).dp - (RF.mk M nd dp).nd) = -(e : Int) := (if_neg hM).trans he2
   rw [hz] at HRF
   obtain ⟨f, hf⟩ := exact_any m t ht M e hM52 he
   have HX := Lib.hid hf
   have hM0 : ((M : Int) == 0) = false := by rw [beq_eq_false_iff_ne]; omega
   have he310 : ((310 : Int) < -(e : Int)) = False := eq_false (by omega)
   have he345 : (-(e : Int) < -345) = False := eq_false (by omega)
   refine ⟨f, fun W hG => ?_⟩
   have HG := Lib.hid hG
   clear hf hG h hd hF o1 o2 o3 o4 o5 hpow hz hM hM52
   go_enter Tryz.func151, Tryz.ntmps151
   go_wp2_with (first
     | (go_at_call 156; (with_reducible refine (HSP.out _).mono ?_); rintro e w3 ⟨rfl, hB3⟩; have HB3 := Lib.hid hB3; clear hB3)
     | (go_at_call 157; (with_reducible refine (HRF.out _).mono ?_); rintro e w4 ⟨rfl, hB4⟩; have HB4 := Lib.hid (HB3.out.trans (hB4.mono HB3.out.size)); have hopt := (HG.out.keep HB4.out).opt; clear hB4)
     | (go_at_call 165; (with_reducible refine (HB2.out _).mono ?_); rintro e w5 ⟨rfl, hB5⟩; have HB5 := Lib.hid (HB4.out.trans (hB5.mono HB4.out.size)); clear hB5)
     | (go_at_call 167; (with_reducible refine (HX.out _ (HG.out.keep HB5.out)).mono ?_); rintro e w6 ⟨rfl, hB6⟩; have HB6 := Lib.hid (HB5.out.trans (hB6.mono HB5.out.size)); clear hB6)
     | fail)
   exact bodyPost_ret (v := .tuple #[.float .f64 f, .int .i64 s.size, .nilIface]) (by simp [results, Tryz.results151, go_sem]) rfl ⟨rfl, HB6.out⟩
theorem parse_any (m : Int) (t : Nat → Nat) (ht : ∀ j, j < 23 → finD (Ieee.double.read (t j)) = true) (s : ByteArray) (p : Nat) (h : DecT s p) : ∃ f, ∀ W, Glob m t W → Calls Tryz.prog 124 #[.string s, .int .i64 64] W (RetV (.tuple #[.float .f64 f, .nilIface]) W) := by
 obtain ⟨f, hf⟩ := atof_any m t ht s p h
 refine ⟨f, fun W hG => ?_⟩
 have H1 := Lib.hid (hf W hG)
 have H2 := Lib.hid (show Calls Tryz.prog 141 #[.string s, .int .i64 64] W (RetV (.tuple #[.float .f64 f, .int .i64 s.size, .nilIface]) W) by
   go_enter Tryz.func141, Tryz.ntmps141
   go_wp2_with (first
     | (go_at_call 151; (with_reducible refine H1.out.mono ?_); rintro e w3 ⟨rfl, hB3⟩; have HB3 := Lib.hid hB3; clear hB3)
     | fail)
   exact bodyPost_ret (v := .tuple #[.float .f64 f, .int .i64 s.size, .nilIface]) (by simp [results, Tryz.results141, go_sem]) rfl ⟨rfl, HB3.out⟩)
 have H3 := Lib.hid (show Calls Tryz.prog 135 #[.string s, .int .i64 64] W (RetV (.tuple #[.float .f64 f, .nilIface]) W) by
   go_enter Tryz.func135, Tryz.ntmps135
   go_wp2_with (first
     | (go_at_call 141; (with_reducible refine H2.out.mono ?_); rintro e w3 ⟨rfl, hB3⟩; have HB3 := Lib.hid hB3; clear hB3)
     | fail)
   exact bodyPost_ret (v := .tuple #[.float .f64 f, .nilIface]) (by simp [results, Tryz.results135, go_sem]) rfl ⟨rfl, HB3.out⟩)
 go_enter Tryz.func124, Tryz.ntmps124
 go_wp2_with (first
   | (go_at_call 135; (with_reducible refine H3.out.mono ?_); rintro e w3 ⟨rfl, hB3⟩; have HB3 := Lib.hid hB3; clear hB3)
   | fail)
 exact bodyPost_ret (v := .tuple #[.float .f64 f, .nilIface]) (by simp [results, Tryz.results124, go_sem]) rfl ⟨rfl, HB3.out⟩
end Go.Proofs.YtcgpflkaejbkhaaGreatDoor
namespace Go.Proofs.YtcgpflkaejbkhaaGreatDoor
open Go.RowKit

def ReadsF (m : Int) (t : Nat → Nat) (T : ByteArray) : Prop := ∃ f : Nat, ∀ W, Glob m t W → Calls Tryz.prog 124 #[.string T, .int .i64 64] W (RetV (.tuple #[.float .f64 f, .nilIface]) W)
theorem num_kept {w w3 : World} (hB3 : Below (w.alloc (.cells #[.int .i64 0, .string ⟨#[]⟩, .int .i64 0] 102)).heap.size (w.alloc (.cells #[.int .i64 0, .string ⟨#[]⟩, .int .i64 0] 102)) w3) : w3.heap[w.heap.size]? = some (.cells #[.int .i64 0, .string ⟨#[]⟩, .int .i64 0] 102) ∧ Below w.heap.size w w3 :=
 ⟨(hB3.block w.heap.size (by simp)).trans (heap_alloc_new w _), (below1 w _).trans (hB3.mono (below1 w (.cells #[.int .i64 0, .string ⟨#[]⟩, .int .i64 0] 102)).size)⟩
theorem num_kept2 {w w3 w4 : World} (h : w3.heap[w.heap.size]? = some (.cells #[.int .i64 0, .string ⟨#[]⟩, .int .i64 0] 102) ∧ Below w.heap.size w w3) (hB : Below w3.heap.size w3 w4) : w4.heap[w.heap.size]? = some (.cells #[.int .i64 0, .string ⟨#[]⟩, .int .i64 0] 102) ∧ Below w.heap.size w w4 :=
 ⟨(hB.block w.heap.size (heap_lt h.1)).trans h.1, h.2.trans (hB.mono h.2.size)⟩
theorem num_cells {w w3 : World} (h : w3.heap[w.heap.size]? = some (.cells #[.int .i64 0, .string ⟨#[]⟩, .int .i64 0] 102) ∧ Below w.heap.size w w3) : w3.cell? ⟨w.heap.size, 0, none⟩ = some (.int .i64 0) ∧ w3.cell? ⟨w.heap.size, 1, none⟩ = some (.string ⟨#[]⟩) ∧ w3.cell? ⟨w.heap.size, 2, none⟩ = some (.int .i64 0) ∧ w3.frozen? ⟨w.heap.size, 0, none⟩ = false ∧ w3.frozen? ⟨w.heap.size, 1, none⟩ = false ∧ w3.frozen? ⟨w.heap.size, 2, none⟩ = false :=
 ⟨cell_of_row _ _ 0 _ _ _ h.1, cell_of_row _ _ 1 _ _ _ h.1, cell_of_row _ _ 2 _ _ _ h.1, frozen_of_row _ _ 0 _ _ h.1, frozen_of_row _ _ 1 _ _ h.1, frozen_of_row _ _ 2 _ _ h.1⟩
theorem span_pos (p : Int → Bool) (s : ByteArray) (h0 : 0 < s.size) (h : p (s[0].toNat : Int) = true) : 1 ≤ spanR p s.data.toList := by
 have hsl : s.data.toList.length = s.size := by show _ = s.data.size; simp
 cases hx : s.data.toList with
 | nil => rw [hx] at hsl; simp at hsl; omega
 | cons a l =>
   have ha : s[0] = a := by
     have : s.data.toList[0]? = some a := by rw [hx]; rfl
     rw [Array.getElem?_toList] at this
     exact (Array.getElem?_eq_some_iff.1 this).2
   rw [ha] at h
   unfold spanR
   rw [List.takeWhile_cons, if_pos h]
   simp
theorem trim_len (l : List UInt8) : (Lib.trimPrefix l [46]).length ≤ l.length := by
 unfold Lib.trimPrefix
 split <;> simp
theorem dot_drop (l : List UInt8) (n : Nat) (h : Lib.hasPrefix (l.drop n) [46] = true) : l[n]? = some 46 ∧ Lib.trimPrefix (l.drop n) [46] = l.drop (n + 1) := by
 cases hx : l.drop n with
 | nil => rw [hx] at h; exact absurd h (by simp [Lib.hasPrefix])
 | cons a r =>
   rw [hx] at h
   have ha : 46 = a := by simpa [Lib.hasPrefix] using h
   subst ha
   refine ⟨?_, ?_⟩
   · have : (l.drop n)[0]? = some 46 := by rw [hx]; rfl
     simpa using this
   · have e : l.drop (n + 1) = r := by rw [← List.drop_drop, hx]; rfl
     rw [e]
     simp [Lib.trimPrefix, Lib.hasPrefix]
theorem span_get {p : Int → Bool} {l : List UInt8} {j : Nat} {c : UInt8} (hj : j < spanR p l) (hc : l[j]? = some c) : p (c.toNat : Int) = true := by
 unfold spanR at hj
 have h1 : (l.takeWhile (fun b => p (b.toNat : Int)))[j]? = some c := by
   rw [List.getElem?_eq_getElem hj]
   obtain ⟨r, hr⟩ := List.takeWhile_prefix (fun b : UInt8 => p (b.toNat : Int)) (l := l)
   have h2 : l[j]? = some (l.takeWhile (fun b => p (b.toNat : Int)))[j] := by
     conv => lhs; rw [← hr]
     rw [List.getElem?_append_left hj, List.getElem?_eq_getElem hj]
   rw [hc] at h2
   exact h2.symm
 exact List.all_eq_true.1 (List.all_takeWhile (p := fun b : UInt8 => p (b.toNat : Int)) (l := l)) c (List.mem_of_getElem? h1)
theorem floats_in {s : ByteArray} (hs : s.size ≤ 12) {n k : Nat} (hsl : s.data.toList.length = s.size) (hn1 : 1 ≤ n) (hn : n = spanR digP s.data.toList) (hk : k = spanR digP (s.data.toList.drop (n + 1))) (hd : s.data.toList[n]? = some 46) (hk0 : 0 < k) : DecT (s.extract 0 (n + (1 + k))) n := by
 have hle : k ≤ s.size - (n + 1) := by
   have := spanR_le digP (s.data.toList.drop (n + 1))
   rw [← hk, List.length_drop, hsl] at this
   exact this
 have hn2 : n < s.size := by rw [← hsl]; exact (List.getElem?_eq_some_iff.1 hd).1
 have hT : (s.extract 0 (n + (1 + k))).data.toList = s.data.toList.take (n + (1 + k)) := by simp [ByteArray.data_extract]
 have hS : (s.extract 0 (n + (1 + k))).size = n + (1 + k) := by rw [ByteArray.size_extract]; omega
 refine ⟨by omega, hn1, by omega, by rw [hT, List.getElem?_take_of_lt (by omega)]; exact hd, fun j c hj hc => ?_⟩
 rw [hT] at hc
 have hjl : j < n + (1 + k) := by
   rcases Nat.lt_or_ge j (n + (1 + k)) with g | g
   · exact g
   · rw [List.getElem?_take_eq_none g] at hc; cases hc
 rw [List.getElem?_take_of_lt hjl] at hc
 rcases Nat.lt_or_ge j n with g | g
 · exact span_get (hn ▸ g) hc
 · refine span_get (p := digP) (l := s.data.toList.drop (n + 1)) (j := j - (n + 1)) (by omega) ?_
   rw [List.getElem?_drop, show n + 1 + (j - (n + 1)) = j by omega]
   exact hc
set_option maxRecDepth 100000 in
set_option maxHeartbeats 8000000 in
theorem number_any (m : Int) (t : Nat → Nat) (ht : ∀ j, j < 23 → finD (Ieee.double.read (t j)) = true) (s : ByteArray) (w : World) (hG : Glob m t w) (h0 : 0 < s.size) (hs : s.size ≤ 12) (hd : digP (s[0].toNat : Int) = true) :
   Calls Tryz.prog 111 #[.string s] w (OtherP s w) := by
 have HG := Lib.hid hG
 clear hG
 have hpf : ∀ n k, s.data.toList.length = s.size → n = spanR digP s.data.toList → k = spanR digP (s.data.toList.drop (n + 1)) → s.data.toList[n]? = some 46 → 0 < k → ReadsF m t (s.extract 0 (n + (1 + k))) := fun n k g1 g2 g3 g4 g5 =>
   parse_any m t ht _ n (floats_in hs g1 (g2 ▸ span_pos digP s h0 hd) g2 g3 g4 g5)
 clear ht
 obtain ⟨c, hc⟩ : ∃ c, c = s[0] := ⟨_, rfl⟩
 have hkc : s[0] = c := hc.symm
 have hc255 : (c.toNat : Int) ≤ 255 := by have := c.toNat_lt; omega
 have hc0 : (0 : Int) ≤ (c.toNat : Int) := by omega
 have hsl : s.data.toList.length = s.size := by show _ = s.data.size; simp
 obtain ⟨n, hn⟩ : ∃ n, n = spanR digP s.data.toList := ⟨_, rfl⟩
 have hn1 := span_pos digP s h0 hd
 have hle := spanR_le digP s.data.toList
 have HS1 := Lib.hid (fun W => dig_span s (by omega) W)
 rw [← hn] at HS1 hn1 hle
 have hns : n ≤ s.size := by omega
 obtain ⟨T, hT⟩ : ∃ T, T = s.extract n s.size := ⟨_, rfl⟩
 have hT2 : s.extract n s.size = T := hT.symm
 obtain ⟨p, hp⟩ : ∃ p, p = Lib.hasPrefix T.data.toList [46] := ⟨_, rfl⟩
 obtain ⟨U, hU⟩ : ∃ U : ByteArray, U = ⟨(Lib.trimPrefix T.data.toList [46]).toArray⟩ := ⟨_, rfl⟩
 have HTP := Lib.hid (show ∀ W, Calls Tryz.prog 123 #[.string T, .string ⟨#[46]⟩] W (SameV (.string U) W) from fun W => (Tryz.strings_TrimPrefix T ⟨#[46]⟩ W).mono (fun e w' h => ⟨by rw [hU]; exact h.1, h.2.symm⟩))
 have HHP := Lib.hid (show ∀ W, Calls Tryz.prog 113 #[.string T, .string ⟨#[46]⟩] W (SameV (.bool p) W) from fun W => (Tryz.strings_HasPrefix T ⟨#[46]⟩ W).mono (fun e w' h => ⟨by rw [hp]; exact h.1, h.2.symm⟩))
 have hTL : T.data.toList = s.data.toList.drop n := by
   rw [hT, ByteArray.data_extract, Array.toList_extract]
   rw [List.extract_eq_take_drop, List.take_of_length_le]
   rw [List.length_drop, hsl]
   exact Nat.le_refl _
 have hUL : U.data.toList = Lib.trimPrefix (s.data.toList.drop n) [46] := by rw [hU, hTL]
 have hUs : U.size ≤ s.size - n := by
   have e : U.size = U.data.toList.length := by show U.data.size = _; simp
   rw [e, hUL]
   have h := trim_len (s.data.toList.drop n)
   rw [List.length_drop, hsl] at h
   exact h
 obtain ⟨k, hk⟩ : ∃ k, k = spanR digP U.data.toList := ⟨_, rfl⟩
 have HS0 := Lib.hid (fun W => dig_span U (by omega) W)
 rw [← hk] at HS0
 have HSZ := Lib.hid hs
 have HPF := Lib.hid (show p = true → 0 < k → n + (1 + k) ≤ s.size ∧ ReadsF m t (s.extract 0 (n + (1 + k))) from fun h1 h2 => by
   rw [hp, hTL] at h1
   obtain ⟨e1, e2⟩ := dot_drop _ n h1
   rw [e2] at hUL
   have hk2 : k = spanR digP (s.data.toList.drop (n + 1)) := by rw [hk, hUL]
   have := spanR_le digP (s.data.toList.drop (n + 1))
   rw [← hk2, List.length_drop, hsl] at this
   exact ⟨by omega, hpf n k hsl hn hk2 e1 h2⟩)
 clear hd hpf hle hc hT hp hU hUs hk hn hsl
 by_cases hz : 1 < n ∧ c = 48
 · obtain ⟨hz1, rfl⟩ := hz
   have hz2 : (((48 : UInt8).toNat : Nat) : Int) = 48 := rfl
   have hz3 : ((1 : Int) < (n : Int)) = True := eq_true (by omega)
   go_enter Tryz.func111, Tryz.ntmps111
   go_wp2_with (first
     | (go_at_call 94; (with_reducible refine (HS1.out _).mono ?_); rintro e w3 ⟨rfl, hB3⟩; have HK3 := Lib.hid (num_kept hB3); obtain ⟨r0, r1, r2, g0, g1, g2⟩ := num_cells HK3.out; clear hB3)
     | fail)
   refine bodyPost_ret (v := nextV 0 ⟨#[]⟩ 0 7) (by simp [results, Tryz.results111, go_sem, r0, r1, r2, nextV, tokV]) rfl ⟨0, 7, ⟨#[]⟩, 0, rfl, ?_, fun h => absurd h (by decide)⟩
   exact ((HK3.out.2.setCell (p := ⟨w.heap.size, 0, none⟩) (Nat.le_refl _) _).setCell (p := ⟨w.heap.size, 1, none⟩) (Nat.le_refl _) _).setCell (p := ⟨w.heap.size, 2, none⟩) (Nat.le_refl _) _
 · have hz3 : (((1 : Int) < (n : Int)) = False) ∨ (((c.toNat : Int) == 48) = false) := by
     by_cases h1 : 1 < n
     · right
       rw [beq_eq_false_iff_ne]
       intro h
       exact hz ⟨h1, UInt8.toNat_inj.1 (by simp; omega)⟩
     · left; exact eq_false (by omega)
   clear hz
   by_cases hpk : p = true ∧ 0 < k
   · obtain ⟨rfl, hk0⟩ := hpk
     obtain ⟨hle2, f, hf⟩ := HPF.out rfl hk0
     have hk1 : ((0 : Int) < (k : Int)) = True := eq_true (by omega)
     obtain ⟨V, hV⟩ : ∃ V, V = s.extract 0 (n + (1 + k)) := ⟨_, rfl⟩
     have hV2 : s.extract 0 (n + (1 + k)) = V := hV.symm
     rw [← hV] at hf
     have HF := Lib.hid hf
     obtain ⟨o, ho, hb⟩ : ∃ o, FloatKind.f64.format.order f 4831355200913801216 = o ∧ ((o = some .gt ∨ o = some .eq) ∨ (o = none ∨ o = some .lt)) := by
       cases FloatKind.f64.format.order f 4831355200913801216 with
       | none => exact ⟨none, rfl, Or.inr (Or.inl rfl)⟩
       | some o => cases o with
         | lt => exact ⟨_, rfl, Or.inr (Or.inr rfl)⟩
         | eq => exact ⟨_, rfl, Or.inl (Or.inr rfl)⟩
         | gt => exact ⟨_, rfl, Or.inl (Or.inl rfl)⟩
     clear hf hV
     rcases hb with hb | hb
     · rcases hb with rfl | rfl
       all_goals rcases hz3 with hz3 | hz3
       all_goals
         go_enter Tryz.func111, Tryz.ntmps111
         go_wp2_with (first
           | (go_at_call 94; (with_reducible refine (HS1.out _).mono ?_); rintro e w3 ⟨rfl, hB3⟩; have HK3 := Lib.hid (num_kept hB3); obtain ⟨r0, r1, r2, g0, g1, g2⟩ := num_cells HK3.out; clear hB3)
           | (go_at_call 94; (with_reducible refine (HS0.out _).mono ?_); rintro e w4 ⟨rfl, hB4⟩; have HK4 := Lib.hid (num_kept2 HK3.out hB4); clear r0 r1 r2 g0 g1 g2; obtain ⟨r0, r1, r2, g0, g1, g2⟩ := num_cells HK4.out; clear hB4)
           | (go_at_call 123; (with_reducible refine (HTP.out _).mono ?_); rintro e w5 ⟨rfl, rfl⟩)
           | (go_at_call 113; (with_reducible refine (HHP.out _).mono ?_); rintro e w6 ⟨rfl, rfl⟩)
           | (go_at_call 124; (with_reducible refine (HF.out _ (HG.out.keep HK4.out.2)).mono ?_); rintro e w7 ⟨rfl, hB7⟩; have HK7 := Lib.hid (num_kept2 HK4.out hB7); clear r0 r1 r2 g0 g1 g2; obtain ⟨r0, r1, r2, g0, g1, g2⟩ := num_cells HK7.out; clear hB7)
           | fail)
         all_goals
           refine bodyPost_ret (v := nextV 0 ⟨#[]⟩ 0 4) (by simp [results, Tryz.results111, go_sem, r0, r1, r2, nextV, tokV]) rfl ⟨0, 4, ⟨#[]⟩, 0, rfl, ?_, fun h => absurd h (by decide)⟩
           exact ((HK7.out.2.setCell (p := ⟨w.heap.size, 0, none⟩) (Nat.le_refl _) _).setCell (p := ⟨w.heap.size, 1, none⟩) (Nat.le_refl _) _).setCell (p := ⟨w.heap.size, 2, none⟩) (Nat.le_refl _) _
     · rcases hb with rfl | rfl
       all_goals rcases hz3 with hz3 | hz3
       all_goals
         go_enter Tryz.func111, Tryz.ntmps111
         go_wp2_with (first
           | (go_at_call 94; (with_reducible refine (HS1.out _).mono ?_); rintro e w3 ⟨rfl, hB3⟩; have HK3 := Lib.hid (num_kept hB3); obtain ⟨r0, r1, r2, g0, g1, g2⟩ := num_cells HK3.out; clear hB3)
           | (go_at_call 94; (with_reducible refine (HS0.out _).mono ?_); rintro e w4 ⟨rfl, hB4⟩; have HK4 := Lib.hid (num_kept2 HK3.out hB4); clear r0 r1 r2 g0 g1 g2; obtain ⟨r0, r1, r2, g0, g1, g2⟩ := num_cells HK4.out; clear hB4)
           | (go_at_call 123; (with_reducible refine (HTP.out _).mono ?_); rintro e w5 ⟨rfl, rfl⟩)
           | (go_at_call 113; (with_reducible refine (HHP.out _).mono ?_); rintro e w6 ⟨rfl, rfl⟩)
           | (go_at_call 124; (with_reducible refine (HF.out _ (HG.out.keep HK4.out.2)).mono ?_); rintro e w7 ⟨rfl, hB7⟩; have HK7 := Lib.hid (num_kept2 HK4.out hB7); clear r0 r1 r2 g0 g1 g2; obtain ⟨r0, r1, r2, g0, g1, g2⟩ := num_cells HK7.out; clear hB7)
           | fail)
         all_goals
           refine bodyPost_ret (v := nextV 4 V ((n + (1 + k) : Nat) : Int) 0) (by simp [results, Tryz.results111, go_sem, r0, r1, r2, nextV, tokV]) rfl ⟨4, 0, V, n + (1 + k), rfl, ?_, fun _ => ⟨by decide, by decide, by omega, hle2⟩⟩
           exact ((HK7.out.2.setCell (p := ⟨w.heap.size, 0, none⟩) (Nat.le_refl _) _).setCell (p := ⟨w.heap.size, 1, none⟩) (Nat.le_refl _) _).setCell (p := ⟨w.heap.size, 2, none⟩) (Nat.le_refl _) _
   · have hkf : p = false ∨ (p = true ∧ k = 0) := by
       cases p with
       | false => exact .inl rfl
       | true => exact .inr ⟨rfl, Nat.eq_zero_of_not_pos (fun h => hpk ⟨rfl, h⟩)⟩
     obtain ⟨V, hV⟩ : ∃ V, V = s.extract 0 n := ⟨_, rfl⟩
     have hV2 : s.extract 0 n = V := hV.symm
     have h19 : ((19 : Int) < (n : Int)) = False := eq_false (by have := HSZ.out; omega)
     have h19b : ((n : Int) == 19) = false := by
       rw [beq_eq_false_iff_ne]
       have := HSZ.out
       omega
     clear hV hpk
     rcases hkf with rfl | ⟨rfl, rfl⟩
     all_goals rcases hz3 with hz3 | hz3
     all_goals
       go_enter Tryz.func111, Tryz.ntmps111
       go_wp2_with (first
         | (go_at_call 94; (with_reducible refine (HS1.out _).mono ?_); rintro e w3 ⟨rfl, hB3⟩; have HK3 := Lib.hid (num_kept hB3); obtain ⟨r0, r1, r2, g0, g1, g2⟩ := num_cells HK3.out; clear hB3)
         | (go_at_call 94; (with_reducible refine (HS0.out _).mono ?_); rintro e w4 ⟨rfl, hB4⟩; have HK4 := Lib.hid (num_kept2 HK3.out hB4); clear r0 r1 r2 g0 g1 g2; obtain ⟨r0, r1, r2, g0, g1, g2⟩ := num_cells HK4.out; clear hB4)
         | (go_at_call 123; (with_reducible refine (HTP.out _).mono ?_); rintro e w5 ⟨rfl, rfl⟩)
         | (go_at_call 113; (with_reducible refine (HHP.out _).mono ?_); rintro e w6 ⟨rfl, rfl⟩)
         | fail)
       all_goals
         refine bodyPost_ret (v := nextV 3 V n 0) (by simp [results, Tryz.results111, go_sem, r0, r1, r2, nextV, tokV]) rfl ⟨3, 0, V, n, rfl, ?_, fun _ => ⟨by decide, by decide, hn1, hns⟩⟩
         exact ((HK4.out.2.setCell (p := ⟨w.heap.size, 0, none⟩) (Nat.le_refl _) _).setCell (p := ⟨w.heap.size, 1, none⟩) (Nat.le_refl _) _).setCell (p := ⟨w.heap.size, 2, none⟩) (Nat.le_refl _) _
end Go.Proofs.YtcgpflkaejbkhaaGreatDoor
namespace Go.Proofs.YtcgpflkaejbkhaaGreatDoor
open Go.RowKit

theorem drop_list2 (s : ByteArray) (p : Nat) : (s.extract p s.size).data.toList = s.data.toList.drop p := by
 have hsl : s.data.toList.length = s.size := by show _ = s.data.size; simp
 rw [ByteArray.data_extract, Array.toList_extract, List.extract_eq_take_drop, List.take_of_length_le]
 rw [List.length_drop, hsl]
 exact Nat.le_refl _
theorem floats_at (m : Int) (t : Nat → Nat) (ht : ∀ j, j < 23 → finD (Ieee.double.read (t j)) = true) {s : ByteArray} (hs : s.size ≤ 12) {p n k : Nat} (hn1 : 1 ≤ n) (hn : n = spanR digP (s.data.toList.drop p)) (hk : k = spanR digP (s.data.toList.drop (p + n + 1))) (hd : s.data.toList[p + n]? = some 46) (hk0 : 0 < k) : p + n + 1 + k ≤ s.size ∧ ReadsF m t (s.extract p (p + n + 1 + k)) := by
 have hsl : s.data.toList.length = s.size := by show _ = s.data.size; simp
 have hle : p + n + 1 + k ≤ s.size := by
   have h := spanR_le digP (s.data.toList.drop (p + n + 1))
   rw [← hk, List.length_drop, hsl] at h
   omega
 obtain ⟨U, hU⟩ : ∃ U, U = s.extract p s.size := ⟨_, rfl⟩
 have hUL : U.data.toList = s.data.toList.drop p := by rw [hU]; exact drop_list2 s p
 have hUs : U.size = s.size - p := by rw [hU, ByteArray.size_extract]; omega
 have hUU : s.extract p (p + n + 1 + k) = U.extract 0 (n + (1 + k)) := by
   rw [hU, ByteArray.extract_extract, Nat.add_zero, Nat.min_eq_left (by omega)]
   congr 1
   omega
 rw [hUU]
 refine ⟨hle, parse_any m t ht _ n (floats_in (s := U) (k := k) (by omega) (by show _ = U.data.size; simp) hn1 (by rw [hUL]; exact hn) ?_ ?_ hk0)⟩
 · rw [hUL, List.drop_drop, show p + (n + 1) = p + n + 1 by omega]; exact hk
 · rw [hUL, List.getElem?_drop]; exact hd
set_option maxRecDepth 100000 in
set_option maxHeartbeats 8000000 in
theorem rnumber_any (m : Int) (t : Nat → Nat) (ht : ∀ j, j < 23 → finD (Ieee.double.read (t j)) = true) (s : ByteArray) (p : Nat) (w : World) (hG : Glob m t w) (h0 : p < s.size) (hs : s.size ≤ 12) (hd : digP (s[p].toNat : Int) = true) :
   Calls Tryz.prog 118 #[.string s, .int .i64 (p : Int)] w (ROther s p w) := by
 have HG := Lib.hid hG
 have HST := Lib.hid (TwoTok.start w 3 ⟨#[]⟩ p)
 have hsl : s.data.toList.length = s.size := by show _ = s.data.size; simp
 have hpf := fun n k => floats_at m t ht (s := s) hs (p := p) (n := n) (k := k)
 obtain ⟨n, hn⟩ : ∃ n, n = spanR digP (s.data.toList.drop p) := ⟨_, rfl⟩
 have hn1 : 1 ≤ n := by
   have h := span_pos digP (s.extract p s.size) (by rw [ByteArray.size_extract]; omega) (by
     have e : (s.extract p s.size)[0]'(by rw [ByteArray.size_extract]; omega) = s[p] := by simp [ByteArray.getElem_extract]
     rw [e]; exact hd)
   rw [drop_list2, ← hn] at h
   exact h
 have hle := spanR_le digP (s.data.toList.drop p)
 rw [← hn, List.length_drop, hsl] at hle
 have HD1 := Lib.hid (fun W => digits_any s p W (by omega) (by omega))
 rw [← hn] at HD1
 obtain ⟨e, he⟩ : ∃ e, e = p + n := ⟨_, rfl⟩
 rw [← he] at HD1
 have hes : e ≤ s.size := by omega
 obtain ⟨c, hc⟩ : ∃ c, c = s[p] := ⟨_, rfl⟩
 have hkc : s[p] = c := hc.symm
 have hc255 : (c.toNat : Int) ≤ 255 := by have := c.toNat_lt; omega
 have hc0 : (0 : Int) ≤ (c.toNat : Int) := by omega
 have hpe : p + 1 ≤ e := by omega
 clear hG ht hle hd hc
 by_cases hz : 1 < n ∧ c = 48
 · obtain ⟨hz1, rfl⟩ := hz
   have hz2 : (((48 : UInt8).toNat : Nat) : Int) = 48 := rfl
   have hz3 : ((p : Int) + 1 < (e : Int)) = True := eq_true (by omega)
   clear hpf hsl
   go_enter Tryz.func118, Tryz.ntmps118
   go_wp2_with (first
     | (go_at_call 131; (with_reducible refine (HD1.out _).mono ?_); rintro e w3 ⟨rfl, rfl⟩)
     | fail)
   exact bodyPost_ret (v := wordV 3 ⟨#[]⟩ p ((p + 0 : Nat) : Int) 7) (by simp [results, Tryz.results118, go_sem, wordV, tokV]) rfl ⟨3, 7, ⟨#[]⟩, 0, rfl, (below1 w _).alloc (by simp) _, fun h => absurd h (by decide)⟩
 · have hz3 : ((((p : Int) + 1 < (e : Int)) = False) ∧ ((c.toNat : Int) == 48) = true) ∨ (((c.toNat : Int) == 48) = false) := by
     by_cases h1 : c = 48
     · left
       exact ⟨eq_false (fun h => hz ⟨by omega, h1⟩), by rw [h1]; rfl⟩
     · right
       rw [beq_eq_false_iff_ne]
       intro h
       exact h1 (UInt8.toNat_inj.1 (by simp; omega))
   clear hz
   have hen : p + n + 1 = e + 1 := by omega
   have hee : s.data.toList[p + n]? = s.data.toList[e]? := by rw [he]
   have HPF := Lib.hid (fun k => hpf n k hn1 hn)
   rw [hee, hen] at HPF
   have HSZ := Lib.hid hs
   have HE := Lib.hid he
   clear hpf hee hen hsl he hn
   by_cases hdot : ∃ (h : e + 1 < s.size), s[e] = 46 ∧ digP (s[e + 1].toNat : Int) = true
   · obtain ⟨hlt, hd1, hd2⟩ := hdot
     obtain ⟨d, hd⟩ : ∃ d, d = s[e + 1] := ⟨_, rfl⟩
     have hd3 : s[e + 1] = d := hd.symm
     rw [hd3] at hd2
     have HK := Lib.hid (fun W => kind_any (d.toNat : Int) W)
     rw [kindZ_dig (dig_not_let hd2) hd2] at HK
     obtain ⟨k, hk⟩ : ∃ k, k = spanR digP (s.data.toList.drop (e + 1)) := ⟨_, rfl⟩
     have hk0 : 0 < k := by
       have h := span_pos digP (s.extract (e + 1) s.size) (by rw [ByteArray.size_extract]; omega) (by
         have e' : (s.extract (e + 1) s.size)[0]'(by rw [ByteArray.size_extract]; omega) = s[e + 1] := by simp [ByteArray.getElem_extract]
         rw [e', hd3]; exact hd2)
       rw [drop_list2, ← hk] at h
       exact h
     obtain ⟨hle2, f, hf⟩ := HPF.out k hk (by rw [Array.getElem?_toList]; show s.data[e]? = _; rw [Array.getElem?_eq_getElem (show e < s.data.size from by show e < s.size; omega)]; exact congrArg some hd1) hk0
     have HD2 := Lib.hid (fun W => digits_any s (e + 1) W (by omega) (by omega))
     rw [← hk] at HD2
     obtain ⟨e2, he2⟩ : ∃ e2, e2 = e + 1 + k := ⟨_, rfl⟩
     rw [← he2] at HD2 hf hle2
     have HD2 := Lib.hid (show ∀ W, Calls Tryz.prog 131 #[.string s, .int .i64 ((e : Int) + 1)] W (SameV (.int .i64 (e2 : Int)) W) from HD2.out)
     obtain ⟨V, hV⟩ : ∃ V, V = s.extract p e2 := ⟨_, rfl⟩
     rw [← hV] at hf
     have HF := Lib.hid hf
     have hw2 : ∀ W, (Instr.slice 9 (.string s) (some (.int .i64 (p : Int))) (some (.int .i64 (e2 : Int))) none).run Tryz.prog W = .ok (.string V) W := fun W => by rw [hV]; exact slice_str s _ _ p e2 rfl rfl (by omega) (by omega) W
     have h46 : (((46 : UInt8).toNat : Nat) : Int) = 46 := rfl
     have hkk : ((e : Int) + 1).toNat = e + 1 := by omega
     have hd255 : (d.toNat : Int) ≤ 255 := by have := d.toNat_lt; omega
     have hd0 : (0 : Int) ≤ (d.toNat : Int) := by omega
     have HE2 := Lib.hid (show e2 = p + (n + 1 + k) by have := HE.out; omega)
     have HEN := Lib.hid (show ((p + (n + 1 + k) : Nat) : Int) = (e2 : Int) by have := HE2.out; omega)
     have HLE2 := Lib.hid hle2
     have HW4 := Lib.hid (TwoTok.start w 4 V p).drew
     obtain ⟨o, ho, hb⟩ : ∃ o, FloatKind.f64.format.order f 4831355200913801216 = o ∧ ((o = some .gt ∨ o = some .eq ∨ o = none) ∨ o = some .lt) := by
       cases FloatKind.f64.format.order f 4831355200913801216 with
       | none => exact ⟨none, rfl, Or.inl (Or.inr (Or.inr rfl))⟩
       | some o => cases o with
         | lt => exact ⟨_, rfl, Or.inr rfl⟩
         | eq => exact ⟨_, rfl, Or.inl (Or.inr (Or.inl rfl))⟩
         | gt => exact ⟨_, rfl, Or.inl (Or.inl rfl)⟩
     clear hf hV hk he2 hd hd2 hle2
     rcases hb with hb | rfl
     · rcases hb with rfl | rfl | rfl
       all_goals rcases hz3 with ⟨hz3, hz4⟩ | hz3
       all_goals
         go_enter Tryz.func118, Tryz.ntmps118
         go_wp2_with (first
           | (go_at_call 131; first
             | ((with_reducible refine (HD1.out _).mono ?_); rintro e' w3 ⟨rfl, rfl⟩)
             | ((with_reducible refine (HD2.out _).mono ?_); rintro e' w3 ⟨rfl, rfl⟩))
           | (go_at_call 98; (with_reducible refine (HK.out _).mono ?_); rintro e' w4 ⟨rfl, rfl⟩)
           | fail)
         go_region
         go_wp2_with (first
           | (go_at_call 124; (with_reducible refine (HF.out _ (HG.out.keep HW4.out.below)).mono ?_); rintro e' w7 ⟨rfl, hB7⟩; have HT := Lib.hid (HW4.out.keep hB7); obtain ⟨q0, q1, q2, f0, f1, f2⟩ := HT.out.ans; obtain ⟨r0, r1, r2, g0, g1, g2⟩ := HT.out.tok; clear hB7)
           | fail)
         refine bodyPost_ret (v := wordV 4 V p ((p + 0 : Nat) : Int) 4) (by simp [results, Tryz.results118, go_sem, q0, q1, q2, wordV, tokV]) rfl ⟨4, 4, V, 0, rfl, HT.out.done _ _ _, fun h => absurd h (by decide)⟩
     · rcases hz3 with ⟨hz3, hz4⟩ | hz3
       all_goals
         go_enter Tryz.func118, Tryz.ntmps118
         go_wp2_with (first
           | (go_at_call 131; first
             | ((with_reducible refine (HD1.out _).mono ?_); rintro e' w3 ⟨rfl, rfl⟩)
             | ((with_reducible refine (HD2.out _).mono ?_); rintro e' w3 ⟨rfl, rfl⟩))
           | (go_at_call 98; (with_reducible refine (HK.out _).mono ?_); rintro e' w4 ⟨rfl, rfl⟩)
           | fail)
         go_region
         go_wp2_with (first
           | (go_at_call 124; (with_reducible refine (HF.out _ (HG.out.keep HW4.out.below)).mono ?_); rintro e' w7 ⟨rfl, hB7⟩; have HT := Lib.hid (HW4.out.keep hB7); obtain ⟨q0, q1, q2, f0, f1, f2⟩ := HT.out.ans; obtain ⟨r0, r1, r2, g0, g1, g2⟩ := HT.out.tok; clear hB7)
           | fail)
         refine bodyPost_ret (v := wordV 4 V p e2 0) (by simp [results, Tryz.results118, go_sem, q0, q1, q2, wordV, tokV]) rfl ⟨4, 0, V, n + 1 + k, by rw [HEN.out], HT.out.done _ _ _, fun _ => ⟨by decide, by decide, by omega, by have := HE2.out; have := HLE2.out; omega⟩⟩
   · have hdn : (((e : Int) + 1 < (s.size : Int)) = False) ∨ (∃ (h : e + 1 < s.size) (d : UInt8), s[e] = d ∧ ((d.toNat : Int) == 46) = false) ∨ (∃ (h : e + 1 < s.size) (d : UInt8), s[e] = 46 ∧ s[e + 1] = d ∧ (kindZ (d.toNat : Int) == 2) = false) := by
       by_cases h1 : e + 1 < s.size
       · right
         by_cases h2 : s[e] = 46
         · refine Or.inr ⟨h1, _, h2, rfl, ?_⟩
           rw [kindZ_is2]
           cases h3 : digP (s[e + 1].toNat : Int) with
           | false => rfl
           | true => exact absurd ⟨h1, h2, h3⟩ hdot
         · refine Or.inl ⟨h1, _, rfl, ?_⟩
           rw [beq_eq_false_iff_ne]
           intro h
           exact h2 (UInt8.toNat_inj.1 (by simp; omega))
       · exact Or.inl (eq_false (by omega))
     obtain ⟨V, hV⟩ : ∃ V, V = s.extract p e := ⟨_, rfl⟩
     have hw2 : ∀ W, (Instr.slice 9 (.string s) (some (.int .i64 (p : Int))) (some (.int .i64 (e : Int))) none).run Tryz.prog W = .ok (.string V) W := fun W => by rw [hV]; exact slice_str s _ _ p e rfl rfl (by omega) (by omega) W
     have h19 : ((19 : Int) < (e : Int) - (p : Int)) = False := eq_false (by have := HSZ.out; omega)
     have h19b : ((e : Int) - (p : Int) == 19) = false := by
       rw [beq_eq_false_iff_ne]
       have := HSZ.out
       omega
     have HEN := Lib.hid (show ((p + n : Nat) : Int) = (e : Int) by have := HE.out; omega)
     have h46 : (((46 : UInt8).toNat : Nat) : Int) = 46 := rfl
     have hkk : ((e : Int) + 1).toNat = e + 1 := by omega
     clear hV hdot
     rcases hdn with hdn | ⟨hlt, d, hd, hdn⟩ | ⟨hlt, d, hd, hd2, hdn⟩
     · rcases hz3 with ⟨hz3, hz4⟩ | hz3
       all_goals
         go_enter Tryz.func118, Tryz.ntmps118
         go_wp2_with (first
           | (go_at_call 131; (with_reducible refine (HD1.out _).mono ?_); rintro e' w3 ⟨rfl, rfl⟩)
           | fail)
         all_goals exact bodyPost_ret (v := wordV 3 V p e 0) (by simp [results, Tryz.results118, go_sem, wordV, tokV]) rfl ⟨3, 0, V, n, by rw [HEN.out], (below1 w _).alloc (by simp) _, fun _ => ⟨by decide, by decide, hn1, by have := HE.out; omega⟩⟩
     · have hd255 : (d.toNat : Int) ≤ 255 := by have := d.toNat_lt; omega
       have hd0 : (0 : Int) ≤ (d.toNat : Int) := by omega
       rcases hz3 with ⟨hz3, hz4⟩ | hz3
       all_goals
         go_enter Tryz.func118, Tryz.ntmps118
         go_wp2_with (first
           | (go_at_call 131; (with_reducible refine (HD1.out _).mono ?_); rintro e' w3 ⟨rfl, rfl⟩)
           | fail)
         all_goals exact bodyPost_ret (v := wordV 3 V p e 0) (by simp [results, Tryz.results118, go_sem, wordV, tokV]) rfl ⟨3, 0, V, n, by rw [HEN.out], (below1 w _).alloc (by simp) _, fun _ => ⟨by decide, by decide, hn1, by have := HE.out; omega⟩⟩
     · have HK := Lib.hid (fun W => kind_any (d.toNat : Int) W)
       generalize kindZ (d.toNat : Int) = z at HK hdn
       have hd255 : (d.toNat : Int) ≤ 255 := by have := d.toNat_lt; omega
       have hd0 : (0 : Int) ≤ (d.toNat : Int) := by omega
       rcases hz3 with ⟨hz3, hz4⟩ | hz3
       all_goals
         go_enter Tryz.func118, Tryz.ntmps118
         go_wp2_with (first
           | (go_at_call 131; (with_reducible refine (HD1.out _).mono ?_); rintro e' w3 ⟨rfl, rfl⟩)
           | (go_at_call 98; (with_reducible refine (HK.out _).mono ?_); rintro e' w4 ⟨rfl, rfl⟩)
           | fail)
         all_goals exact bodyPost_ret (v := wordV 3 V p e 0) (by simp [results, Tryz.results118, go_sem, wordV, tokV]) rfl ⟨3, 0, V, n, by rw [HEN.out], (below1 w _).alloc (by simp) _, fun _ => ⟨by decide, by decide, hn1, by have := HE.out; omega⟩⟩
end Go.Proofs.YtcgpflkaejbkhaaGreatDoor
namespace Go.Proofs.YtcgpflkaejbkhaaGreatDoor
open Go.RowKit

def RWordP (s : ByteArray) (p : Nat) (w : World) (e : Ending) (w' : World) : Prop := ∃ (k er : Int) (S : ByteArray) (n : Nat), e = .returned (wordV k S p ((p + n : Nat) : Int) er) ∧ Below w.heap.size w w' ∧ WordAt (s.data.toList.drop p) k S n er
theorem drop_first {s : ByteArray} {p : Nat} (h0 : p < s.size) : ∃ r, s.data.toList.drop p = s[p] :: r := by
 refine ⟨s.data.toList.drop (p + 1), ?_⟩
 rw [List.drop_eq_getElem_cons (by show p < s.data.toList.length; rw [Array.length_toList]; exact h0)]
 rfl
theorem rother_word {s : ByteArray} {p : Nat} {w : World} (h0 : p < s.size) (hl : letP (s[p].toNat : Int) = false) {e : Ending} {w' : World} (h : ROther s p w e w') : RWordP s p w e w' := by
 obtain ⟨k, er, S, n, h1, h2, h3⟩ := h
 have hsl : s.data.toList.length = s.size := by show _ = s.data.size; simp
 obtain ⟨r, hr⟩ := drop_first h0
 refine ⟨k, er, S, n, h1, h2, Or.inr (Or.inr ⟨s[p], r, hr, hl, fun he => ?_⟩)⟩
 obtain ⟨g1, g2, g3, g4⟩ := h3 he
 exact ⟨g1, g2, g3, by rw [List.length_drop, hsl]; omega⟩
set_option maxRecDepth 100000 in
set_option maxHeartbeats 8000000 in
theorem rword_end (s : ByteArray) (p : Nat) (w : World) (h0 : p = s.size) : Calls Tryz.prog 99 #[.string s, .int .i64 (p : Int)] w (RWordP s p w) := by
 have HE := Lib.hid (show s.data.toList.drop p = [] by rw [List.drop_eq_nil_iff]; show s.data.toList.length ≤ p; rw [Array.length_toList, h0]; exact Nat.le_refl _)
 subst h0
 go_enter Tryz.func99, Tryz.ntmps99
 go_wp2_with fail
 exact bodyPost_ret (v := wordV 0 ⟨#[]⟩ s.size ((s.size + 0 : Nat) : Int) 0) (by simp [results, Tryz.results99, go_sem, wordV, tokV]) rfl ⟨0, 0, ⟨#[]⟩, 0, rfl, (below1 w _).alloc (by simp) _, Or.inl ⟨HE.out, rfl, rfl⟩⟩
set_option maxRecDepth 100000 in
set_option maxHeartbeats 8000000 in
theorem rword_digit (m : Int) (t : Nat → Nat) (ht : ∀ j, j < 23 → finD (Ieee.double.read (t j)) = true) (s : ByteArray) (p : Nat) (w : World) (hG : Glob m t w) (h0 : p < s.size) (hs : s.size ≤ 12) (hd : digP (s[p].toNat : Int) = true) : Calls Tryz.prog 99 #[.string s, .int .i64 (p : Int)] w (ROther s p w) := by
 have HNU := Lib.hid (show ∀ W, Glob m t W → Calls Tryz.prog 118 #[.string s, .int .i64 (p : Int)] W (ROther s p W) from fun W g => rnumber_any m t ht s p W g h0 hs hd)
 have HG := Lib.hid hG
 obtain ⟨c, hc⟩ : ∃ c, c = s[p] := ⟨_, rfl⟩
 have hkc : s[p] = c := hc.symm
 rw [hkc] at hd
 have hc255 : (c.toNat : Int) ≤ 255 := by have := c.toNat_lt; omega
 have hc0 : (0 : Int) ≤ (c.toNat : Int) := by omega
 have hp : ((p : Int) == (s.size : Int)) = false := by rw [beq_eq_false_iff_ne]; omega
 have HK := Lib.hid (fun W => kind_any (c.toNat : Int) W)
 rw [kindZ_dig (dig_not_let hd) hd] at HK
 have HST := Lib.hid (TwoTok.start w 0 ⟨#[]⟩ p)
 clear hd hc hG ht
 go_enter Tryz.func99, Tryz.ntmps99
 go_wp2_with (first
   | (go_at_call 98; (with_reducible refine (HK.out _).mono ?_); rintro e' w4 ⟨rfl, rfl⟩)
   | (go_at_call 118; (with_reducible refine (HNU.out _ (HG.out.keep HST.out.below)).mono ?_); rintro e w4 ⟨k, er, S, n, rfl, hB4, hP⟩; have HP := Lib.hid hP; have HT := Lib.hid (HST.out.keep hB4); obtain ⟨q0, q1, q2, f0, f1, f2⟩ := HT.out.ans; clear hB4 hP; unfold wordV tokV)
   | fail)
 refine bodyPost_ret (v := wordV k S p ((p + n : Nat) : Int) er) (by simp [results, Tryz.results99, go_sem, q0, q1, q2, wordV, tokV]) rfl ⟨k, er, S, n, rfl, HT.out.done _ _ _, HP.out⟩
set_option maxRecDepth 100000 in
set_option maxHeartbeats 8000000 in
theorem rword_quote (s : ByteArray) (p : Nat) (w : World) (h0 : p < s.size) (hs : s.size ≤ 12) (hq : s[p] = 39) : Calls Tryz.prog 99 #[.string s, .int .i64 (p : Int)] w (ROther s p w) := by
 have HNU := Lib.hid (show ∀ W, Calls Tryz.prog 119 #[.string s, .int .i64 (p : Int)] W (ROther s p W) from fun W => rtext_any s p W h0 hs)
 have hp : ((p : Int) == (s.size : Int)) = false := by rw [beq_eq_false_iff_ne]; omega
 have HK := Lib.hid (show ∀ W, Calls Tryz.prog 98 #[.int .u8 39] W (SameV (.int .i64 0) W) from fun W => kind_any 39 W)
 have hc39 : (((39 : UInt8).toNat : Nat) : Int) = 39 := rfl
 have HST := Lib.hid (TwoTok.start w 0 ⟨#[]⟩ p)
 go_enter Tryz.func99, Tryz.ntmps99
 go_wp2_with (first
   | (go_at_call 98; (with_reducible refine (HK.out _).mono ?_); rintro e' w4 ⟨rfl, rfl⟩)
   | (go_at_call 119; (with_reducible refine (HNU.out _).mono ?_); rintro e w4 ⟨k, er, S, n, rfl, hB4, hP⟩; have HP := Lib.hid hP; have HT := Lib.hid (HST.out.keep hB4); obtain ⟨q0, q1, q2, f0, f1, f2⟩ := HT.out.ans; clear hB4 hP; unfold wordV tokV)
   | fail)
 refine bodyPost_ret (v := wordV k S p ((p + n : Nat) : Int) er) (by simp [results, Tryz.results99, go_sem, q0, q1, q2, wordV, tokV]) rfl ⟨k, er, S, n, rfl, HT.out.done _ _ _, HP.out⟩
set_option maxRecDepth 100000 in
set_option maxHeartbeats 8000000 in
theorem rword_letter (s : ByteArray) (p : Nat) (w : World) (h0 : p < s.size) (hs : s.size ≤ 12) (hl : letP (s[p].toNat : Int) = true) : Calls Tryz.prog 99 #[.string s, .int .i64 (p : Int)] w (RWordP s p w) := by
 have hp : ((p : Int) == (s.size : Int)) = false := by rw [beq_eq_false_iff_ne]; omega
 have hsl : s.data.toList.length = s.size := by show _ = s.data.size; simp
 obtain ⟨c, hc⟩ : ∃ c, c = s[p] := ⟨_, rfl⟩
 have hkc : s[p] = c := hc.symm
 rw [hkc] at hl
 have hc255 : (c.toNat : Int) ≤ 255 := by have := c.toNat_lt; omega
 have hc0 : (0 : Int) ≤ (c.toNat : Int) := by omega
 have HK := Lib.hid (fun W => kind_any (c.toNat : Int) W)
 rw [kindZ_let hl] at HK
 obtain ⟨n, hn⟩ : ∃ n, n = spanR namP (s.data.toList.drop p) := ⟨_, rfl⟩
 have HN := Lib.hid hn
 have HSL := Lib.hid hsl
 have HC := Lib.hid (show ∃ r, s.data.toList.drop p = c :: r from by rw [hc]; exact drop_first h0)
 have HL := Lib.hid hl
 have hle := spanR_le namP (s.data.toList.drop p)
 rw [← hn, List.length_drop, hsl] at hle
 have hn1 : 1 ≤ n := by
   obtain ⟨r, hr⟩ := HC.out
   rw [hn, hr]
   unfold spanR
   rw [List.takeWhile_cons, if_pos (by unfold namP; rw [hl]; rfl)]
   simp
 clear hn hsl hc hl
 go_enter Tryz.func99, Tryz.ntmps99
 go_wp2_with (first
   | (go_at_call 98; (with_reducible refine (HK.out _).mono ?_); rintro e' w4 ⟨rfl, rfl⟩)
   | fail)
 go_loop [8] (fun i => ∃ k : Nat, p ≤ k ∧ k ≤ s.size ∧ i = .int .i64 k ∧ Hid (∀ j d, j < k - p → (s.data.toList.drop p)[j]? = some d → namP (d.toNat : Int) = true)) (fun i => s.size - (intOf i).toNat)
 case atStart => exact ⟨p, Nat.le_refl _, Nat.le_of_lt h0, rfl, Lib.hid (fun j d h => absurd h (by omega))⟩
 case round =>
   obtain ⟨k, hpk, hk, rfl, HC1⟩ := hrel
   by_cases hgo : ∃ h : k < s.size, namP (s[k].toNat : Int) = true
   · obtain ⟨hlt, hq⟩ := hgo
     obtain ⟨d, hd⟩ : ∃ d, d = s[k] := ⟨_, rfl⟩
     have hkd : s[k] = d := hd.symm
     rw [hkd] at hq
     have HC2 := Lib.hid (show ∀ j d, j < k + 1 - p → (s.data.toList.drop p)[j]? = some d → namP (d.toNat : Int) = true from fun j d' h1 h2 => by
       by_cases e : j = k - p
       · subst e
         rw [List.getElem?_drop, show p + (k - p) = k by omega, Array.getElem?_toList, Array.getElem?_eq_getElem (show k < s.data.size from hlt)] at h2
         cases h2
         exact hkd ▸ hq
       · exact HC1.out j d' (by omega) h2)
     have HKD := Lib.hid (fun W => kind_any (d.toNat : Int) W)
     have h1 := kindZ_is1 (d.toNat : Int)
     have h2 := kindZ_is2 (d.toNat : Int)
     have hd255 : (d.toNat : Int) ≤ 255 := by have := d.toNat_lt; omega
     have hd0 : (0 : Int) ≤ (d.toNat : Int) := by omega
     have hor : letP (d.toNat : Int) = true ∨ (letP (d.toNat : Int) = false ∧ digP (d.toNat : Int) = true) := by
       unfold namP at hq
       cases h : letP (d.toNat : Int) with
       | true => exact Or.inl rfl
       | false => rw [h] at hq; exact Or.inr ⟨rfl, hq⟩
     generalize kindZ (d.toNat : Int) = z at HKD h1 h2
     clear hq hd
     rcases hor with ho | ⟨ho, ho2⟩
     · rw [ho] at h1
       clear h2
       go_wp2_with (first
         | (go_at_call 98; (with_reducible refine (HKD.out _).mono ?_); rintro e' w4 ⟨rfl, rfl⟩)
         | fail)
       go_round
       case rel => exact ⟨k + 1, by omega, by omega, by go_num, HC2⟩
       case measure => simp [intOf] <;> omega
     · rw [ho] at h1
       rw [ho2] at h2
       go_wp2_with (first
         | (go_at_call 98; (with_reducible refine (HKD.out _).mono ?_); rintro e' w4 ⟨rfl, rfl⟩)
         | fail)
       go_round
       case rel => exact ⟨k + 1, by omega, by omega, by go_num, HC2⟩
       case measure => simp [intOf] <;> omega
   · have HE := Lib.hid (show k = p + n by
       by_cases hlt : k < s.size
       · have hq : namP (s[k].toNat : Int) = false := by
           cases h : namP (s[k].toNat : Int) with
           | false => rfl
           | true => exact absurd ⟨hlt, h⟩ hgo
         have h := span_stop namP (l := s.data.toList.drop p) (k := k - p) (c := s[k]) HC1.out (by rw [List.getElem?_drop, show p + (k - p) = k by omega, Array.getElem?_toList]; exact Array.getElem?_eq_getElem hlt) hq
         rw [HN.out, h]; omega
       · have h := span_all namP (l := s.data.toList.drop p) (fun j d h1 h2 => HC1.out j d (by rw [List.length_drop, HSL.out] at h1; omega) h2)
         rw [HN.out, h, List.length_drop, HSL.out]; omega)
     have hno : (((k : Int) < (s.size : Int)) = False) ∨ ∃ (h : k < s.size) (d : UInt8), s[k] = d ∧ (kindZ (d.toNat : Int) == 1) = false ∧ (kindZ (d.toNat : Int) == 2) = false := by
       by_cases h : k < s.size
       · right
         refine ⟨h, _, rfl, ?_, ?_⟩
         · rw [kindZ_is1]
           cases h3 : letP (s[k].toNat : Int) with
           | false => rfl
           | true => exact absurd ⟨h, by unfold namP; rw [h3]; rfl⟩ hgo
         · rw [kindZ_is2]
           cases h3 : digP (s[k].toNat : Int) with
           | false => rfl
           | true => exact absurd ⟨h, by unfold namP; rw [h3, Bool.or_true]⟩ hgo
       · exact Or.inl (eq_false (by omega))
     obtain ⟨V, hV⟩ : ∃ V, V = s.extract p k := ⟨_, rfl⟩
     have HVL := Lib.hid (show V.data.toList = (s.data.toList.drop p).take n by
       rw [hV, ByteArray.data_extract, Array.toList_extract, List.extract_eq_take_drop, HE.out, show p + n - p = n by omega])
     have hw2 : ∀ W, (Instr.slice 9 (.string s) (some (.int .i64 (p : Int))) (some (.int .i64 (k : Int))) none).run Tryz.prog W = .ok (.string V) W := fun W => by rw [hV]; exact slice_str s _ _ p k rfl rfl (by omega) (by omega) W
     have HVS := Lib.hid (show V.size ≤ 200 by rw [hV, ByteArray.size_extract]; omega)
     have HKW := Lib.hid (fun (W : World) => rkeyword_any V W HVS.out)
     have HST := Lib.hid (TwoTok.start w 1 V p).drew
     have HEN := Lib.hid (show ((p + n : Nat) : Int) = (k : Int) by have := HE.out; omega)
     have h12 : ((12 : Int) < (k : Int) - (p : Int)) = False := eq_false (by omega)
     have HWA := Lib.hid (show kwR V.data.toList = [] → WordAt (s.data.toList.drop p) 1 V n 0 from fun h => by
       obtain ⟨r, hr⟩ := HC.out
       refine Or.inr (Or.inl ⟨c, r, hr, HL.out, HN.out, hn1, by rw [List.length_drop, HSL.out]; omega, rfl, Or.inr ⟨by rw [← HVL.out]; exact h, rfl, HVL.out⟩⟩))
     have HWB := Lib.hid (show kwR V.data.toList ≠ [] → ∀ T, WordAt (s.data.toList.drop p) 2 T n 0 from fun h T => by
       obtain ⟨r, hr⟩ := HC.out
       refine Or.inr (Or.inl ⟨c, r, hr, HL.out, HN.out, hn1, by rw [List.length_drop, HSL.out]; omega, rfl, Or.inl ⟨by rw [← HVL.out]; exact h, rfl⟩⟩))
     generalize kwR V.data.toList = ku at HKW HWA HWB
     clear hgo hV
     by_cases hk0 : ku = []
     · subst hk0
       have HWA2 := Lib.hid (HWA.out rfl)
       clear HWA HWB
       have HKW := Lib.hid (show ∀ W, Calls Tryz.prog 117 #[.string V] W (RetV (.string ⟨#[]⟩) W) from HKW.out)
       rcases hno with hno | ⟨hlt, d, hd, hd1, hd2⟩
       · go_wp2_with fail
         go_region
         go_wp2_with (first
           | (go_at_call 117; (with_reducible refine (HKW.out _).mono ?_); rintro e' w5 ⟨rfl, hB5⟩; have HT := Lib.hid (HST.out.keep hB5); obtain ⟨q0, q1, q2, f0, f1, f2⟩ := HT.out.ans; obtain ⟨r0, r1, r2, g0, g1, g2⟩ := HT.out.tok; clear hB5)
           | fail)
         refine bodyPost_ret (v := wordV 1 V p k 0) (by simp [results, Tryz.results99, go_sem, q0, q1, q2, wordV, tokV]) rfl ⟨1, 0, V, n, by rw [HEN.out], HT.out.done _ _ _, HWA2.out⟩
       · have hd255 : (d.toNat : Int) ≤ 255 := by have := d.toNat_lt; omega
         have hd0 : (0 : Int) ≤ (d.toNat : Int) := by omega
         have HKD := Lib.hid (fun W => kind_any (d.toNat : Int) W)
         generalize kindZ (d.toNat : Int) = z at HKD hd1 hd2
         go_wp2_with (first
           | (go_at_call 98; (with_reducible refine (HKD.out _).mono ?_); rintro e' w4 ⟨rfl, rfl⟩)
           | fail)
         go_region
         go_wp2_with (first
           | (go_at_call 117; (with_reducible refine (HKW.out _).mono ?_); rintro e' w5 ⟨rfl, hB5⟩; have HT := Lib.hid (HST.out.keep hB5); obtain ⟨q0, q1, q2, f0, f1, f2⟩ := HT.out.ans; obtain ⟨r0, r1, r2, g0, g1, g2⟩ := HT.out.tok; clear hB5)
           | fail)
         refine bodyPost_ret (v := wordV 1 V p k 0) (by simp [results, Tryz.results99, go_sem, q0, q1, q2, wordV, tokV]) rfl ⟨1, 0, V, n, by rw [HEN.out], HT.out.done _ _ _, HWA2.out⟩
     · obtain ⟨KU, hKU⟩ : ∃ KU : ByteArray, KU = ⟨ku.toArray⟩ := ⟨_, rfl⟩
       have hne : (KU.toList == []) = false := text_ne (by rw [hKU]; show 0 < ku.toArray.size; simp; exact List.length_pos_iff.2 hk0)
       have HWB := Lib.hid (HWB.out hk0 KU)
       rw [← hKU] at HKW
       clear hk0 hKU
       rcases hno with hno | ⟨hlt, d, hd, hd1, hd2⟩
       · go_wp2_with fail
         go_region
         go_wp2_with (first
           | (go_at_call 117; (with_reducible refine (HKW.out _).mono ?_); rintro e' w5 ⟨rfl, hB5⟩; have HT := Lib.hid (HST.out.keep hB5); obtain ⟨q0, q1, q2, f0, f1, f2⟩ := HT.out.ans; obtain ⟨r0, r1, r2, g0, g1, g2⟩ := HT.out.tok; clear hB5)
           | fail)
         refine bodyPost_ret (v := wordV 2 KU p k 0) (by simp [results, Tryz.results99, go_sem, q0, q1, q2, wordV, tokV]) rfl ⟨2, 0, KU, n, by rw [HEN.out], ((HT.out.setK 2).setS KU).done _ _ _, HWB.out⟩
       · have hd255 : (d.toNat : Int) ≤ 255 := by have := d.toNat_lt; omega
         have hd0 : (0 : Int) ≤ (d.toNat : Int) := by omega
         have HKD := Lib.hid (fun W => kind_any (d.toNat : Int) W)
         generalize kindZ (d.toNat : Int) = z at HKD hd1 hd2
         go_wp2_with (first
           | (go_at_call 98; (with_reducible refine (HKD.out _).mono ?_); rintro e' w4 ⟨rfl, rfl⟩)
           | fail)
         go_region
         go_wp2_with (first
           | (go_at_call 117; (with_reducible refine (HKW.out _).mono ?_); rintro e' w5 ⟨rfl, hB5⟩; have HT := Lib.hid (HST.out.keep hB5); obtain ⟨q0, q1, q2, f0, f1, f2⟩ := HT.out.ans; obtain ⟨r0, r1, r2, g0, g1, g2⟩ := HT.out.tok; clear hB5)
           | fail)
         refine bodyPost_ret (v := wordV 2 KU p k 0) (by simp [results, Tryz.results99, go_sem, q0, q1, q2, wordV, tokV]) rfl ⟨2, 0, KU, n, by rw [HEN.out], ((HT.out.setK 2).setS KU).done _ _ _, HWB.out⟩
end Go.Proofs.YtcgpflkaejbkhaaGreatDoor
namespace Go.Proofs.YtcgpflkaejbkhaaGreatDoor
open Go.RowKit

set_option maxRecDepth 100000 in
set_option maxHeartbeats 8000000 in
theorem next_digit (m : Int) (t : Nat → Nat) (ht : ∀ j, j < 23 → finD (Ieee.double.read (t j)) = true) (s : ByteArray) (w : World) (hG : Glob m t w) (h0 : 0 < s.size) (hs : s.size ≤ 12) (hl : letP (s[0].toNat : Int) = false) (hd : digP (s[0].toNat : Int) = true) : Calls Tryz.prog 96 #[.string s] w (OtherP s w) := by
 have HNU := Lib.hid (show ∀ W, Glob m t W → Calls Tryz.prog 111 #[.string s] W (OtherP s W) from fun W g => number_any m t ht s W g h0 hs hd)
 have HG := Lib.hid hG
 obtain ⟨c, hc⟩ : ∃ c, c = s[0] := ⟨_, rfl⟩
 have hkc : s[0] = c := hc.symm
 rw [hkc] at hl hd
 have hc255 : (c.toNat : Int) ≤ 255 := by have := c.toNat_lt; omega
 have hc0 : (0 : Int) ≤ (c.toNat : Int) := by omega
 have hne := text_ne h0
 have HLE := Lib.hid (fun W => hl ▸ letter_any (c.toNat : Int) W)
 have HDI := Lib.hid (fun W => hd ▸ digit_any (c.toNat : Int) W)
 clear hl hd hc hG ht
 go_enter Tryz.func96, Tryz.ntmps96
 go_wp2_with (first
   | (go_at_call 107; (with_reducible refine (HLE.out _).mono ?_); rintro e w5 ⟨rfl, rfl⟩)
   | (go_at_call 109; (with_reducible refine (HDI.out _).mono ?_); rintro e w6 ⟨rfl, rfl⟩)
   | (go_at_call 111; (with_reducible refine (HNU.out _ (HG.out.keep (below1 w _))).mono ?_); rintro e w4 ⟨k, er, S, n, rfl, hB4, hP⟩; have HP := Lib.hid hP; have HK4 := Lib.hid (num_kept hB4); obtain ⟨r0, r1, r2, g0, g1, g2⟩ := num_cells HK4.out; clear hB4 hP; unfold nextV tokV)
   | fail)
 refine bodyPost_ret (v := nextV k S n er) (by simp [results, Tryz.results96, go_sem, r0, r1, r2, nextV, tokV]) rfl ⟨k, er, S, n, rfl, ?_, HP.out⟩
 exact ((HK4.out.2.setCell (p := ⟨w.heap.size, 0, none⟩) (Nat.le_refl _) _).setCell (p := ⟨w.heap.size, 1, none⟩) (Nat.le_refl _) _).setCell (p := ⟨w.heap.size, 2, none⟩) (Nat.le_refl _) _
end Go.Proofs.YtcgpflkaejbkhaaGreatDoor
namespace Go.Proofs.YtcgpflkaejbkhaaGreatDoor
open Go.RowKit

set_option maxRecDepth 100000 in
set_option maxHeartbeats 8000000 in
theorem next_quote (s : ByteArray) (w : World) (h0 : 0 < s.size) (hs : s.size ≤ 12) (hq : s[0] = 39) : Calls Tryz.prog 96 #[.string s] w (OtherP s w) := by
 have HNU := Lib.hid (show ∀ W, Calls Tryz.prog 112 #[.string s] W (OtherP s W) from fun W => text_any s W h0 hs)
 have hc39 : (((39 : UInt8).toNat : Nat) : Int) = 39 := rfl
 have hw39 : wrap32 39 = 39 := by decide +kernel
 have hne := text_ne h0
 have HLE := Lib.hid (show ∀ W, Calls Tryz.prog 107 #[.int .i32 39] W (SameV (.bool false) W) from fun W => letter_any 39 W)
 have HDI := Lib.hid (show ∀ W, Calls Tryz.prog 109 #[.int .i32 39] W (SameV (.bool false) W) from fun W => digit_any 39 W)
 go_enter Tryz.func96, Tryz.ntmps96
 go_wp2_with (first
   | (go_at_call 107; (with_reducible refine (HLE.out _).mono ?_); rintro e w5 ⟨rfl, rfl⟩)
   | (go_at_call 109; (with_reducible refine (HDI.out _).mono ?_); rintro e w6 ⟨rfl, rfl⟩)
   | (go_at_call 112; (with_reducible refine (HNU.out _).mono ?_); rintro e w4 ⟨k, er, S, n, rfl, hB4, hP⟩; have HP := Lib.hid hP; have HK4 := Lib.hid (num_kept hB4); obtain ⟨r0, r1, r2, g0, g1, g2⟩ := num_cells HK4.out; clear hB4 hP; unfold nextV tokV)
   | fail)
 refine bodyPost_ret (v := nextV k S n er) (by simp [results, Tryz.results96, go_sem, r0, r1, r2, nextV, tokV]) rfl ⟨k, er, S, n, rfl, ?_, HP.out⟩
 exact ((HK4.out.2.setCell (p := ⟨w.heap.size, 0, none⟩) (Nat.le_refl _) _).setCell (p := ⟨w.heap.size, 1, none⟩) (Nat.le_refl _) _).setCell (p := ⟨w.heap.size, 2, none⟩) (Nat.le_refl _) _
def NextP (s : ByteArray) (w : World) (e : Ending) (w' : World) : Prop := ∃ (k er : Int) (S : ByteArray) (n : Nat), e = .returned (nextV k S n er) ∧ Below w.heap.size w w' ∧ WordAt s.data.toList k S n er
theorem list_first {s : ByteArray} (h0 : 0 < s.size) : ∃ r, s.data.toList = s[0] :: r := by
 have hsl : s.data.toList.length = s.size := by show _ = s.data.size; simp
 cases hx : s.data.toList with
 | nil => rw [hx] at hsl; simp at hsl; omega
 | cons a l =>
   refine ⟨l, ?_⟩
   have : s.data.toList[0]? = some a := by rw [hx]; rfl
   rw [Array.getElem?_toList] at this
   rw [← (Array.getElem?_eq_some_iff.1 this).2]
   rfl
theorem other_next {s : ByteArray} {w : World} (h0 : 0 < s.size) (hl : letP (s[0].toNat : Int) = false) {e : Ending} {w' : World} (h : OtherP s w e w') : NextP s w e w' := by
 obtain ⟨k, er, S, n, h1, h2, h3⟩ := h
 have hsl : s.data.toList.length = s.size := by show _ = s.data.size; simp
 obtain ⟨r, hr⟩ := list_first h0
 exact ⟨k, er, S, n, h1, h2, Or.inr (Or.inr ⟨s[0], r, hr, hl, fun he => by rw [hsl]; exact h3 he⟩)⟩
theorem next_any (m : Int) (t : Nat → Nat) (ht : ∀ j, j < 23 → finD (Ieee.double.read (t j)) = true) (s : ByteArray) (w : World) (hG : Glob m t w) (hs : s.size ≤ 12) : Calls Tryz.prog 96 #[.string s] w (NextP s w) := by
 have hsl : s.data.toList.length = s.size := by show _ = s.data.size; simp
 by_cases h0 : 0 < s.size
 · obtain ⟨r, hr⟩ := list_first h0
   cases hl : letP (s[0].toNat : Int) with
   | true =>
     refine (next_letter s m w hG.mx h0 (by omega) hl).mono fun e w' h => ?_
     obtain ⟨rfl, hB⟩ := h
     have hle := spanR_le namP s.data.toList
     have h1 : 1 ≤ spanR namP s.data.toList := by
       refine span_pos namP s h0 ?_
       unfold namP
       rw [hl]; rfl
     unfold wordR
     dsimp only
     by_cases hk : kwR (s.data.toList.take (spanR namP s.data.toList)) ≠ []
     · rw [if_pos hk]
       exact ⟨2, 0, _, _, rfl, hB, Or.inr (Or.inl ⟨s[0], r, hr, hl, rfl, h1, hle, rfl, Or.inl ⟨hk, rfl⟩⟩)⟩
     · rw [if_neg hk, if_neg (by omega)]
       exact ⟨1, 0, _, _, rfl, hB, Or.inr (Or.inl ⟨s[0], r, hr, hl, rfl, h1, hle, rfl, Or.inr ⟨Decidable.not_not.1 hk, rfl, rfl⟩⟩)⟩
   | false =>
     cases hd : digP (s[0].toNat : Int) with
     | true => exact (next_digit m t ht s w hG h0 hs hl hd).mono fun e w' h => other_next h0 hl h
     | false =>
       by_cases hq : s[0] = 39
       · exact (next_quote s w h0 hs hq).mono fun e w' h => other_next h0 hl h
       · exact (next_sign s w h0 hl hd hq).mono fun e w' h => other_next h0 hl h
 · have hs0 : s = ⟨#[]⟩ := by
     have : s.data = #[] := Array.eq_empty_of_size_eq_zero (by show s.size = 0; omega)
     cases s with
     | mk d =>
       have h : d = #[] := this
       rw [h]
   subst hs0
   refine (next_end w).mono fun e w' h => ?_
   exact ⟨0, 0, ⟨#[]⟩, 0, h.1, h.2, Or.inl ⟨rfl, rfl, rfl⟩⟩
end Go.Proofs.YtcgpflkaejbkhaaGreatDoor
