/- The walk of the document's Lex at any text of at most twelve bytes. The walks of Name, the program's and the document's, at any text of at most a hundred bytes. -/
import Derived.Test.YtcgpflkaejbkhaaGreatDoorJJ
import Derived.Test.YtcgpflkaejbkhaaGreatDoorJK
import Derived.Test.YtcgpflkaejbkhaaGreatDoorJH
namespace Go.Proofs.YtcgpflkaejbkhaaGreatDoor
open Go.RowKit

theorem rword_any (m : Int) (t : Nat → Nat) (ht : ∀ j, j < 23 → finD (Ieee.double.read (t j)) = true) (s : ByteArray) (p : Nat) (w : World) (hG : Glob m t w) (hs : s.size ≤ 12) (hp : p ≤ s.size) : Calls Tryz.prog 99 #[.string s, .int .i64 (p : Int)] w (RWordP s p w) := by
  by_cases h0 : p < s.size
  · cases hl : letP (s[p].toNat : Int) with
    | true => exact rword_letter s p w h0 hs hl
    | false =>
      cases hd : digP (s[p].toNat : Int) with
      | true => exact (rword_digit m t ht s p w hG h0 hs hd).mono fun e w' h => rother_word h0 hl h
      | false =>
        by_cases hq : s[p] = 39
        · exact (rword_quote s p w h0 hs hq).mono fun e w' h => rother_word h0 hl h
        · exact (rword_sign s p w h0 hs hl hd hq).mono fun e w' h => rother_word h0 hl h
  · exact rword_end s p w (by omega)
set_option maxRecDepth 100000 in
set_option maxHeartbeats 16000000 in
theorem rlex_any (m : Int) (t : Nat → Nat) (ht : ∀ j, j < 23 → finD (Ieee.double.read (t j)) = true) (s : ByteArray) (w : World) (hG : Glob m t w) (hs : s.size ≤ 12) : Calls Tryz.prog 70 #[.string s, .int .i64 12] w (LexP s.data.toList w) := by
  have HG := Lib.hid hG
  have HNX := Lib.hid (fun p W g h => rword_any m t ht s p W g hs h)
  have hsl : s.data.toList.length = s.size := by show _ = s.data.size; simp
  have HSL := Lib.hid hsl
  have h12n : s.data.toList.length ≤ 12 := by omega
  have h12 : ((12 : Int) < (s.size : Int)) = False := eq_false (by omega)
  clear hG ht hsl
  go_enter Tryz.func70, Tryz.ntmps70
  go_wp2_with fail
  go_loopw [7, 8] (fun v i wr => ∃ (cnt p : Nat) (xs : List Value), i = .int .i64 p ∧ Hid (LexInv s.data.toList cnt xs p) ∧ Hid (wr.ownsRow w.heap.size 102 3 v cnt xs) ∧ Hid (Below w.heap.size w wr)) (fun _ i _ => s.size + 1 - (intOf i).toNat)
  case atStart => exact ⟨0, 0, [], rfl, Lib.hid (lex_start _), Lib.hid (World.ownsRow_nil _ _ _ _), Lib.hid (Below.refl _ _)⟩
  case round =>
    obtain ⟨cnt, p, xs, rfl, HI, HO, HB⟩ := hrel
    obtain ⟨wo, rfl⟩ : ∃ wo : World, wo = wr := ⟨_, rfl⟩
    have hp : p ≤ s.size := by have := HI.out.1; rw [HSL.out] at this; exact this
    have hcnt : cnt ≤ p := HI.out.2.1
    obtain ⟨j, hj⟩ : ∃ j, j = spanR blaP (s.data.toList.drop p) := ⟨_, rfl⟩
    have HJ := Lib.hid hj
    have hpj : p + j ≤ s.size := by
      have h := spanR_le blaP (s.data.toList.drop p)
      rw [← hj, List.length_drop, HSL.out] at h
      omega
    clear hj
    go_wp2_with fail
    go_loop [8] (fun i => ∃ k : Nat, p ≤ k ∧ k ≤ s.size ∧ i = .int .i64 k ∧ Hid (∀ j d, j < k - p → (s.data.toList.drop p)[j]? = some d → blaP (d.toNat : Int) = true)) (fun i => s.size - (intOf i).toNat)
    case atStart => exact ⟨p, Nat.le_refl _, hp, rfl, Lib.hid (fun j d h => absurd h (by omega))⟩
    case round =>
      obtain ⟨k, hpk, hk, rfl, HC⟩ := hrel
      by_cases hgo : ∃ h : k < s.size, blaP (s[k].toNat : Int) = true
      · obtain ⟨hlt, hq⟩ := hgo
        obtain ⟨d, hd⟩ : ∃ d, d = s[k] := ⟨_, rfl⟩
        have hkd : s[k] = d := hd.symm
        rw [hkd] at hq
        have HC2 := Lib.hid (show ∀ j d, j < k + 1 - p → (s.data.toList.drop p)[j]? = some d → blaP (d.toNat : Int) = true from fun j d' h1 h2 => by
          by_cases e : j = k - p
          · subst e
            rw [List.getElem?_drop, show p + (k - p) = k by omega, Array.getElem?_toList, Array.getElem?_eq_getElem (show k < s.data.size from hlt)] at h2
            cases h2
            exact hkd ▸ hq
          · exact HC.out j d' (by omega) h2)
        have HKD := Lib.hid (fun W => kind_any (d.toNat : Int) W)
        have h3 := kindZ_is3 (d.toNat : Int)
        rw [hq] at h3
        have hd255 : (d.toNat : Int) ≤ 255 := by have := d.toNat_lt; omega
        have hd0 : (0 : Int) ≤ (d.toNat : Int) := by omega
        generalize kindZ (d.toNat : Int) = z at HKD h3
        clear hq hd
        go_wp2_with (first
          | (go_at_call 98; (with_reducible refine (HKD.out _).mono ?_); rintro e' w4 ⟨rfl, rfl⟩)
          | fail)
        go_round
        case rel => exact ⟨k + 1, by omega, by omega, by go_num, HC2⟩
        case measure => simp [intOf] <;> omega
      · have HE := Lib.hid (show k = p + j by
          by_cases hlt : k < s.size
          · have hq : blaP (s[k].toNat : Int) = false := by
              cases h : blaP (s[k].toNat : Int) with
              | false => rfl
              | true => exact absurd ⟨hlt, h⟩ hgo
            have h := span_stop blaP (l := s.data.toList.drop p) (k := k - p) (c := s[k]) HC.out (by rw [List.getElem?_drop, show p + (k - p) = k by omega, Array.getElem?_toList]; exact Array.getElem?_eq_getElem hlt) hq
            rw [HJ.out, h]; omega
          · have h := span_all blaP (l := s.data.toList.drop p) (fun j d h1 h2 => HC.out j d (by rw [List.length_drop, HSL.out] at h1; omega) h2)
            rw [HJ.out, h, List.length_drop, HSL.out]; omega)
        have hno : (((k : Int) < (s.size : Int)) = False) ∨ ∃ (h : k < s.size) (d : UInt8), s[k] = d ∧ (kindZ (d.toNat : Int) == 3) = false := by
          by_cases h : k < s.size
          · right
            refine ⟨h, _, rfl, ?_⟩
            rw [kindZ_is3]
            cases h3 : blaP (s[k].toNat : Int) with
            | false => rfl
            | true => exact absurd ⟨h, h3⟩ hgo
          · exact Or.inl (eq_false (by omega))
        have HKJ := Lib.hid (show p + spanR blaP (s.data.toList.drop p) = k by rw [← HJ.out]; exact HE.out.symm)
        have HNU := Lib.hid (show ∀ W, Glob m t W → Calls Tryz.prog 99 #[.string s, .int .i64 (k : Int)] W (RWordP s k W) from fun W g => HNX.out k W g hk)
        clear hgo
        rcases hno with hno | ⟨hlt, d, hd, hd3⟩
        · go_wp2_with (first
            | (go_at_call 99; (with_reducible refine (HNU.out _ (HG.out.keep HB.out)).mono ?_); rintro e w3 ⟨q, er, S, n, rfl, hB3, hW⟩; have HW3 := Lib.hid (HB.out.trans (hB3.mono HB.out.size)); have HX3 := Lib.hid hB3; have HWA := Lib.hid hW; clear hB3 hW; unfold wordV tokV
               rcases (show ((er ≠ 0 ∧ (er != 0) = true) ∨ (er = 0 ∧ q = 0)) ∨ (er = 0 ∧ q ≠ 0 ∧ (q == 0) = false ∧ 1 ≤ n ∧ k + n ≤ s.size ∧ Hid (LexInv s.data.toList (cnt + 1) (xs ++ [.int .i64 q, .string S, .int .i64 ((k : Nat) : Int)]) (k + n))) from by
                  rcases nx_cases er q with h | ⟨rfl, hk, hk2⟩
                  · exact Or.inl h
                  · have HLW := lex_word HI.out h12n (show WordAt (s.data.toList.drop (p + spanR blaP (s.data.toList.drop p))) q S n 0 by rw [HKJ.out]; exact HWA.out) hk (.int .i64 ((k : Nat) : Int))
                    rw [HKJ.out] at HLW
                    exact Or.inr ⟨rfl, hk, hk2, HLW.2, by have h := HLW.1.1; rw [HSL.out] at h; exact h, Lib.hid HLW.1⟩) with (⟨he, he2⟩ | ⟨rfl, rfl⟩) | ⟨rfl, hk, hk2, hn1, hn, HLI⟩)
            | (at_builtin
               go_loud (refine list_tok _ (by rfl) (.tmp 40) (.tmp 42) (by rfl) w.heap.size u7 cnt xs (by rfl) (own_kept HO.out ((HX3.out.alloc HX3.out.size _).alloc (by have := HX3.out.size; simp; omega) _) (Nat.le_refl _)) ⟨w3.heap.size + 1, 0, none⟩ 1 (.int .i64 _) (.string S) (.int .i64 ((k : Nat) : Int)) (by rfl) (by rfl) (by rfl) (by rfl) (tok_cells w3 _ _ _ _).1 (tok_cells w3 _ _ _ _).2.1 (tok_cells w3 _ _ _ _).2.2 (by omega) (by have := HW3.out.size; simp; omega) ?_)
               intro v4 w4 hown4 hg4
               have HO4 := Lib.hid hown4
               have HW4 := Lib.hid (((HW3.out.alloc HW3.out.size _).alloc (by have := HW3.out.size; simp; omega) _).grown hg4 (by have := HW3.out.size; simp; omega) (fun k hk => (HO.out.lt k hk).1))
               have r0 := tok_first w3 w4 HO.out HX3.out.size hg4
               clear hown4 hg4)
            | fail)
          · exact bodyPost_ret (v := .tuple #[.slice none 0 0, .int .i64 (k : Int), .int .i64 er]) (by simp [results, Tryz.results70, go_sem]) rfl ⟨_, _, er, rfl, HW3.out.alloc HW3.out.size _, Or.inl ⟨he, lex_err HI.out (show WordAt (s.data.toList.drop (p + spanR blaP (s.data.toList.drop p))) q S n er by rw [HKJ.out]; exact HWA.out) he⟩⟩
          · exact bodyPost_ret (v := .tuple #[v4, .int .i64 0, .int .i64 0]) (by simp [results, Tryz.results70, go_sem]) rfl ⟨v4, 0, 0, rfl, HW4.out, Or.inr ⟨rfl, cnt + 1, _, HO4.out, lex_end HI.out (show s.data.toList.drop (p + spanR blaP (s.data.toList.drop p)) = [] by rw [HKJ.out]; exact word_end HWA.out rfl) S _⟩⟩
          · go_roundw
            case rel => exact ⟨cnt + 1, k + n, _, by go_num, HLI, HO4, HW4⟩
            case measure => simp [intOf] <;> omega
        · have hd255 : (d.toNat : Int) ≤ 255 := by have := d.toNat_lt; omega
          have hd0 : (0 : Int) ≤ (d.toNat : Int) := by omega
          have HKD := Lib.hid (fun W => kind_any (d.toNat : Int) W)
          generalize kindZ (d.toNat : Int) = z at HKD hd3
          go_wp2_with (first
            | (go_at_call 98; (with_reducible refine (HKD.out _).mono ?_); rintro e' w2 ⟨rfl, rfl⟩)
            | (go_at_call 99; (with_reducible refine (HNU.out _ (HG.out.keep HB.out)).mono ?_); rintro e w3 ⟨q, er, S, n, rfl, hB3, hW⟩; have HW3 := Lib.hid (HB.out.trans (hB3.mono HB.out.size)); have HX3 := Lib.hid hB3; have HWA := Lib.hid hW; clear hB3 hW; unfold wordV tokV
               rcases (show ((er ≠ 0 ∧ (er != 0) = true) ∨ (er = 0 ∧ q = 0)) ∨ (er = 0 ∧ q ≠ 0 ∧ (q == 0) = false ∧ 1 ≤ n ∧ k + n ≤ s.size ∧ Hid (LexInv s.data.toList (cnt + 1) (xs ++ [.int .i64 q, .string S, .int .i64 ((k : Nat) : Int)]) (k + n))) from by
                  rcases nx_cases er q with h | ⟨rfl, hk, hk2⟩
                  · exact Or.inl h
                  · have HLW := lex_word HI.out h12n (show WordAt (s.data.toList.drop (p + spanR blaP (s.data.toList.drop p))) q S n 0 by rw [HKJ.out]; exact HWA.out) hk (.int .i64 ((k : Nat) : Int))
                    rw [HKJ.out] at HLW
                    exact Or.inr ⟨rfl, hk, hk2, HLW.2, by have h := HLW.1.1; rw [HSL.out] at h; exact h, Lib.hid HLW.1⟩) with (⟨he, he2⟩ | ⟨rfl, rfl⟩) | ⟨rfl, hk, hk2, hn1, hn, HLI⟩)
            | (at_builtin
               go_loud (refine list_tok _ (by rfl) (.tmp 40) (.tmp 42) (by rfl) w.heap.size u7 cnt xs (by rfl) (own_kept HO.out ((HX3.out.alloc HX3.out.size _).alloc (by have := HX3.out.size; simp; omega) _) (Nat.le_refl _)) ⟨w3.heap.size + 1, 0, none⟩ 1 (.int .i64 _) (.string S) (.int .i64 ((k : Nat) : Int)) (by rfl) (by rfl) (by rfl) (by rfl) (tok_cells w3 _ _ _ _).1 (tok_cells w3 _ _ _ _).2.1 (tok_cells w3 _ _ _ _).2.2 (by omega) (by have := HW3.out.size; simp; omega) ?_)
               intro v4 w4 hown4 hg4
               have HO4 := Lib.hid hown4
               have HW4 := Lib.hid (((HW3.out.alloc HW3.out.size _).alloc (by have := HW3.out.size; simp; omega) _).grown hg4 (by have := HW3.out.size; simp; omega) (fun k hk => (HO.out.lt k hk).1))
               have r0 := tok_first w3 w4 HO.out HX3.out.size hg4
               clear hown4 hg4)
            | fail)
          · exact bodyPost_ret (v := .tuple #[.slice none 0 0, .int .i64 (k : Int), .int .i64 er]) (by simp [results, Tryz.results70, go_sem]) rfl ⟨_, _, er, rfl, HW3.out.alloc HW3.out.size _, Or.inl ⟨he, lex_err HI.out (show WordAt (s.data.toList.drop (p + spanR blaP (s.data.toList.drop p))) q S n er by rw [HKJ.out]; exact HWA.out) he⟩⟩
          · exact bodyPost_ret (v := .tuple #[v4, .int .i64 0, .int .i64 0]) (by simp [results, Tryz.results70, go_sem]) rfl ⟨v4, 0, 0, rfl, HW4.out, Or.inr ⟨rfl, cnt + 1, _, HO4.out, lex_end HI.out (show s.data.toList.drop (p + spanR blaP (s.data.toList.drop p)) = [] by rw [HKJ.out]; exact word_end HWA.out rfl) S _⟩⟩
          · go_roundw
            case rel => exact ⟨cnt + 1, k + n, _, by go_num, HLI, HO4, HW4⟩
            case measure => simp [intOf] <;> omega
end Go.Proofs.YtcgpflkaejbkhaaGreatDoor
namespace Go.Proofs.YtcgpflkaejbkhaaGreatDoor
open Go.RowKit

theorem nameB_long {L : List UInt8} (h : 12 < L.length) : nameB L = false := by
  cases hb : nameB L with
  | false => rfl
  | true => have := (nameB_iff.1 hb).1; omega
set_option maxRecDepth 100000 in
theorem lex_long (s : ByteArray) (w : World) (hs : 12 < s.size) : Calls Tryz.prog 59 #[.string s, .int .i64 12] w (LexP s.data.toList w) := by
  have HN := Lib.hid (nameB_long (L := s.data.toList) (by rw [Array.length_toList]; exact hs))
  have h12 : ((12 : Int) < (s.size : Int)) = True := eq_true (by omega)
  go_enter Tryz.func59, Tryz.ntmps59
  go_wp2_with fail
  exact bodyPost_ret (v := .tuple #[.slice none 0 0, .int .i64 0, .int .i64 4]) (by simp [results, Tryz.results59, go_sem]) rfl ⟨_, _, 4, rfl, Below.refl _ _, Or.inl ⟨by decide, HN.out⟩⟩
set_option maxRecDepth 100000 in
theorem rlex_long (s : ByteArray) (w : World) (hs : 12 < s.size) : Calls Tryz.prog 70 #[.string s, .int .i64 12] w (LexP s.data.toList w) := by
  have HN := Lib.hid (nameB_long (L := s.data.toList) (by rw [Array.length_toList]; exact hs))
  have h12 : ((12 : Int) < (s.size : Int)) = True := eq_true (by omega)
  go_enter Tryz.func70, Tryz.ntmps70
  go_wp2_with fail
  exact bodyPost_ret (v := .tuple #[.slice none 0 0, .int .i64 0, .int .i64 4]) (by simp [results, Tryz.results70, go_sem]) rfl ⟨_, _, 4, rfl, Below.refl _ _, Or.inl ⟨by decide, HN.out⟩⟩
theorem lex_all (m : Int) (t : Nat → Nat) (ht : ∀ j, j < 23 → finD (Ieee.double.read (t j)) = true) (s : ByteArray) (w : World) (hG : Glob m t w) : Calls Tryz.prog 59 #[.string s, .int .i64 12] w (LexP s.data.toList w) := by
  by_cases hs : s.size ≤ 12
  · exact lex_any m t ht s w hG hs
  · exact lex_long s w (by omega)
theorem rlex_all (m : Int) (t : Nat → Nat) (ht : ∀ j, j < 23 → finD (Ieee.double.read (t j)) = true) (s : ByteArray) (w : World) (hG : Glob m t w) : Calls Tryz.prog 70 #[.string s, .int .i64 12] w (LexP s.data.toList w) := by
  by_cases hs : s.size ≤ 12
  · exact rlex_any m t ht s w hG hs
  · exact rlex_long s w (by omega)
/-- what Lex answered, cell by cell -/
theorem lexfin_cells {w w' : World} {L : List UInt8} {v : Value} {cnt : Nat} {xs : List Value} (h : w'.ownsRow w.heap.size 102 3 v cnt xs) (hf : LexFin L cnt xs) :
    ∃ g cap k S, v = .slice (some ⟨g, 0, none⟩) cnt cap ∧ w'.cell? ⟨g, 0, none⟩ = some (.int .i64 k) ∧ w'.cell? ⟨g, 1, none⟩ = some (.string S) ∧ ((cnt = 2 ∧ k = 1 ∧ S.data.toList = L) ↔ nameB L = true) := by
  obtain ⟨h1, k, S, a, rest, rfl, hi⟩ := hf
  rcases h.2 with ⟨_, h0⟩ | ⟨g, cap, cur, rfl, _, hh, _, _, _, ht⟩
  · omega
  · refine ⟨g, cap, k, S, rfl, ?_, ?_, hi⟩
    · rw [cell_of_row w' g 0 _ _ _ hh]
      have e : (cur.toList.take (cnt * 3))[0]? = some (.int .i64 k) := by rw [ht]; rfl
      rw [List.getElem?_take_of_lt (by omega)] at e
      simpa using e
    · rw [cell_of_row w' g 1 _ _ _ hh]
      have e : (cur.toList.take (cnt * 3))[1]? = some (.string S) := by rw [ht]; rfl
      rw [List.getElem?_take_of_lt (by omega)] at e
      simpa using e
theorem list_inj {S s : ByteArray} (h : S.data.toList = s.data.toList) : S = s := by
  cases S; cases s; simp at h; rw [h]
theorem name_ways {cnt : Nat} {k : Int} {S s : ByteArray} {b : Bool} (h : (cnt = 2 ∧ k = 1 ∧ S.data.toList = s.data.toList) ↔ b = true) :
    (b = true ∧ cnt = 2 ∧ k = 1 ∧ S = s) ∨ (b = false ∧ (((cnt : Int) == 2) = false ∨ (cnt = 2 ∧ (k == 1) = false) ∨ (cnt = 2 ∧ k = 1 ∧ (S.toList == s.toList) = false))) := by
  cases b with
  | true =>
    obtain ⟨h1, h2, h3⟩ := h.2 rfl
    exact Or.inl ⟨rfl, h1, h2, list_inj h3⟩
  | false =>
    refine Or.inr ⟨rfl, ?_⟩
    by_cases h1 : cnt = 2
    · by_cases h2 : k = 1
      · refine Or.inr (Or.inr ⟨h1, h2, ?_⟩)
        rw [beq_eq_false_iff_ne, ByteArray.toList_eq, ByteArray.toList_eq]
        intro h3
        exact absurd (h.1 ⟨h1, h2, h3⟩) (by decide)
      · exact Or.inr (Or.inl ⟨h1, beq_eq_false_iff_ne.2 h2⟩)
    · refine Or.inl ?_
      rw [beq_eq_false_iff_ne]
      omega
set_option maxRecDepth 100000 in
set_option maxHeartbeats 8000000 in
theorem name_any (m : Int) (t : Nat → Nat) (ht : ∀ j, j < 23 → finD (Ieee.double.read (t j)) = true) (s : ByteArray) (w : World) (hG : Glob m t w) : Calls Tryz.prog 28 #[.string s] w (RetV (.bool (nameB s.data.toList)) w) := by
  have HL := Lib.hid (lex_all m t ht s w hG)
  clear hG ht
  go_enter Tryz.func28, Tryz.ntmps28
  go_wp2_with (first
    | (go_at_call 59; (with_reducible refine HL.out.mono ?_); rintro e w2 ⟨v, p, er, rfl, hB, hq⟩; have HB := Lib.hid hB; have HQ := Lib.hid hq; clear hB hq
       rcases (show (∃ hne : (er == 0) = false, nameB s.data.toList = false) ∨ (er = 0 ∧ ∃ cnt g cap k S, v = .slice (some ⟨g, 0, none⟩) cnt cap ∧ w2.cell? ⟨g, 0, none⟩ = some (.int .i64 k) ∧ w2.cell? ⟨g, 1, none⟩ = some (.string S) ∧ ((nameB s.data.toList = true ∧ cnt = 2 ∧ k = 1 ∧ S = s) ∨ (nameB s.data.toList = false ∧ (((cnt : Int) == 2) = false ∨ (cnt = 2 ∧ (k == 1) = false) ∨ (cnt = 2 ∧ k = 1 ∧ (S.toList == s.toList) = false))))) from by
          rcases HQ.out with ⟨h1, h2⟩ | ⟨h1, cnt, xs, h2, h3⟩
          · exact Or.inl ⟨beq_eq_false_iff_ne.2 h1, h2⟩
          · obtain ⟨g, cap, k, S, e1, e2, e3, e4⟩ := lexfin_cells h2 h3
            exact Or.inr ⟨h1, cnt, g, cap, k, S, e1, e2, e3, name_ways e4⟩) with ⟨he, hn⟩ | ⟨rfl, cnt, g, cap, k, S, rfl, c0, c1, ⟨hn, rfl, rfl, rfl⟩ | ⟨hn, hc | ⟨rfl, hc⟩ | ⟨rfl, rfl, hc⟩⟩⟩)
    | fail)
  all_goals
    go_ret
    exact ⟨by rw [hn]; rfl, HB.out⟩
set_option maxRecDepth 100000 in
set_option maxHeartbeats 8000000 in
theorem rname_any (m : Int) (t : Nat → Nat) (ht : ∀ j, j < 23 → finD (Ieee.double.read (t j)) = true) (s : ByteArray) (w : World) (hG : Glob m t w) : Calls Tryz.prog 47 #[.string s] w (RetV (.bool (nameB s.data.toList)) w) := by
  have HL := Lib.hid (rlex_all m t ht s w hG)
  clear hG ht
  go_enter Tryz.func47, Tryz.ntmps47
  go_wp2_with (first
    | (go_at_call 70; (with_reducible refine HL.out.mono ?_); rintro e w2 ⟨v, p, er, rfl, hB, hq⟩; have HB := Lib.hid hB; have HQ := Lib.hid hq; clear hB hq
       rcases (show (∃ hne : (er == 0) = false, nameB s.data.toList = false) ∨ (er = 0 ∧ ∃ cnt g cap k S, v = .slice (some ⟨g, 0, none⟩) cnt cap ∧ w2.cell? ⟨g, 0, none⟩ = some (.int .i64 k) ∧ w2.cell? ⟨g, 1, none⟩ = some (.string S) ∧ ((nameB s.data.toList = true ∧ cnt = 2 ∧ k = 1 ∧ S = s) ∨ (nameB s.data.toList = false ∧ (((cnt : Int) == 2) = false ∨ (cnt = 2 ∧ (k == 1) = false) ∨ (cnt = 2 ∧ k = 1 ∧ (S.toList == s.toList) = false))))) from by
          rcases HQ.out with ⟨h1, h2⟩ | ⟨h1, cnt, xs, h2, h3⟩
          · exact Or.inl ⟨beq_eq_false_iff_ne.2 h1, h2⟩
          · obtain ⟨g, cap, k, S, e1, e2, e3, e4⟩ := lexfin_cells h2 h3
            exact Or.inr ⟨h1, cnt, g, cap, k, S, e1, e2, e3, name_ways e4⟩) with ⟨he, hn⟩ | ⟨rfl, cnt, g, cap, k, S, rfl, c0, c1, ⟨hn, rfl, rfl, rfl⟩ | ⟨hn, hc | ⟨rfl, hc⟩ | ⟨rfl, rfl, hc⟩⟩⟩)
    | fail)
  all_goals
    go_ret
    exact ⟨by rw [hn]; rfl, HB.out⟩
end Go.Proofs.YtcgpflkaejbkhaaGreatDoor
