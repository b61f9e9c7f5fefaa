/- The walks of Name, the program's and the document's, at any text of at most a hundred bytes. -/
import Derived.Test.YtacodkmbefhicaaGreatDoorRLex
namespace Go.Proofs.YtacodkmbefhicaaGreatDoor
open Go.RowKit

theorem nameB_long {L : List UInt8} (h : 12 < L.length) : nameB L = false := by
  cases hb : nameB L with
  | false => rfl
  | true => have := (nameB_iff.1 hb).1; omega
set_option maxRecDepth 100000 in
theorem lex_long (s : ByteArray) (w : World) (hs : 12 < s.size) : Calls Tryz.prog 9 #[.string s, .int .i64 12] w (LexP s.data.toList w) := by
  have HN := Lib.hid (nameB_long (L := s.data.toList) (by rw [Array.length_toList]; exact hs))
  have h12 : ((12 : Int) < (s.size : Int)) = True := eq_true (by omega)
  go_enter Tryz.func9, Tryz.ntmps9
  go_wp2_with fail
  exact bodyPost_ret (v := .tuple #[.slice none 0 0, .int .i64 0, .int .i64 4]) (by simp [results, Tryz.results9, go_sem]) rfl ⟨_, _, 4, rfl, Below.refl _ _, Or.inl ⟨by decide, HN.out⟩⟩
set_option maxRecDepth 100000 in
theorem rlex_long (s : ByteArray) (w : World) (hs : 12 < s.size) : Calls Tryz.prog 10 #[.string s, .int .i64 12] w (LexP s.data.toList w) := by
  have HN := Lib.hid (nameB_long (L := s.data.toList) (by rw [Array.length_toList]; exact hs))
  have h12 : ((12 : Int) < (s.size : Int)) = True := eq_true (by omega)
  go_enter Tryz.func10, Tryz.ntmps10
  go_wp2_with fail
  exact bodyPost_ret (v := .tuple #[.slice none 0 0, .int .i64 0, .int .i64 4]) (by simp [results, Tryz.results10, go_sem]) rfl ⟨_, _, 4, rfl, Below.refl _ _, Or.inl ⟨by decide, HN.out⟩⟩
theorem lex_all (m : Int) (t : Nat → Nat) (ht : ∀ j, j < 23 → finD (Ieee.double.read (t j)) = true) (s : ByteArray) (w : World) (hG : Glob m t w) : Calls Tryz.prog 9 #[.string s, .int .i64 12] w (LexP s.data.toList w) := by
  by_cases hs : s.size ≤ 12
  · exact lex_any m t ht s w hG hs
  · exact lex_long s w (by omega)
theorem rlex_all (m : Int) (t : Nat → Nat) (ht : ∀ j, j < 23 → finD (Ieee.double.read (t j)) = true) (s : ByteArray) (w : World) (hG : Glob m t w) : Calls Tryz.prog 10 #[.string s, .int .i64 12] w (LexP s.data.toList w) := by
  by_cases hs : s.size ≤ 12
  · exact rlex_any m t ht s w hG hs
  · exact rlex_long s w (by omega)
/-- what Lex answered, cell by cell -/
theorem lexfin_cells {w w' : World} {L : List UInt8} {v : Value} {cnt : Nat} {xs : List Value} (h : w'.ownsRow w.heap.size 41 3 v cnt xs) (hf : LexFin L cnt xs) :
    ∃ g cap k S, v = .slice (some ⟨g, 0, none⟩) cnt cap ∧ w'.cell? ⟨g, 0, none⟩ = some (.int .i64 k) ∧ w'.cell? ⟨g, 1, none⟩ = some (.string S) ∧ ((cnt = 2 ∧ k = 1 ∧ S.data.toList = L) ↔ nameB L = true) := by
  obtain ⟨h1, k, S, a, rest, rfl, hi⟩ := hf
  rcases h.2 with ⟨_, h0⟩ | ⟨g, cap, cur, rfl, _, hh, _, _, _, ht⟩
  · omega
  · refine ⟨g, cap, k, S, rfl, ?_, ?_, hi⟩
    · rw [cell_of_row w' g 0 _ _ _ hh]
      have e : (cur.toList.take (cnt * 3))[0]? = some (.int .i64 k) := by rw [ht]; rfl
      rw [List.getElem?_take_of_lt (by omega)] at e
      simpa using e
    · rw [cell_of_row w' g 1 _ _ _ hh]
      have e : (cur.toList.take (cnt * 3))[1]? = some (.string S) := by rw [ht]; rfl
      rw [List.getElem?_take_of_lt (by omega)] at e
      simpa using e
theorem list_inj {S s : ByteArray} (h : S.data.toList = s.data.toList) : S = s := by
  cases S; cases s; simp at h; rw [h]
theorem name_ways {cnt : Nat} {k : Int} {S s : ByteArray} {b : Bool} (h : (cnt = 2 ∧ k = 1 ∧ S.data.toList = s.data.toList) ↔ b = true) :
    (b = true ∧ cnt = 2 ∧ k = 1 ∧ S = s) ∨ (b = false ∧ (((cnt : Int) == 2) = false ∨ (cnt = 2 ∧ (k == 1) = false) ∨ (cnt = 2 ∧ k = 1 ∧ (S.toList == s.toList) = false))) := by
  cases b with
  | true =>
    obtain ⟨h1, h2, h3⟩ := h.2 rfl
    exact Or.inl ⟨rfl, h1, h2, list_inj h3⟩
  | false =>
    refine Or.inr ⟨rfl, ?_⟩
    by_cases h1 : cnt = 2
    · by_cases h2 : k = 1
      · refine Or.inr (Or.inr ⟨h1, h2, ?_⟩)
        rw [beq_eq_false_iff_ne, ByteArray.toList_eq, ByteArray.toList_eq]
        intro h3
        exact absurd (h.1 ⟨h1, h2, h3⟩) (by decide)
      · exact Or.inr (Or.inl ⟨h1, beq_eq_false_iff_ne.2 h2⟩)
    · refine Or.inl ?_
      rw [beq_eq_false_iff_ne]
      omega
set_option maxRecDepth 100000 in
set_option maxHeartbeats 8000000 in
theorem name_any (m : Int) (t : Nat → Nat) (ht : ∀ j, j < 23 → finD (Ieee.double.read (t j)) = true) (s : ByteArray) (w : World) (hG : Glob m t w) : Calls Tryz.prog 5 #[.string s] w (RetV (.bool (nameB s.data.toList)) w) := by
  have HL := Lib.hid (lex_all m t ht s w hG)
  clear hG ht
  go_enter Tryz.func5, Tryz.ntmps5
  go_wp2_with (first
    | (go_at_call 9; (with_reducible refine HL.out.mono ?_); rintro e w2 ⟨v, p, er, rfl, hB, hq⟩; have HB := Lib.hid hB; have HQ := Lib.hid hq; clear hB hq
       rcases (show (∃ hne : (er == 0) = false, nameB s.data.toList = false) ∨ (er = 0 ∧ ∃ cnt g cap k S, v = .slice (some ⟨g, 0, none⟩) cnt cap ∧ w2.cell? ⟨g, 0, none⟩ = some (.int .i64 k) ∧ w2.cell? ⟨g, 1, none⟩ = some (.string S) ∧ ((nameB s.data.toList = true ∧ cnt = 2 ∧ k = 1 ∧ S = s) ∨ (nameB s.data.toList = false ∧ (((cnt : Int) == 2) = false ∨ (cnt = 2 ∧ (k == 1) = false) ∨ (cnt = 2 ∧ k = 1 ∧ (S.toList == s.toList) = false))))) from by
          rcases HQ.out with ⟨h1, h2⟩ | ⟨h1, cnt, xs, h2, h3⟩
          · exact Or.inl ⟨beq_eq_false_iff_ne.2 h1, h2⟩
          · obtain ⟨g, cap, k, S, e1, e2, e3, e4⟩ := lexfin_cells h2 h3
            exact Or.inr ⟨h1, cnt, g, cap, k, S, e1, e2, e3, name_ways e4⟩) with ⟨he, hn⟩ | ⟨rfl, cnt, g, cap, k, S, rfl, c0, c1, ⟨hn, rfl, rfl, rfl⟩ | ⟨hn, hc | ⟨rfl, hc⟩ | ⟨rfl, rfl, hc⟩⟩⟩)
    | fail)
  all_goals
    go_ret
    exact ⟨by rw [hn]; rfl, HB.out⟩
set_option maxRecDepth 100000 in
set_option maxHeartbeats 8000000 in
theorem rname_any (m : Int) (t : Nat → Nat) (ht : ∀ j, j < 23 → finD (Ieee.double.read (t j)) = true) (s : ByteArray) (w : World) (hG : Glob m t w) : Calls Tryz.prog 6 #[.string s] w (RetV (.bool (nameB s.data.toList)) w) := by
  have HL := Lib.hid (rlex_all m t ht s w hG)
  clear hG ht
  go_enter Tryz.func6, Tryz.ntmps6
  go_wp2_with (first
    | (go_at_call 10; (with_reducible refine HL.out.mono ?_); rintro e w2 ⟨v, p, er, rfl, hB, hq⟩; have HB := Lib.hid hB; have HQ := Lib.hid hq; clear hB hq
       rcases (show (∃ hne : (er == 0) = false, nameB s.data.toList = false) ∨ (er = 0 ∧ ∃ cnt g cap k S, v = .slice (some ⟨g, 0, none⟩) cnt cap ∧ w2.cell? ⟨g, 0, none⟩ = some (.int .i64 k) ∧ w2.cell? ⟨g, 1, none⟩ = some (.string S) ∧ ((nameB s.data.toList = true ∧ cnt = 2 ∧ k = 1 ∧ S = s) ∨ (nameB s.data.toList = false ∧ (((cnt : Int) == 2) = false ∨ (cnt = 2 ∧ (k == 1) = false) ∨ (cnt = 2 ∧ k = 1 ∧ (S.toList == s.toList) = false))))) from by
          rcases HQ.out with ⟨h1, h2⟩ | ⟨h1, cnt, xs, h2, h3⟩
          · exact Or.inl ⟨beq_eq_false_iff_ne.2 h1, h2⟩
          · obtain ⟨g, cap, k, S, e1, e2, e3, e4⟩ := lexfin_cells h2 h3
            exact Or.inr ⟨h1, cnt, g, cap, k, S, e1, e2, e3, name_ways e4⟩) with ⟨he, hn⟩ | ⟨rfl, cnt, g, cap, k, S, rfl, c0, c1, ⟨hn, rfl, rfl, rfl⟩ | ⟨hn, hc | ⟨rfl, hc⟩ | ⟨rfl, rfl, hc⟩⟩⟩)
    | fail)
  all_goals
    go_ret
    exact ⟨by rw [hn]; rfl, HB.out⟩
end Go.Proofs.YtacodkmbefhicaaGreatDoor
