/- Which words are keywords: plain. -/
import Derived.Lib.Index
import Derived.Lib.IndexLaws
import Derived.Lib.Strings
namespace Go.Proofs.YtacodkmbefhicaaGreatDoor
open Go

def kws : List (List UInt8) := [[83, 69, 76, 69, 67, 84], [70, 82, 79, 77], [87, 72, 69, 82, 69], [71, 82, 79, 85, 80], [66, 89], [79, 82, 68, 69, 82], [65, 83, 67], [68, 69, 83, 67], [76, 73, 77, 73, 84], [65, 83], [74, 79, 73, 78], [79, 78], [65, 78, 68], [79, 82], [78, 79, 84], [73, 83], [78, 85, 76, 76], [84, 82, 85, 69], [70, 65, 76, 83, 69], [67, 79, 85, 78, 84], [83, 85, 77], [77, 73, 78], [77, 65, 88], [73, 78, 83, 69, 82, 84], [73, 78, 84, 79], [86, 65, 76, 85, 69, 83], [85, 80, 68, 65, 84, 69], [83, 69, 84], [68, 69, 76, 69, 84, 69], [67, 82, 69, 65, 84, 69], [84, 65, 66, 76, 69], [68, 82, 79, 80], [73, 78, 84], [82, 69, 65, 76], [84, 69, 88, 84]]
def kwText : List UInt8 := [32, 83, 69, 76, 69, 67, 84, 32, 70, 82, 79, 77, 32, 87, 72, 69, 82, 69, 32, 71, 82, 79, 85, 80, 32, 66, 89, 32, 79, 82, 68, 69, 82, 32, 65, 83, 67, 32, 68, 69, 83, 67, 32, 76, 73, 77, 73, 84, 32, 65, 83, 32, 74, 79, 73, 78, 32, 79, 78, 32, 65, 78, 68, 32, 79, 82, 32, 78, 79, 84, 32, 73, 83, 32, 78, 85, 76, 76, 32, 84, 82, 85, 69, 32, 70, 65, 76, 83, 69, 32, 67, 79, 85, 78, 84, 32, 83, 85, 77, 32, 77, 73, 78, 32, 77, 65, 88, 32, 73, 78, 83, 69, 82, 84, 32, 73, 78, 84, 79, 32, 86, 65, 76, 85, 69, 83, 32, 85, 80, 68, 65, 84, 69, 32, 83, 69, 84, 32, 68, 69, 76, 69, 84, 69, 32, 67, 82, 69, 65, 84, 69, 32, 84, 65, 66, 76, 69, 32, 68, 82, 79, 80, 32, 73, 78, 84, 32, 82, 69, 65, 76, 32, 84, 69, 88, 84, 32]
def upB (c : UInt8) : UInt8 := if 97 ≤ c && c ≤ 122 then c - 32 else c
def isLow (c : UInt8) : Bool := 97 ≤ c && c ≤ 122
def isCap (c : UInt8) : Bool := 65 ≤ c && c ≤ 90
/-- a keyword in capitals, if a word is one in any letters; empty: it is none -/
def kwR (l : List UInt8) : List UInt8 := if l.map upB ∈ kws then l.map upB else []
theorem kws_caps : ∀ w ∈ kws, w ≠ [] ∧ ∀ c ∈ w, isCap c = true := by decide
theorem upB_cap : ∀ c : UInt8, isCap (upB c) = true → isLow c = true ∨ isCap c = true := by
  intro c h
  unfold upB at h
  split at h
  · rename_i h1; left; exact h1
  · right; exact h
/-- the pieces of a text between two blanks -/
def pieces (l : List UInt8) : List (List UInt8) := (List.range l.length).filterMap fun i => if l[i]? = some 32 then some ((l.drop (i + 1)).takeWhile (· ≠ 32)) else none
theorem kw_pieces : pieces kwText = kws ++ [[]] := by decide +kernel
theorem takeWhile_word {u r : List UInt8} (h : ∀ c ∈ u, c ≠ 32) : (u ++ 32 :: r).takeWhile (· ≠ 32) = u := by
  induction u with
  | nil => simp
  | cons x u ih =>
    rw [List.cons_append, List.takeWhile_cons, if_pos (by simpa using h x (by simp)), ih (fun c hc => h c (by simp [hc]))]
theorem kw_in {u : List UInt8} (hu : u ≠ []) (h : ∀ c ∈ u, c ≠ 32) {i : Nat} (ho : (32 :: u ++ [32]).isPrefixOf (kwText.drop i) = true) : u ∈ kws := by
  rw [List.isPrefixOf_iff_prefix] at ho
  obtain ⟨r, hr⟩ := ho
  have hi : i < kwText.length := by
    rcases Nat.lt_or_ge i kwText.length with g | g
    · exact g
    · rw [List.drop_eq_nil_of_le g] at hr; simp at hr
  have h0 : kwText[i]? = some 32 := by
    have := congrArg (·[0]?) hr
    simpa [List.getElem?_drop] using this.symm
  have h1 : kwText.drop (i + 1) = u ++ 32 :: r := by
    have := congrArg (List.drop 1) hr
    simpa [List.drop_drop] using this.symm
  have hm : u ∈ pieces kwText := by
    unfold pieces
    rw [List.mem_filterMap]
    exact ⟨i, List.mem_range.2 hi, by rw [if_pos h0, h1, takeWhile_word h]⟩
  rw [kw_pieces] at hm
  rcases List.mem_append.1 hm with hm | hm
  · exact hm
  · exact absurd (List.mem_singleton.1 hm) hu
theorem kw_all : ∀ u ∈ kws, (0 : Int) ≤ Lib.index kwText (32 :: u ++ [32]) := by decide +kernel
theorem index_place : ∀ (s sub : List UInt8), 0 ≤ Lib.index s sub → ∃ i, sub.isPrefixOf (s.drop i) = true := by
  intro s sub
  induction s with
  | nil =>
    intro h
    unfold Lib.index at h
    split at h
    · rename_i he
      exact ⟨0, by cases sub with | nil => rfl | cons a l => simp at he⟩
    · omega
  | cons b l ih =>
    intro h
    unfold Lib.index at h
    split at h
    · rename_i hp
      exact ⟨0, hp⟩
    · split at h
      · omega
      · rename_i hne
        have hge := Lib.index_ge l sub
        have : Lib.index l sub ≠ -1 := by simpa using hne
        obtain ⟨i, hi⟩ := ih (by omega)
        exact ⟨i + 1, hi⟩
/-- the text of the keywords holds a word of capitals, with a blank about it, if it is one -/
theorem kw_text {u : List UInt8} (hu : u ≠ []) (h : ∀ c ∈ u, isCap c = true) : decide ((0 : Int) ≤ Lib.index kwText (32 :: u ++ [32])) = decide (u ∈ kws) := by
  by_cases hk : u ∈ kws
  · rw [decide_eq_true hk, decide_eq_true (kw_all u hk)]
  · rw [decide_eq_false hk, decide_eq_false]
    intro h0
    obtain ⟨i, hi⟩ := index_place _ _ h0
    exact hk (kw_in hu (fun c hc e => by have := h c hc; rw [e] at this; exact absurd this (by decide)) hi)
end Go.Proofs.YtacodkmbefhicaaGreatDoor
