/- Which words are keywords: plain. Small words for this claim: what a call answers; bytes in a block of their own. The walk of Keyword. The walks of the document's Words and Keyword. -/
import Derived.Lib.Index
import Derived.Lib.IndexLaws
import Derived.Lib.Strings
import Derived.Test.YtcgpflkaejbkhaaGreatDoorJA
import Derived.Test.YtcgpflkaejbkhaaGreatDoorRows
import Derived.Below
import Derived.WalkKit
import Derived.WalkSmall
import Derived.ProofKit
import Derived.Lib.Hide
import Derived.IntWalk
import Derived.Laws.IdiomStrings
import Derived.Laws.Concat
namespace Go.Proofs.YtcgpflkaejbkhaaGreatDoor
open Go

def kws : List (List UInt8) := [[83, 69, 76, 69, 67, 84], [70, 82, 79, 77], [87, 72, 69, 82, 69], [71, 82, 79, 85, 80], [66, 89], [79, 82, 68, 69, 82], [65, 83, 67], [68, 69, 83, 67], [76, 73, 77, 73, 84], [65, 83], [74, 79, 73, 78], [79, 78], [65, 78, 68], [79, 82], [78, 79, 84], [73, 83], [78, 85, 76, 76], [84, 82, 85, 69], [70, 65, 76, 83, 69], [67, 79, 85, 78, 84], [83, 85, 77], [77, 73, 78], [77, 65, 88], [73, 78, 83, 69, 82, 84], [73, 78, 84, 79], [86, 65, 76, 85, 69, 83], [85, 80, 68, 65, 84, 69], [83, 69, 84], [68, 69, 76, 69, 84, 69], [67, 82, 69, 65, 84, 69], [84, 65, 66, 76, 69], [68, 82, 79, 80], [73, 78, 84], [82, 69, 65, 76], [84, 69, 88, 84]]
def kwText : List UInt8 := [32, 83, 69, 76, 69, 67, 84, 32, 70, 82, 79, 77, 32, 87, 72, 69, 82, 69, 32, 71, 82, 79, 85, 80, 32, 66, 89, 32, 79, 82, 68, 69, 82, 32, 65, 83, 67, 32, 68, 69, 83, 67, 32, 76, 73, 77, 73, 84, 32, 65, 83, 32, 74, 79, 73, 78, 32, 79, 78, 32, 65, 78, 68, 32, 79, 82, 32, 78, 79, 84, 32, 73, 83, 32, 78, 85, 76, 76, 32, 84, 82, 85, 69, 32, 70, 65, 76, 83, 69, 32, 67, 79, 85, 78, 84, 32, 83, 85, 77, 32, 77, 73, 78, 32, 77, 65, 88, 32, 73, 78, 83, 69, 82, 84, 32, 73, 78, 84, 79, 32, 86, 65, 76, 85, 69, 83, 32, 85, 80, 68, 65, 84, 69, 32, 83, 69, 84, 32, 68, 69, 76, 69, 84, 69, 32, 67, 82, 69, 65, 84, 69, 32, 84, 65, 66, 76, 69, 32, 68, 82, 79, 80, 32, 73, 78, 84, 32, 82, 69, 65, 76, 32, 84, 69, 88, 84, 32]
def upB (c : UInt8) : UInt8 := if 97 ≤ c && c ≤ 122 then c - 32 else c
def isLow (c : UInt8) : Bool := 97 ≤ c && c ≤ 122
def isCap (c : UInt8) : Bool := 65 ≤ c && c ≤ 90
/-- a keyword in capitals, if a word is one in any letters; empty: it is none -/
def kwR (l : List UInt8) : List UInt8 := if l.map upB ∈ kws then l.map upB else []
theorem kws_caps : ∀ w ∈ kws, w ≠ [] ∧ ∀ c ∈ w, isCap c = true := by decide
theorem upB_cap : ∀ c : UInt8, isCap (upB c) = true → isLow c = true ∨ isCap c = true := by
  intro c h
  unfold upB at h
  split at h
  · rename_i h1; left; exact h1
  · right; exact h
/-- the pieces of a text between two blanks -/
def pieces (l : List UInt8) : List (List UInt8) := (List.range l.length).filterMap fun i => if l[i]? = some 32 then some ((l.drop (i + 1)).takeWhile (· ≠ 32)) else none
theorem kw_pieces : pieces kwText = kws ++ [[]] := by decide +kernel
theorem takeWhile_word {u r : List UInt8} (h : ∀ c ∈ u, c ≠ 32) : (u ++ 32 :: r).takeWhile (· ≠ 32) = u := by
  induction u with
  | nil => simp
  | cons x u ih =>
    rw [List.cons_append, List.takeWhile_cons, if_pos (by simpa using h x (by simp)), ih (fun c hc => h c (by simp [hc]))]
theorem kw_in {u : List UInt8} (hu : u ≠ []) (h : ∀ c ∈ u, c ≠ 32) {i : Nat} (ho : (32 :: u ++ [32]).isPrefixOf (kwText.drop i) = true) : u ∈ kws := by
  rw [List.isPrefixOf_iff_prefix] at ho
  obtain ⟨r, hr⟩ := ho
  have hi : i < kwText.length := by
    rcases Nat.lt_or_ge i kwText.length with g | g
    · exact g
    · rw [List.drop_eq_nil_of_le g] at hr; simp at hr
  have h0 : kwText[i]? = some 32 := by
    have := congrArg (·[0]?) hr
    simpa [List.getElem?_drop] using this.symm
  have h1 : kwText.drop (i + 1) = u ++ 32 :: r := by
    have := congrArg (List.drop 1) hr
    simpa [List.drop_drop] using this.symm
  have hm : u ∈ pieces kwText := by
    unfold pieces
    rw [List.mem_filterMap]
    exact ⟨i, List.mem_range.2 hi, by rw [if_pos h0, h1, takeWhile_word h]⟩
  rw [kw_pieces] at hm
  rcases List.mem_append.1 hm with hm | hm
  · exact hm
  · exact absurd (List.mem_singleton.1 hm) hu
theorem kw_all : ∀ u ∈ kws, (0 : Int) ≤ Lib.index kwText (32 :: u ++ [32]) := by decide +kernel
theorem index_place : ∀ (s sub : List UInt8), 0 ≤ Lib.index s sub → ∃ i, sub.isPrefixOf (s.drop i) = true := by
  intro s sub
  induction s with
  | nil =>
    intro h
    unfold Lib.index at h
    split at h
    · rename_i he
      exact ⟨0, by cases sub with | nil => rfl | cons a l => simp at he⟩
    · omega
  | cons b l ih =>
    intro h
    unfold Lib.index at h
    split at h
    · rename_i hp
      exact ⟨0, hp⟩
    · split at h
      · omega
      · rename_i hne
        have hge := Lib.index_ge l sub
        have : Lib.index l sub ≠ -1 := by simpa using hne
        obtain ⟨i, hi⟩ := ih (by omega)
        exact ⟨i + 1, hi⟩
/-- the text of the keywords holds a word of capitals, with a blank about it, if it is one -/
theorem kw_text {u : List UInt8} (hu : u ≠ []) (h : ∀ c ∈ u, isCap c = true) : decide ((0 : Int) ≤ Lib.index kwText (32 :: u ++ [32])) = decide (u ∈ kws) := by
  by_cases hk : u ∈ kws
  · rw [decide_eq_true hk, decide_eq_true (kw_all u hk)]
  · rw [decide_eq_false hk, decide_eq_false]
    intro h0
    obtain ⟨i, hi⟩ := index_place _ _ h0
    exact hk (kw_in hu (fun c hc e => by have := h c hc; rw [e] at this; exact absurd this (by decide)) hi)
end Go.Proofs.YtcgpflkaejbkhaaGreatDoor
namespace Go.Proofs.YtcgpflkaejbkhaaGreatDoor
open Go.RowKit

def RetV (v : Value) (w : World) (e : Ending) (w' : World) : Prop := e = .returned v ∧ Below w.heap.size w w'
def RetT (w : World) (e : Ending) (w' : World) : Prop := e = .returned (.bool true) ∧ Below w.heap.size w w'
theorem ret_bool {a b : Bool} (h : a = b) : Ending.returned (.bool a) = .returned (.bool b) := by rw [h]
theorem below1 (w : World) (o : Obj) : Below w.heap.size w (w.alloc o) := (Below.refl _ _).alloc (Nat.le_refl _) _
theorem cell_kept {w w2 : World} {b o : Nat} {v : Value} (h : w.cell? ⟨b, o, none⟩ = some v) (hB : Below w.heap.size w w2) : w2.cell? ⟨b, o, none⟩ = some v := (hB.cell (p := ⟨b, o, none⟩) (World.block_lt_of_cell? w _ h)).trans h
theorem heap_lt {W : World} {g : Nat} {o : Obj} (q : W.heap[g]? = some o) : g < W.heap.size := (Array.getElem?_eq_some_iff.1 q).1
theorem heap_setFar {W : World} {b j k : Nat} (v : Value) (h : k ≠ b) : (W.setCell ⟨b, j, none⟩ v).heap[k]? = W.heap[k]? := by
  simp only [World.setCell, Array.getElem?_modify]
  rw [if_neg (fun e => h e.symm)]

/-- a byte as a cell -/
def byteV (c : UInt8) : Value := .int .u8 (c.toNat : Int)
/-- a block whose first cells are bytes -/
def BytesAt (W : World) (b : Nat) (l : List UInt8) : Prop := ∃ (rest : List Value) (N : Nat), W.heap[b]? = some (.cells (l.map byteV ++ rest).toArray 5 (N, N + 1)) ∧ N = l.length + rest.length
theorem BytesAt.keep {W w2 : World} {b : Nat} {l : List UInt8} (h : BytesAt W b l) (hB : Below W.heap.size W w2) : BytesAt w2 b l := by
  obtain ⟨rest, N, h1, h2⟩ := h
  exact ⟨rest, N, (hB.block b (heap_lt h1)).trans h1, h2⟩
theorem BytesAt.lt {W : World} {b : Nat} {l : List UInt8} (h : BytesAt W b l) : b < W.heap.size := by
  obtain ⟨rest, N, h1, h2⟩ := h
  exact heap_lt h1
theorem BytesAt.cell {W : World} {b : Nat} {l : List UInt8} (h : BytesAt W b l) {j : Nat} {c : UInt8} (hj : l[j]? = some c) : W.cell? ⟨b, j, none⟩ = some (.int .u8 (c.toNat : Int)) := by
  obtain ⟨rest, N, h1, h2⟩ := h
  have hlt := (List.getElem?_eq_some_iff.1 hj).1
  rw [cell_of_row W b j _ _ _ h1, List.getElem?_toArray, List.getElem?_append_left (by simpa using hlt), List.getElem?_map, hj]
  rfl
theorem BytesAt.free {W : World} {b : Nat} {l : List UInt8} (h : BytesAt W b l) {j : Nat} (hj : j < l.length) : W.frozen? ⟨b, j, none⟩ = false := by
  obtain ⟨rest, N, h1, h2⟩ := h
  have : ¬ N ≤ j := by omega
  simp [World.frozen?, h1, this]
theorem BytesAt.set {W : World} {b : Nat} {l : List UInt8} (h : BytesAt W b l) {j : Nat} (hj : j < l.length) (c : UInt8) (z : Int) (hz : z = (c.toNat : Int)) : BytesAt (W.setCell ⟨b, j, none⟩ (.int .u8 z)) b (l.set j c) := by
  obtain ⟨rest, N, h1, h2⟩ := h
  subst hz
  refine ⟨rest, N, ?_, by rw [List.length_set]; exact h2⟩
  rw [setCell_eq_setRow W b j _ 5 _ _ h1, setRow_heap W b _ _ 5 _ h1]
  congr 2
  apply Array.ext'
  simp [hj, List.map_set, byteV]
/-- '[]byte(s)' -/
theorem conv_bytes (w : World) (s : ByteArray) : (convert 9 55 (.string s)).run Tryz.prog w = .ok (.slice (some ⟨w.heap.size, 0, none⟩) s.size (grownCap w s.size 0 5))
      (w.drew.alloc (.cells (bytesRow s (grownCap w s.size 0 5)) 5 ((bytesRow s (grownCap w s.size 0 5)).size, (bytesRow s (grownCap w s.size 0 5)).size + 1))) :=
  run_bytes_of_string w 9 55 5 s Tryz.underlying9 Tryz.underlying55 Tryz.underlying5
theorem bytes_new (w : World) (s : ByteArray) (cap : Nat) : BytesAt (w.drew.alloc (.cells (bytesRow s cap) 5 ((bytesRow s cap).size, (bytesRow s cap).size + 1))) w.heap.size s.data.toList := by
  refine ⟨List.replicate (cap - s.size) (.int .u8 0), (bytesRow s cap).size, ?_, by unfold bytesRow; rw [Array.size_append, Array.size_map, Array.size_replicate, List.length_replicate]; rfl⟩
  have := heap_alloc_new w.drew (.cells (bytesRow s cap) 5 ((bytesRow s cap).size, (bytesRow s cap).size + 1))
  refine this.trans ?_
  congr 2
  apply Array.ext'
  simp [bytesRow]
  intro a _
  rfl
/-- 'string(b)' -/
theorem BytesAt.text {W : World} {b : Nat} {l : List UInt8} (h : BytesAt W b l) (n cap : Nat) (hn : n = l.length) : (convert 55 9 (.slice (some ⟨b, 0, none⟩) n cap)).run Tryz.prog W = .ok (.string ⟨l.toArray⟩) W := by
  subst hn
  exact run_convert_bytes_back W 55 9 5 ⟨b, 0, none⟩ cap l Tryz.underlying55 Tryz.underlying5 Tryz.underlying9 (fun j hj => by
    rw [Addr.add_lit, Nat.zero_add]
    exact h.cell (List.getElem?_eq_getElem hj))
theorem add_text (w : World) (a b : ByteArray) (h : a.size + b.size ≤ 1000) : (Op.stringOp .add a b).run Tryz.prog w = .ok (.string (a ++ b)) w := run_string_add_sum w a b (by omega)
end Go.Proofs.YtcgpflkaejbkhaaGreatDoor
namespace Go.Proofs.YtcgpflkaejbkhaaGreatDoor
open Go.RowKit

def kwV (l : List UInt8) : Value := .tuple #[.string ⟨(kwR l).toArray⟩, .bool (decide (kwR l ≠ []))]
theorem upB_low {c : UInt8} (h1 : 97 ≤ c.toNat) (h2 : c.toNat ≤ 122) : ((upB c).toNat : Int) = (c.toNat : Int) - 32 ∧ isCap (upB c) = true := by
  have e : (97 ≤ c && c ≤ 122) = true := by simp [UInt8.le_iff_toNat_le]; omega
  unfold upB isCap
  rw [if_pos e]
  have h32 : (32 : UInt8) ≤ c := by simp [UInt8.le_iff_toNat_le]; omega
  have hs : (c - 32).toNat = c.toNat - 32 := UInt8.toNat_sub_of_le _ _ h32
  refine ⟨by rw [hs]; omega, ?_⟩
  simp only [UInt8.le_iff_toNat_le, hs, Bool.and_eq_true, decide_eq_true_eq]
  constructor <;> (simp; omega)
theorem upB_other {c : UInt8} (h : ¬ (97 ≤ c.toNat ∧ c.toNat ≤ 122)) : upB c = c := by
  unfold upB
  rw [if_neg]
  simp only [Bool.and_eq_true, decide_eq_true_eq, UInt8.le_iff_toNat_le]
  exact h
theorem cap_of {c : UInt8} (h : isCap c = true) : 65 ≤ c.toNat ∧ c.toNat ≤ 90 := by
  unfold isCap at h
  simpa [UInt8.le_iff_toNat_le] using h
theorem cap_mk {c : UInt8} (h1 : 65 ≤ c.toNat) (h2 : c.toNat ≤ 90) : isCap c = true := by
  unfold isCap
  simp [UInt8.le_iff_toNat_le]; exact ⟨h1, h2⟩
/-- a word with another sign in it is none -/
theorem kw_none {l : List UInt8} {k : Nat} {c : UInt8} (hc : l[k]? = some c) (h1 : ¬ (97 ≤ c.toNat ∧ c.toNat ≤ 122)) (h2 : ¬ (65 ≤ c.toNat ∧ c.toNat ≤ 90)) : kwR l = [] := by
  unfold kwR
  rw [if_neg]
  intro hm
  have hx := (kws_caps _ hm).2 (upB c) (List.mem_map_of_mem (List.mem_of_getElem? hc))
  rw [upB_other h1] at hx
  exact h2 (cap_of hx)
theorem kw_nil : kwR [] = [] := by decide
theorem set_up (l : List UInt8) (k : Nat) (c : UInt8) (hc : l[k]? = some c) : ((l.take k).map upB ++ l.drop k).set k (upB c) = (l.take (k + 1)).map upB ++ l.drop (k + 1) := by
  have hk := (List.getElem?_eq_some_iff.1 hc).1
  have hd : l.drop k = c :: l.drop (k + 1) := by rw [List.drop_eq_getElem_cons hk]; congr 1; exact (List.getElem?_eq_some_iff.1 hc).2
  rw [hd, List.set_append_right _ _ (by simp; omega), List.take_add_one, hc]
  simp [show k - min k l.length = 0 by omega]
set_option maxRecDepth 100000 in
set_option maxHeartbeats 4000000 in
theorem keyword_any (s : ByteArray) (m : Int) (w : World) (hs : s.size ≤ 200) (hm : w.cell? ⟨0, 0, none⟩ = some (.int .i64 m)) :
    Calls Tryz.prog 110 #[.string s] w (RetV (kwV s.data.toList) w) := by
  obtain ⟨l, hl⟩ : ∃ l, l = s.data.toList := ⟨_, rfl⟩
  obtain ⟨n, hn⟩ : ∃ n, n = s.size := ⟨_, rfl⟩
  have hnl : l.length = n := by rw [hl, hn]; show s.data.toList.length = s.data.size; simp
  have HNL := Lib.hid hnl
  rw [← hl]
  obtain ⟨cap, hcap⟩ : ∃ cap, cap = grownCap w s.size 0 5 := ⟨_, rfl⟩
  have HCV := Lib.hid (conv_bytes w s)
  have HNEW := Lib.hid (bytes_new w s cap)
  rw [← hcap, ← hn] at HCV
  rw [← hl] at HNEW
  obtain ⟨w1, hw1⟩ : ∃ w1, w1 = w.drew.alloc (.cells (bytesRow s cap) 5 ((bytesRow s cap).size, (bytesRow s cap).size + 1)) := ⟨_, rfl⟩
  rw [← hw1] at HCV HNEW
  have HB1 := Lib.hid (show Below w.heap.size w w1 by rw [hw1]; exact ((Below.refl _ w).drew).alloc (Nat.le_refl _) _)
  have hcv := HCV.out
  have hn2 : n ≤ 200 := by omega
  have HM := Lib.hid hm
  obtain ⟨kv, hkv⟩ : ∃ kv, kv = kwV l := ⟨_, rfl⟩
  have HKV := Lib.hid hkv
  rw [← hkv]
  clear hl hn hnl hcap hw1 hs hm hkv
  go_enter Tryz.func110, Tryz.ntmps110
  go_wp2_with fail
  go_loopw [11] (fun i wr => ∃ k : Nat, k ≤ n ∧ i = .int .i64 k ∧ Below w.heap.size w wr ∧ BytesAt wr w.heap.size ((l.take k).map upB ++ l.drop k) ∧ Hid (∀ c ∈ (l.take k).map upB, isCap c = true)) (fun i _ => n - (intOf i).toNat)
  case atStart => exact ⟨0, Nat.zero_le _, rfl, HB1.out, by simpa using HNEW.out, Lib.hid (fun c h => by simp at h)⟩
  case round =>
    obtain ⟨k, hk, rfl, hB, hby, HC⟩ := hrel
    obtain ⟨wo, rfl⟩ : ∃ wo : World, wo = wr := ⟨_, rfl⟩
    have HB := Lib.hid hB
    have HBY := Lib.hid hby
    have hlt0 := hby.lt
    have HLEN := Lib.hid (show ((l.take k).map upB ++ l.drop k).length = n by simp; have := HNL.out; omega)
    clear hB hby
    by_cases hlt : k < n
    · obtain ⟨c, hc⟩ : ∃ c, l[k]? = some c := ⟨_, List.getElem?_eq_getElem (by have := HNL.out; omega)⟩
      have hcell := HBY.out.cell (j := k) (c := c) (by rw [List.getElem?_append_right (by simp; omega)]; simp; have := HNL.out; rw [show min k l.length = k by omega]; simp [hc])
      have hfree := HBY.out.free (j := k) (by rw [HLEN.out]; exact hlt)
      have HCC := Lib.hid hc
      have HSU := Lib.hid (set_up l k c hc)
      have hc255 : (c.toNat : Int) ≤ 255 := by have := c.toNat_lt; omega
      have hc0 : (0 : Int) ≤ (c.toNat : Int) := by omega
      clear hc
      by_cases hlow : 97 ≤ c.toNat ∧ c.toNat ≤ 122
      · obtain ⟨hl1, hl2⟩ := hlow
        have HU := Lib.hid (upB_low hl1 hl2)
        have HSET := Lib.hid (HBY.out.set (j := k) (by rw [HLEN.out]; exact hlt) (upB c) ((c.toNat : Int) - 32) HU.out.1.symm)
        have HC2 := Lib.hid (show ∀ x ∈ (l.take (k + 1)).map upB, isCap x = true from fun x hx => by
          rw [List.take_add_one, HCC.out] at hx
          simp only [Option.toList_some, List.map_append, List.map_cons, List.map_nil, List.mem_append, List.mem_singleton] at hx
          rcases hx with hx | hx
          · exact HC.out x hx
          · rw [hx]; exact HU.out.2)
        go_wp2_with fail
        go_roundw
        case rel => exact ⟨k + 1, by omega, by go_num, HB.out.setCell (p := ⟨w.heap.size, k, none⟩) (Nat.le_refl _) _, by rw [← HSU.out]; exact HSET.out, HC2⟩
        case measure => simp [intOf] <;> omega
      · by_cases hcp : 65 ≤ c.toNat ∧ c.toNat ≤ 90
        · obtain ⟨hp1, hp2⟩ := hcp
          have hn97 : ¬ (97 : Int) ≤ (c.toNat : Int) := by omega
          have HC2 := Lib.hid (show ∀ x ∈ (l.take (k + 1)).map upB, isCap x = true from fun x hx => by
            rw [List.take_add_one, HCC.out] at hx
            simp only [Option.toList_some, List.map_append, List.map_cons, List.map_nil, List.mem_append, List.mem_singleton] at hx
            rcases hx with hx | hx
            · exact HC.out x hx
            · rw [hx, upB_other (by omega)]; exact cap_mk hp1 hp2)
          have HBY2 := Lib.hid (show BytesAt wo w.heap.size ((l.take (k + 1)).map upB ++ l.drop (k + 1)) by
            have h := HBY.out
            have e : ((l.take k).map upB ++ l.drop k).set k (upB c) = (l.take k).map upB ++ l.drop k := by
              rw [upB_other (by omega)]
              apply List.ext_getElem?
              intro j
              rw [List.getElem?_set]
              split
              · rename_i hj
                subst hj
                rw [List.getElem?_append_right (by simp; omega)]
                have := HNL.out
                simp [show min k l.length = k by omega, HCC.out]
                omega
              · rfl
            rw [← HSU.out, e]
            exact h)
          clear hlow
          go_wp2_with fail
          go_roundw
          case rel => exact ⟨k + 1, by omega, by go_num, HB.out, HBY2.out, HC2⟩
          case measure => simp [intOf] <;> omega
        · have HNO := Lib.hid (show kv = .tuple #[.string ⟨#[]⟩, .bool false] by rw [HKV.out]; unfold kwV; rw [kw_none HCC.out hlow hcp]; rfl)
          by_cases h122 : c.toNat ≤ 122
          · by_cases h97 : 97 ≤ c.toNat
            · exact absurd ⟨h97, h122⟩ hlow
            · have hn97 : ¬ (97 : Int) ≤ (c.toNat : Int) := by omega
              by_cases h65 : 65 ≤ c.toNat
              · have h90 : (90 : Int) < (c.toNat : Int) := by omega
                clear hlow hcp h122 h97
                go_wp2_with fail
                go_ret2
                exact ⟨by rw [HNO.out]; rfl, HB.out⟩
              · have h65' : (c.toNat : Int) < 65 := by omega
                clear hlow hcp h122 h97 h65
                go_wp2_with fail
                go_ret2
                exact ⟨by rw [HNO.out]; rfl, HB.out⟩
          · have h122' : (122 : Int) < (c.toNat : Int) := by omega
            clear hlow hcp h122
            go_wp2_with fail
            go_ret2
            exact ⟨by rw [HNO.out]; rfl, HB.out⟩
    · have hkn : k = n := by omega
      subst hkn
      have HBF := Lib.hid (show BytesAt wo w.heap.size (l.map upB) by
        have h := HBY.out
        rw [List.take_of_length_le (by have := HNL.out; omega), List.drop_eq_nil_of_le (by have := HNL.out; omega), List.append_nil] at h
        exact h)
      have HCA := Lib.hid (show ∀ c ∈ l.map upB, isCap c = true from fun c h => HC.out c (by rw [List.take_of_length_le (by have := HNL.out; omega)]; exact h))
      clear hlt
      by_cases h0 : k = 0
      · have hnil : l = [] := List.eq_nil_of_length_eq_zero (by have := HNL.out; omega)
        have HNO := Lib.hid (show kv = .tuple #[.string ⟨#[]⟩, .bool false] by rw [HKV.out, hnil]; unfold kwV; rw [kw_nil]; rfl)
        subst h0
        clear hnil
        go_wp2_with fail
        go_ret2
        exact ⟨by rw [HNO.out]; rfl, HB.out⟩
      · have h0b : ((k : Int) == 0) = false := by simpa using h0
        have hne : l.map upB ≠ [] := by
          intro h
          have h5 := congrArg List.length h
          rw [List.length_map, HNL.out] at h5
          exact h0 h5
        obtain ⟨U, hU⟩ : ∃ U : ByteArray, U = ⟨(l.map upB).toArray⟩ := ⟨_, rfl⟩
        have hUs : U.size ≤ 200 := by rw [hU]; show (l.map upB).toArray.size ≤ 200; simp; have := HNL.out; omega
        have hcv3 : (convert 55 9 (.slice (some ⟨w.heap.size, 0, none⟩) k cap)).run Tryz.prog wo = .ok (.string U) wo := by rw [hU]; exact HBF.out.text k cap (by simp; have := HNL.out; omega)
        obtain ⟨X, hX⟩ : ∃ X : ByteArray, X = ⟨#[32]⟩ ++ U := ⟨_, rfl⟩
        obtain ⟨Y, hY⟩ : ∃ Y : ByteArray, Y = X ++ ⟨#[32]⟩ := ⟨_, rfl⟩
        have h1s : (⟨#[32]⟩ : ByteArray).size = 1 := rfl
        have hXs : X.size ≤ 201 := by rw [hX, ByteArray.size_append, h1s]; omega
        have hadd1 : (Op.stringOp .add ⟨#[32]⟩ U).run Tryz.prog wo = .ok (.string X) wo := by rw [hX]; exact add_text wo _ _ (by rw [h1s]; omega)
        have hadd2 : (Op.stringOp .add X ⟨#[32]⟩).run Tryz.prog wo = .ok (.string Y) wo := by rw [hY]; exact add_text wo _ _ (by rw [h1s]; omega)
        have HYL := Lib.hid (show Y.data.toList = 32 :: l.map upB ++ [32] by rw [hY, hX, hU]; simp [ByteArray.data_append])
        have HCON := Lib.hid (fun (S : ByteArray) (hS : S.data.toList = kwText) => show Calls Tryz.prog 122 #[.string S, .string Y] wo (fun e w' => e = .returned (.bool (decide (l.map upB ∈ kws))) ∧ wo = w') from
          (Tryz.strings_Contains S Y m wo (by show S.data.size < _; rw [← Array.length_toList, hS]; decide) (cell_kept HM.out HB.out)).mono fun e w' ⟨h1, h2⟩ => ⟨by
            rw [h1, hS, HYL.out]
            exact ret_bool (kw_text hne HCA.out), h2.symm⟩)
        have HUU := Lib.hid hU
        clear hU hX hY hUs hXs h1s hne
        by_cases hk9 : l.map upB ∈ kws
        · have HKV2 := Lib.hid (show kv = .tuple #[.string U, .bool true] by
            have e : kwR l = l.map upB := by unfold kwR; rw [if_pos hk9]
            have e2 := (kws_caps _ hk9).1
            rw [HKV.out]; unfold kwV; rw [e, HUU.out, decide_eq_true e2])
          have HCO2 := Lib.hid (show decide (l.map upB ∈ kws) = true from decide_eq_true hk9)
          rw [HCO2.out] at HCON
          clear hk9
          go_wp2_with (first
            | (go_at_call 122; (with_reducible refine (HCON.out _ ?_).mono ?_); (kernel_rfl); rintro e w2 ⟨rfl, rfl⟩)
            | fail)
          go_ret2
          exact ⟨by rw [HKV2.out]; rfl, HB.out⟩
        · have HKV2 := Lib.hid (show kv = .tuple #[.string ⟨#[]⟩, .bool false] by
            have e : kwR l = [] := by unfold kwR; rw [if_neg hk9]
            rw [HKV.out]; unfold kwV; rw [e]; rfl)
          have HCO2 := Lib.hid (show decide (l.map upB ∈ kws) = false from decide_eq_false hk9)
          rw [HCO2.out] at HCON
          clear hk9
          go_wp2_with (first
            | (go_at_call 122; (with_reducible refine (HCON.out _ ?_).mono ?_); (kernel_rfl); rintro e w2 ⟨rfl, rfl⟩)
            | fail)
          go_ret2
          exact ⟨by rw [HKV2.out]; rfl, HB.out⟩
end Go.Proofs.YtcgpflkaejbkhaaGreatDoor
namespace Go.Proofs.YtcgpflkaejbkhaaGreatDoor
open Go.RowKit

def strV (l : List UInt8) : Value := .string ⟨l.toArray⟩
/-- the keywords in a block -/
def KwBlk (W : World) (b : Nat) : Prop := W.heap[b]? = some (.cells (kws.map strV).toArray 9 (0, 0))
def WordsP (w : World) (e : Ending) (w' : World) : Prop := e = .returned (.slice (some ⟨w.heap.size, 0, none⟩) 35 35) ∧ KwBlk w' w.heap.size ∧ Below w.heap.size w w'
theorem KwBlk.keep {W w2 : World} {b : Nat} (h : KwBlk W b) (hB : Below W.heap.size W w2) : KwBlk w2 b := (hB.block b (heap_lt h)).trans h
theorem KwBlk.cell {W : World} {b : Nat} (h : KwBlk W b) {j : Nat} {l : List UInt8} (hj : kws[j]? = some l) : W.cell? ⟨b, j, none⟩ = some (.string ⟨l.toArray⟩) := by
  rw [cell_of_row W b j _ _ _ h, List.getElem?_toArray, List.getElem?_map, hj]; rfl
set_option maxRecDepth 100000 in
set_option maxHeartbeats 1000000 in
theorem words_any (w : World) : Calls Tryz.prog 130 #[] w (WordsP w) := by
  go_enter Tryz.func130, Tryz.ntmps130
  go_wp2_with fail
  go_ret
  exact ⟨rfl, heap_alloc_new w _, below1 w _⟩
theorem snoc_up (s : ByteArray) (k : Nat) (h : k < s.size) : (⟨((s.data.toList.take k).map upB).toArray⟩ : ByteArray) ++ ⟨#[upB s[k]]⟩ = ⟨((s.data.toList.take (k + 1)).map upB).toArray⟩ := by
  have h2 : s.data.toList[k]? = some s[k] := by
    rw [Array.getElem?_toList]
    exact Array.getElem?_eq_getElem h
  rw [List.take_add_one, h2]
  apply ByteArray.ext
  simp [ByteArray.data_append]
theorem up_size (s : ByteArray) (k : Nat) : (⟨((s.data.toList.take k).map upB).toArray⟩ : ByteArray).size ≤ s.size := by
  show ((s.data.toList.take k).map upB).toArray.size ≤ s.data.size
  simp
  omega
theorem one_text (W : World) (z : Int) (c : UInt8) (hz : z = (c.toNat : Int)) : (convert 55 9 (.slice (some ⟨W.heap.size, 0, none⟩) 1 1)).run Tryz.prog (W.alloc (.cells #[.int .u8 z] 5)) = .ok (.string ⟨#[c]⟩) (W.alloc (.cells #[.int .u8 z] 5)) := by
  subst hz
  exact run_convert_bytes_back (W.alloc (.cells #[.int .u8 (c.toNat : Int)] 5)) 55 9 5 ⟨W.heap.size, 0, none⟩ 1 [c] Tryz.underlying55 Tryz.underlying5 Tryz.underlying9 (fun j hj => by
    obtain rfl : j = 0 := by simp at hj; omega
    rw [Addr.add_lit, Nat.zero_add]
    exact cell_of_row _ _ 0 _ _ _ (heap_alloc_new W _))
set_option maxRecDepth 100000 in
set_option maxHeartbeats 4000000 in
theorem rkeyword_any (s : ByteArray) (w : World) (hs : s.size ≤ 200) : Calls Tryz.prog 117 #[.string s] w (RetV (.string ⟨(kwR s.data.toList).toArray⟩) w) := by
  obtain ⟨R, hR⟩ : ∃ R : ByteArray, R = ⟨(kwR s.data.toList).toArray⟩ := ⟨_, rfl⟩
  rw [← hR]
  have HR := Lib.hid hR
  clear hR
  go_enter Tryz.func117, Tryz.ntmps117
  go_wp2_with fail
  go_loopw [3, 4] (fun up i wr => ∃ k : Nat, k ≤ s.size ∧ i = .int .i64 k ∧ up = .string ⟨((s.data.toList.take k).map upB).toArray⟩ ∧ Below w.heap.size w wr) (fun _ i _ => s.size - (intOf i).toNat)
  case atStart => exact ⟨0, Nat.zero_le _, rfl, rfl, Below.refl _ _⟩
  case round =>
    obtain ⟨k, hk, rfl, rfl, hB⟩ := hrel
    obtain ⟨wo, rfl⟩ : ∃ wo : World, wo = wr := ⟨_, rfl⟩
    have HB := Lib.hid hB
    clear hB
    by_cases hlt : k < s.size
    · have HSN := Lib.hid (snoc_up s k hlt)
      have HUS := up_size s k
      obtain ⟨U, hU⟩ : ∃ U : ByteArray, U = ⟨((s.data.toList.take k).map upB).toArray⟩ := ⟨_, rfl⟩
      rw [← hU] at HSN HUS ⊢
      obtain ⟨c, hc⟩ : ∃ c, c = s[k] := ⟨_, rfl⟩
      have HC := Lib.hid hc
      rw [← hc] at HSN
      obtain ⟨V, hV⟩ : ∃ V : ByteArray, V = U ++ ⟨#[upB c]⟩ := ⟨_, rfl⟩
      have HV := Lib.hid (show V = ⟨((s.data.toList.take (k + 1)).map upB).toArray⟩ by rw [hV]; exact HSN.out)
      have hone : (⟨#[upB c]⟩ : ByteArray).size = 1 := rfl
      have hadd : ∀ W, (Op.stringOp .add U ⟨#[upB c]⟩).run Tryz.prog W = .ok (.string V) W := fun W => by rw [hV]; exact add_text W _ _ (by rw [hone]; omega)
      have hc255 : (c.toNat : Int) ≤ 255 := by have := c.toNat_lt; omega
      have hc0 : (0 : Int) ≤ (c.toNat : Int) := by omega
      have hkc : s[k] = c := hc.symm
      clear hU hV hone hc
      by_cases hlow : 97 ≤ c.toNat ∧ c.toNat ≤ 122
      · obtain ⟨hl1, hl2⟩ := hlow
        have hl1' : (97 : Int) ≤ (c.toNat : Int) := by omega
        have hl2' : (c.toNat : Int) ≤ 122 := by omega
        have hcv := one_text wo ((c.toNat : Int) - 97 + 65) (upB c) (by have := (upB_low hl1 hl2).1; omega)
        go_wp2_with fail
        go_roundw
        case rel => exact ⟨k + 1, by omega, by go_num, by rw [HV.out], HB.out.trans ((below1 wo _).mono HB.out.size)⟩
        case measure => simp [intOf] <;> omega
      · have hcv := one_text wo (c.toNat : Int) (upB c) (by rw [upB_other hlow])
        by_cases h97 : 97 ≤ c.toNat
        · have h122 : ¬ (c.toNat : Int) ≤ 122 := by omega
          have h97' : (97 : Int) ≤ (c.toNat : Int) := by omega
          clear hlow h97
          go_wp2_with fail
          go_roundw
          case rel => exact ⟨k + 1, by omega, by go_num, by rw [HV.out], HB.out.trans ((below1 wo _).mono HB.out.size)⟩
          case measure => simp [intOf] <;> omega
        · have h97' : ¬ (97 : Int) ≤ (c.toNat : Int) := by omega
          clear hlow h97
          go_wp2_with fail
          go_roundw
          case rel => exact ⟨k + 1, by omega, by go_num, by rw [HV.out], HB.out.trans ((below1 wo _).mono HB.out.size)⟩
          case measure => simp [intOf] <;> omega
    · have hall : s.data.toList.take k = s.data.toList := List.take_of_length_le (by
        have : s.data.toList.length = s.size := by show _ = s.data.size; simp
        omega)
      rw [hall]
      obtain ⟨u, hu⟩ : ∃ u, u = s.data.toList.map upB := ⟨_, rfl⟩
      rw [← hu]
      have HK := Lib.hid (show kwR s.data.toList = if u ∈ kws then u else [] by unfold kwR; rw [hu])
      obtain ⟨U, hU⟩ : ∃ U : ByteArray, U = ⟨u.toArray⟩ := ⟨_, rfl⟩
      rw [← hU]
      have HU := Lib.hid hU
      clear hall hu hU
      go_wp2_with (first
        | (go_at_call 130; (with_reducible refine (words_any _).mono ?_); rintro e w2 ⟨rfl, hkb, hB2⟩; have HKB := Lib.hid hkb; have HB2 := Lib.hid (HB.out.trans (hB2.mono HB.out.size)); have hlk := heap_lt hkb; clear hkb hB2)
        | fail)
      go_loop [7] (fun i => ∃ k : Nat, k ≤ 35 ∧ i = .int .i64 k ∧ Hid (∀ j l, j < k → kws[j]? = some l → l ≠ u)) (fun i => 35 - (intOf i).toNat)
      case atStart => exact ⟨0, Nat.zero_le _, rfl, Lib.hid (fun j l h => absurd h (Nat.not_lt_zero _))⟩
      case round =>
        obtain ⟨j, hj, rfl, HN⟩ := hrel
        by_cases hj35 : j < 35
        · obtain ⟨l, hl⟩ : ∃ l, kws[j]? = some l := ⟨_, List.getElem?_eq_getElem (show j < kws.length from hj35)⟩
          have hcell := HKB.out.cell hl
          obtain ⟨T, hT⟩ : ∃ T : ByteArray, T = ⟨l.toArray⟩ := ⟨_, rfl⟩
          rw [← hT] at hcell
          have hj35i : (j : Int) < 35 := by omega
          by_cases he : l = u
          · have HE := Lib.hid (show R = U by rw [HR.out, HK.out, if_pos (by rw [← he]; exact List.mem_of_getElem? hl), HU.out])
            have heq : (T.toList == U.toList) = true := by rw [hT, HU.out, he]; simp
            clear he hl hT
            go_wp2_with fail
            go_ret
            exact ⟨by rw [HE.out]; rfl, HB2.out⟩
          · have heq : (T.toList == U.toList) = false := by
              rw [hT, HU.out, ByteArray.toList_eq, ByteArray.toList_eq]
              simpa using he
            have HN2 := Lib.hid (show ∀ j' l', j' < j + 1 → kws[j']? = some l' → l' ≠ u from fun j' l' h1 h2 => by
              by_cases e : j' = j
              · subst e
                rw [hl] at h2; cases h2
                exact he
              · exact HN.out j' l' (by omega) h2)
            clear he hl hT
            go_wp2_with fail
            go_round
            case rel => exact ⟨j + 1, by omega, by go_num, HN2⟩
            case measure => simp [intOf] <;> omega
        · have HE := Lib.hid (show R = ⟨#[]⟩ by
            rw [HR.out, HK.out, if_neg]
            intro hm
            obtain ⟨i, hi, he⟩ := List.mem_iff_getElem.1 hm
            have hi35 : i < 35 := hi
            exact HN.out i u (by omega) (by rw [List.getElem?_eq_getElem hi, he]) rfl)
          go_wp2_with fail
          go_ret
          exact ⟨by rw [HE.out]; rfl, HB2.out⟩
end Go.Proofs.YtcgpflkaejbkhaaGreatDoor
