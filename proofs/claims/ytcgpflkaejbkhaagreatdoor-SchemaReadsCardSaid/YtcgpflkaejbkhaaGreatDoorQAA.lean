/- What some functions of the library answer, laid at this program: each a single application of the library's ow. -/
import Derived.Shelf.Strings.BuilderK
import Derived.Shelf.Strconv.Lower
import Derived.Test.YtcgpflkaejbkhaaGreatDoorProg
import Derived.Lib.Index
import Derived.Lib.IndexLaws
import Derived.Lib.Strings
import Derived.Shelf.Small.Strs
import Derived.Shelf.LaysM
import Derived.Shelf.Strings.Search3
import Derived.Shelf.Strings.Shaped
import Derived.Shelf.Strings.Prefix
namespace Go.Proofs
open Go.Shelf
def Tryz.lays169_ren : Go.Shelf.Ren := ⟨fun | 169 => 125 | n => n, fun | 70 => 174 | 9 => 9 | 0 => 0 | 72 => 176 | 37 => 55 | 127 => 182 | 3 => 3 | 5 => 5 | n => n, fun | n => n⟩
theorem Tryz.lays169 : Go.Proofs.Lays.n169 Tryz.prog Tryz.lays169_ren := {
 mixed := by kernel_rfl
 f169 := Tryz.func125.trans (congrArg some (by kernel_rfl))
 t0 := Tryz.underlying0
 a0 := Tryz.isAgg0
 z0 := Tryz.sizeOf0
 v0 := Tryz.zeroValue0
 t3 := Tryz.underlying3
 a3 := Tryz.isAgg3
 z3 := Tryz.sizeOf3
 v3 := Tryz.zeroValue3
 t9 := Tryz.underlying9
 a9 := Tryz.isAgg9
 z9 := Tryz.sizeOf9
 v9 := Tryz.zeroValue9
 t37 := Tryz.underlying55
 a37 := Tryz.isAgg55
 z37 := Tryz.sizeOf55
 v37 := Tryz.zeroValue55
 t70 := Tryz.underlying174
 a70 := Tryz.isAgg174
 z70 := Tryz.sizeOf174
 v70 := Tryz.zeroValue174
 t72 := Tryz.underlying176
 a72 := Tryz.isAgg176
 z72 := Tryz.sizeOf176
 v72 := Tryz.zeroValue176
 t127 := Tryz.underlying182
 a127 := Tryz.isAgg182
 z127 := Tryz.sizeOf182
 v127 := Tryz.zeroValue182 }
theorem Tryz.Builder_Extra_169 : Builder.Extra Tryz.prog Tryz.lays169_ren := {
 sizeBuilder := by kernel_rfl
 liesBuilder := by kernel_rfl
 t5 := Tryz.underlying5
 a5 := Tryz.isAgg5
 z5 := Tryz.sizeOf5
 v5 := Tryz.zeroValue5
 infoByte := by kernel_rfl
 cellsByte := by kernel_rfl
 sizeByte := by kernel_rfl
 neB5 := by decide }
open Go.RowKit in
theorem Tryz.Builder_String_any_k (B b : Nat) (l : List UInt8) (w : World) (h : Lib.IsBuilderF 176 5 B b (Lib.byteCells l) w) (hBw : B ≤ w.heap.size) :
   Calls Tryz.prog 125 #[.pointer (some ⟨b, 0, none⟩)] w fun e w' => e = .returned (.string ⟨l.toArray⟩) ∧ (Lib.IsBuilderF 176 5 B b (Lib.byteCells l) w' ∧ Below B w w' ∧ Lib.OthersKept 5 (some b) w w') := Any.Builder_String_any_k Tryz.lays169 Tryz.Builder_Extra_169 B b l w h hBw
def Tryz.lays321_ren : Go.Shelf.Ren := ⟨fun | 321 => 173 | n => n, fun | 5 => 5 | n => n, fun | n => n⟩
theorem Tryz.lays321 : Go.Proofs.Lays.n321 Tryz.prog Tryz.lays321_ren := {
 mixed := by kernel_rfl
 f321 := Tryz.func173.trans (congrArg some (by kernel_rfl))
 t5 := Tryz.underlying5
 a5 := Tryz.isAgg5
 z5 := Tryz.sizeOf5
 v5 := Tryz.zeroValue5 }
open Go.RowKit in
theorem Tryz.internal_strconv_lower (c : Int) (w : World) :
   Calls Tryz.prog 173 #[.int .u8 c] w fun e w' => e = .returned (.int .u8 (bits .or .u8 c 32)) ∧ w' = w := Any.internal_strconv_lower Tryz.lays321 c w
end Go.Proofs
namespace Go.Proofs.YtcgpflkaejbkhaaGreatDoor
open Go

def kws : List (List UInt8) := [[83, 69, 76, 69, 67, 84], [70, 82, 79, 77], [87, 72, 69, 82, 69], [71, 82, 79, 85, 80], [66, 89], [79, 82, 68, 69, 82], [65, 83, 67], [68, 69, 83, 67], [76, 73, 77, 73, 84], [65, 83], [74, 79, 73, 78], [79, 78], [65, 78, 68], [79, 82], [78, 79, 84], [73, 83], [78, 85, 76, 76], [84, 82, 85, 69], [70, 65, 76, 83, 69], [67, 79, 85, 78, 84], [83, 85, 77], [77, 73, 78], [77, 65, 88], [73, 78, 83, 69, 82, 84], [73, 78, 84, 79], [86, 65, 76, 85, 69, 83], [85, 80, 68, 65, 84, 69], [83, 69, 84], [68, 69, 76, 69, 84, 69], [67, 82, 69, 65, 84, 69], [84, 65, 66, 76, 69], [68, 82, 79, 80], [73, 78, 84], [82, 69, 65, 76], [84, 69, 88, 84]]
def kwText : List UInt8 := [32, 83, 69, 76, 69, 67, 84, 32, 70, 82, 79, 77, 32, 87, 72, 69, 82, 69, 32, 71, 82, 79, 85, 80, 32, 66, 89, 32, 79, 82, 68, 69, 82, 32, 65, 83, 67, 32, 68, 69, 83, 67, 32, 76, 73, 77, 73, 84, 32, 65, 83, 32, 74, 79, 73, 78, 32, 79, 78, 32, 65, 78, 68, 32, 79, 82, 32, 78, 79, 84, 32, 73, 83, 32, 78, 85, 76, 76, 32, 84, 82, 85, 69, 32, 70, 65, 76, 83, 69, 32, 67, 79, 85, 78, 84, 32, 83, 85, 77, 32, 77, 73, 78, 32, 77, 65, 88, 32, 73, 78, 83, 69, 82, 84, 32, 73, 78, 84, 79, 32, 86, 65, 76, 85, 69, 83, 32, 85, 80, 68, 65, 84, 69, 32, 83, 69, 84, 32, 68, 69, 76, 69, 84, 69, 32, 67, 82, 69, 65, 84, 69, 32, 84, 65, 66, 76, 69, 32, 68, 82, 79, 80, 32, 73, 78, 84, 32, 82, 69, 65, 76, 32, 84, 69, 88, 84, 32]
def upB (c : UInt8) : UInt8 := if 97 ≤ c && c ≤ 122 then c - 32 else c
def isCap (c : UInt8) : Bool := 65 ≤ c && c ≤ 90
def kwR (l : List UInt8) : List UInt8 := if l.map upB ∈ kws then l.map upB else []
theorem kws_caps : ∀ w ∈ kws, w ≠ [] ∧ ∀ c ∈ w, isCap c = true := by decide
def pieces (l : List UInt8) : List (List UInt8) := (List.range l.length).filterMap fun i => if l[i]? = some 32 then some ((l.drop (i + 1)).takeWhile (· ≠ 32)) else none
theorem kw_pieces : pieces kwText = kws ++ [[]] := by decide +kernel
theorem takeWhile_word {u r : List UInt8} (h : ∀ c ∈ u, c ≠ 32) : (u ++ 32 :: r).takeWhile (· ≠ 32) = u := by
 induction u with
 | nil => simp
 | cons x u ih =>
   rw [List.cons_append, List.takeWhile_cons, if_pos (by simpa using h x (by simp)), ih (fun c hc => h c (by simp [hc]))]
theorem kw_in {u : List UInt8} (hu : u ≠ []) (h : ∀ c ∈ u, c ≠ 32) {i : Nat} (ho : (32 :: u ++ [32]).isPrefixOf (kwText.drop i) = true) : u ∈ kws := by
 rw [List.isPrefixOf_iff_prefix] at ho
 obtain ⟨r, hr⟩ := ho
 have hi : i < kwText.length := by
   rcases Nat.lt_or_ge i kwText.length with g | g
   · exact g
   · rw [List.drop_eq_nil_of_le g] at hr; simp at hr
 have h0 : kwText[i]? = some 32 := by
   have := congrArg (·[0]?) hr
   simpa [List.getElem?_drop] using this.symm
 have h1 : kwText.drop (i + 1) = u ++ 32 :: r := by
   have := congrArg (List.drop 1) hr
   simpa [List.drop_drop] using this.symm
 have hm : u ∈ pieces kwText := by
   unfold pieces
   rw [List.mem_filterMap]
   exact ⟨i, List.mem_range.2 hi, by rw [if_pos h0, h1, takeWhile_word h]⟩
 rw [kw_pieces] at hm
 rcases List.mem_append.1 hm with hm | hm
 · exact hm
 · exact absurd (List.mem_singleton.1 hm) hu
theorem kw_all : ∀ u ∈ kws, (0 : Int) ≤ Lib.index kwText (32 :: u ++ [32]) := by decide +kernel
theorem index_place : ∀ (s sub : List UInt8), 0 ≤ Lib.index s sub → ∃ i, sub.isPrefixOf (s.drop i) = true := by
 intro s sub
 induction s with
 | nil =>
   intro h
   unfold Lib.index at h
   split at h
   · rename_i he
     exact ⟨0, by cases sub with | nil => rfl | cons a l => simp at he⟩
   · omega
 | cons b l ih =>
   intro h
   unfold Lib.index at h
   split at h
   · rename_i hp
     exact ⟨0, hp⟩
   · split at h
     · omega
     · rename_i hne
       have hge := Lib.index_ge l sub
       have : Lib.index l sub ≠ -1 := by simpa using hne
       obtain ⟨i, hi⟩ := ih (by omega)
       exact ⟨i + 1, hi⟩
theorem kw_text {u : List UInt8} (hu : u ≠ []) (h : ∀ c ∈ u, isCap c = true) : decide ((0 : Int) ≤ Lib.index kwText (32 :: u ++ [32])) = decide (u ∈ kws) := by
 by_cases hk : u ∈ kws
 · rw [decide_eq_true hk, decide_eq_true (kw_all u hk)]
 · rw [decide_eq_false hk, decide_eq_false]
   intro h0
   obtain ⟨i, hi⟩ := index_place _ _ h0
   exact hk (kw_in hu (fun c hc e => by have := h c hc; rw [e] at this; exact absurd this (by decide)) hi)
end Go.Proofs.YtcgpflkaejbkhaaGreatDoor
namespace Go.Proofs
open Go.Shelf
def Tryz.lays137_ren : Go.Shelf.Ren := ⟨fun | 137 => 114 | 217 => 128 | 266 => 138 | n => n, fun | 9 => 9 | 5 => 5 | 3 => 3 | n => n, fun | n => n⟩
theorem Tryz.lays137 : Go.Proofs.Lays.n137 Tryz.prog Tryz.lays137_ren := {
 mixed := by kernel_rfl
 f137 := Tryz.func114.trans (congrArg some (by kernel_rfl))
 f217 := Tryz.func128.trans (congrArg some (by kernel_rfl))
 f266 := Tryz.func138.trans (congrArg some (by kernel_rfl))
 t3 := Tryz.underlying3
 a3 := Tryz.isAgg3
 z3 := Tryz.sizeOf3
 v3 := Tryz.zeroValue3
 t5 := Tryz.underlying5
 a5 := Tryz.isAgg5
 z5 := Tryz.sizeOf5
 v5 := Tryz.zeroValue5
 t9 := Tryz.underlying9
 a9 := Tryz.isAgg9
 z9 := Tryz.sizeOf9
 v9 := Tryz.zeroValue9 }
open Go.RowKit in
theorem Tryz.strings_IndexByte (s : ByteArray) (c : Int) (w : World) :
   Calls Tryz.prog 114 #[.string s, .int .u8 c] w fun e w' => e = .returned (.int .i64 (Lib.indexByte s.data.toList c.toNat.toUInt8)) ∧ w' = w := Any.strings_IndexByte Tryz.lays137 s c w
def Tryz.lays144_ren : Go.Shelf.Ren := ⟨fun | 144 => 122 | 143 => 133 | 219 => 140 | 217 => 128 | 225 => 147 | 224 => 148 | 267 => 149 | 266 => 138 | 314 => 155 | n => n, fun | 9 => 9 | 4 => 4 | 3 => 3 | 5 => 5 | 46 => 67 | 146 => 199 | 51 => 198 | n => n, fun | 1 => 0 | n => n⟩
theorem Tryz.lays144 : Go.Proofs.Lays.n144 Tryz.prog Tryz.lays144_ren := {
 mixed := by kernel_rfl
 f143 := Tryz.func133.trans (congrArg some (by kernel_rfl))
 f144 := Tryz.func122.trans (congrArg some (by kernel_rfl))
 f217 := Tryz.func128.trans (congrArg some (by kernel_rfl))
 f219 := Tryz.func140.trans (congrArg some (by kernel_rfl))
 f224 := Tryz.func148.trans (congrArg some (by kernel_rfl))
 f225 := Tryz.func147.trans (congrArg some (by kernel_rfl))
 f266 := Tryz.func138.trans (congrArg some (by kernel_rfl))
 f267 := Tryz.func149.trans (congrArg some (by kernel_rfl))
 f314 := Tryz.func155.trans (congrArg some (by kernel_rfl))
 t3 := Tryz.underlying3
 a3 := Tryz.isAgg3
 z3 := Tryz.sizeOf3
 v3 := Tryz.zeroValue3
 t4 := Tryz.underlying4
 a4 := Tryz.isAgg4
 z4 := Tryz.sizeOf4
 v4 := Tryz.zeroValue4
 t5 := Tryz.underlying5
 a5 := Tryz.isAgg5
 z5 := Tryz.sizeOf5
 v5 := Tryz.zeroValue5
 t9 := Tryz.underlying9
 a9 := Tryz.isAgg9
 z9 := Tryz.sizeOf9
 v9 := Tryz.zeroValue9
 t46 := Tryz.underlying67
 a46 := Tryz.isAgg67
 z46 := Tryz.sizeOf67
 v46 := Tryz.zeroValue67
 t51 := Tryz.underlying198
 a51 := Tryz.isAgg198
 z51 := Tryz.sizeOf198
 v51 := Tryz.zeroValue198
 t146 := Tryz.underlying199
 a146 := Tryz.isAgg199
 z146 := Tryz.sizeOf199
 v146 := Tryz.zeroValue199
 g1 := by kernel_rfl }
open Go.RowKit Go.Lib in
theorem Tryz.strings_Contains (s sub : ByteArray) (m : Int) (w : World) (hs : s.size < 4294967281) (hm : w.cell? ⟨0, 0, none⟩ = some (.int .i64 m)) :
   Calls Tryz.prog 122 #[.string s, .string sub] w fun e w' => e = .returned (.bool (Lib.contains s.data.toList sub.data.toList)) ∧ w' = w := Any.strings_Contains Tryz.lays144 s sub m w hs hm
def Tryz.laysM144_ren : Go.Shelf.Ren := ⟨fun | 144 => 122 | 143 => 133 | 219 => 140 | 217 => 128 | 225 => 147 | 224 => 148 | 267 => 149 | 266 => 138 | 314 => 155 | n => n, fun | 9 => 9 | 4 => 4 | 3 => 3 | 5 => 5 | 46 => 67 | 146 => 199 | 51 => 198 | n => n, fun | 1 => 0 | n => n⟩
theorem Tryz.laysM144 : Go.Proofs.LaysM.n144 Tryz.prog Tryz.laysM144_ren := {
 mixed := by kernel_rfl
 f143 := Tryz.func133.trans (congrArg some (by kernel_rfl))
 f144 := Tryz.func122.trans (congrArg some (by kernel_rfl))
 f217 := Tryz.func128.trans (congrArg some (by kernel_rfl))
 f219 := Tryz.func140.trans (congrArg some (by kernel_rfl))
 f224 := Tryz.func148.trans (congrArg some (by kernel_rfl))
 f225 := Tryz.func147.trans (congrArg some (by kernel_rfl))
 f266 := Tryz.func138.trans (congrArg some (by kernel_rfl))
 f267 := Tryz.func149.trans (congrArg some (by kernel_rfl))
 f314 := Tryz.func155.trans (congrArg some (by kernel_rfl))
 t3 := Tryz.underlying3
 a3 := Tryz.isAgg3
 z3 := Tryz.sizeOf3
 v3 := Tryz.zeroValue3
 t4 := Tryz.underlying4
 a4 := Tryz.isAgg4
 z4 := Tryz.sizeOf4
 v4 := Tryz.zeroValue4
 t5 := Tryz.underlying5
 a5 := Tryz.isAgg5
 z5 := Tryz.sizeOf5
 v5 := Tryz.zeroValue5
 t9 := Tryz.underlying9
 a9 := Tryz.isAgg9
 z9 := Tryz.sizeOf9
 v9 := Tryz.zeroValue9
 t46 := Tryz.underlying67
 a46 := Tryz.isAgg67
 z46 := Tryz.sizeOf67
 v46 := Tryz.zeroValue67
 t51 := Tryz.underlying198
 a51 := Tryz.isAgg198
 z51 := Tryz.sizeOf198
 v51 := Tryz.zeroValue198
 t146 := Tryz.underlying199
 a146 := Tryz.isAgg199
 z146 := Tryz.sizeOf199
 v146 := Tryz.zeroValue199
 g1 := by kernel_rfl
 i3 := by kernel_rfl
 i4 := by kernel_rfl
 i5 := by kernel_rfl
 i9 := by kernel_rfl
 i46 := by kernel_rfl
 i51 := by kernel_rfl
 i146 := by kernel_rfl
 m1 := by kernel_rfl
 s1_3 := fun w h => Go.Proofs.cell_of_shapedOpen_int (zero := #[.int .i64 0]) (t := 3) h (of_decide_eq_true (by kernel_rfl)) (by kernel_rfl) rfl (by kernel_rfl) (by kernel_rfl) Tryz.underlying3 }
def Tryz.lays99_ren : Go.Shelf.Ren := ⟨fun | 99 => 113 | 206 => 127 | n => n, fun | 9 => 9 | 4 => 4 | 3 => 3 | n => n, fun | n => n⟩
theorem Tryz.lays99 : Go.Proofs.Lays.n99 Tryz.prog Tryz.lays99_ren := {
 mixed := by kernel_rfl
 f99 := Tryz.func113.trans (congrArg some (by kernel_rfl))
 f206 := Tryz.func127.trans (congrArg some (by kernel_rfl))
 t3 := Tryz.underlying3
 a3 := Tryz.isAgg3
 z3 := Tryz.sizeOf3
 v3 := Tryz.zeroValue3
 t4 := Tryz.underlying4
 a4 := Tryz.isAgg4
 z4 := Tryz.sizeOf4
 v4 := Tryz.zeroValue4
 t9 := Tryz.underlying9
 a9 := Tryz.isAgg9
 z9 := Tryz.sizeOf9
 v9 := Tryz.zeroValue9 }
open Go.RowKit Go.Lib in
theorem Tryz.strings_HasPrefix (s p : ByteArray) (w : World) :
   Calls Tryz.prog 113 #[.string s, .string p] w fun e w' => e = .returned (.bool (Lib.hasPrefix s.data.toList p.data.toList)) ∧ w' = w := Any.strings_HasPrefix Tryz.lays99 s p w
def Tryz.lays101_ren : Go.Shelf.Ren := ⟨fun | 101 => 123 | 208 => 134 | 206 => 127 | n => n, fun | 9 => 9 | 4 => 4 | 3 => 3 | n => n, fun | n => n⟩
theorem Tryz.lays101 : Go.Proofs.Lays.n101 Tryz.prog Tryz.lays101_ren := {
 mixed := by kernel_rfl
 f101 := Tryz.func123.trans (congrArg some (by kernel_rfl))
 f206 := Tryz.func127.trans (congrArg some (by kernel_rfl))
 f208 := Tryz.func134.trans (congrArg some (by kernel_rfl))
 t3 := Tryz.underlying3
 a3 := Tryz.isAgg3
 z3 := Tryz.sizeOf3
 v3 := Tryz.zeroValue3
 t4 := Tryz.underlying4
 a4 := Tryz.isAgg4
 z4 := Tryz.sizeOf4
 v4 := Tryz.zeroValue4
 t9 := Tryz.underlying9
 a9 := Tryz.isAgg9
 z9 := Tryz.sizeOf9
 v9 := Tryz.zeroValue9 }
open Go.RowKit Go.Lib in
theorem Tryz.strings_TrimPrefix (s p : ByteArray) (w : World) :
   Calls Tryz.prog 123 #[.string s, .string p] w fun e w' => e = .returned (.string ⟨(Lib.trimPrefix s.data.toList p.data.toList).toArray⟩) ∧ w' = w := Any.strings_TrimPrefix Tryz.lays101 s p w
end Go.Proofs
