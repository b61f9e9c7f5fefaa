/- Small words for this claim: what a call answers. -/
import Derived.Test.YtcgpflkaejbkhaaGreatDoorQAA
import Derived.Test.YtcgpflkaejbkhaaGreatDoorRows
import Derived.Below
import Derived.WalkKit
import Derived.WalkSmall
import Derived.ProofKit
import Derived.Lib.Hide
import Derived.IntWalk
import Derived.Laws.IdiomStrings
import Derived.Laws.Concat
import Derived.Laws.RangeAny
import Derived.Shelf.GgClosure.Gives
namespace Go.Proofs.YtcgpflkaejbkhaaGreatDoor
open Go.RowKit

def RetV (v : Value) (w : World) (e : Ending) (w' : World) : Prop := e = .returned v ∧ Below w.heap.size w w'
def RetT (w : World) (e : Ending) (w' : World) : Prop := e = .returned (.bool true) ∧ Below w.heap.size w w'
theorem ret_bool {a b : Bool} (h : a = b) : Ending.returned (.bool a) = .returned (.bool b) := by rw [h]
theorem below1 (w : World) (o : Obj) : Below w.heap.size w (w.alloc o) := (Below.refl _ _).alloc (Nat.le_refl _) _
theorem cell_kept {w w2 : World} {b o : Nat} {v : Value} (h : w.cell? ⟨b, o, none⟩ = some v) (hB : Below w.heap.size w w2) : w2.cell? ⟨b, o, none⟩ = some v := (hB.cell (p := ⟨b, o, none⟩) (World.block_lt_of_cell? w _ h)).trans h
theorem heap_lt {W : World} {g : Nat} {o : Obj} (q : W.heap[g]? = some o) : g < W.heap.size := (Array.getElem?_eq_some_iff.1 q).1
theorem heap_setFar {W : World} {b j k : Nat} (v : Value) (h : k ≠ b) : (W.setCell ⟨b, j, none⟩ v).heap[k]? = W.heap[k]? := by
 simp only [World.setCell, Array.getElem?_modify]
 rw [if_neg (fun e => h e.symm)]

def byteV (c : UInt8) : Value := .int .u8 (c.toNat : Int)
def BytesAt (W : World) (b : Nat) (l : List UInt8) : Prop := ∃ (rest : List Value) (N : Nat), W.heap[b]? = some (.cells (l.map byteV ++ rest).toArray 5 (N, N + 1)) ∧ N = l.length + rest.length
theorem BytesAt.lt {W : World} {b : Nat} {l : List UInt8} (h : BytesAt W b l) : b < W.heap.size := by
 obtain ⟨rest, N, h1, h2⟩ := h
 exact heap_lt h1
theorem BytesAt.cell {W : World} {b : Nat} {l : List UInt8} (h : BytesAt W b l) {j : Nat} {c : UInt8} (hj : l[j]? = some c) : W.cell? ⟨b, j, none⟩ = some (.int .u8 (c.toNat : Int)) := by
 obtain ⟨rest, N, h1, h2⟩ := h
 have hlt := (List.getElem?_eq_some_iff.1 hj).1
 rw [cell_of_row W b j _ _ _ h1, List.getElem?_toArray, List.getElem?_append_left (by simpa using hlt), List.getElem?_map, hj]
 rfl
theorem BytesAt.free {W : World} {b : Nat} {l : List UInt8} (h : BytesAt W b l) {j : Nat} (hj : j < l.length) : W.frozen? ⟨b, j, none⟩ = false := by
 obtain ⟨rest, N, h1, h2⟩ := h
 have : ¬ N ≤ j := by omega
 simp [World.frozen?, h1, this]
theorem BytesAt.set {W : World} {b : Nat} {l : List UInt8} (h : BytesAt W b l) {j : Nat} (hj : j < l.length) (c : UInt8) (z : Int) (hz : z = (c.toNat : Int)) : BytesAt (W.setCell ⟨b, j, none⟩ (.int .u8 z)) b (l.set j c) := by
 obtain ⟨rest, N, h1, h2⟩ := h
 subst hz
 refine ⟨rest, N, ?_, by rw [List.length_set]; exact h2⟩
 rw [setCell_eq_setRow W b j _ 5 _ _ h1, setRow_heap W b _ _ 5 _ h1]
 congr 2
 apply Array.ext'
 simp [hj, List.map_set, byteV]
theorem conv_bytes (w : World) (s : ByteArray) : (convert 9 55 (.string s)).run Tryz.prog w = .ok (.slice (some ⟨w.heap.size, 0, none⟩) s.size (grownCap w s.size 0 5))
     (w.drew.alloc (.cells (bytesRow s (grownCap w s.size 0 5)) 5 ((bytesRow s (grownCap w s.size 0 5)).size, (bytesRow s (grownCap w s.size 0 5)).size + 1))) :=
 run_bytes_of_string w 9 55 5 s Tryz.underlying9 Tryz.underlying55 Tryz.underlying5
theorem bytes_new (w : World) (s : ByteArray) (cap : Nat) : BytesAt (w.drew.alloc (.cells (bytesRow s cap) 5 ((bytesRow s cap).size, (bytesRow s cap).size + 1))) w.heap.size s.data.toList := by
 refine ⟨List.replicate (cap - s.size) (.int .u8 0), (bytesRow s cap).size, ?_, by unfold bytesRow; rw [Array.size_append, Array.size_map, Array.size_replicate, List.length_replicate]; rfl⟩
 have := heap_alloc_new w.drew (.cells (bytesRow s cap) 5 ((bytesRow s cap).size, (bytesRow s cap).size + 1))
 refine this.trans ?_
 congr 2
 apply Array.ext'
 simp [bytesRow]
 intro a _
 rfl
theorem BytesAt.text {W : World} {b : Nat} {l : List UInt8} (h : BytesAt W b l) (n cap : Nat) (hn : n = l.length) : (convert 55 9 (.slice (some ⟨b, 0, none⟩) n cap)).run Tryz.prog W = .ok (.string ⟨l.toArray⟩) W := by
 subst hn
 exact run_convert_bytes_back W 55 9 5 ⟨b, 0, none⟩ cap l Tryz.underlying55 Tryz.underlying5 Tryz.underlying9 (fun j hj => by
   rw [Addr.add_lit, Nat.zero_add]
   exact h.cell (List.getElem?_eq_getElem hj))
theorem add_text (w : World) (a b : ByteArray) (h : a.size + b.size ≤ 1000) : (Op.stringOp .add a b).run Tryz.prog w = .ok (.string (a ++ b)) w := run_string_add_sum w a b (by omega)
end Go.Proofs.YtcgpflkaejbkhaaGreatDoor
namespace Go.Proofs.YtcgpflkaejbkhaaGreatDoor
open Go.RowKit

def kwV (l : List UInt8) : Value := .tuple #[.string ⟨(kwR l).toArray⟩, .bool (decide (kwR l ≠ []))]
theorem upB_low {c : UInt8} (h1 : 97 ≤ c.toNat) (h2 : c.toNat ≤ 122) : ((upB c).toNat : Int) = (c.toNat : Int) - 32 ∧ isCap (upB c) = true := by
 have e : (97 ≤ c && c ≤ 122) = true := by simp [UInt8.le_iff_toNat_le]; omega
 unfold upB isCap
 rw [if_pos e]
 have h32 : (32 : UInt8) ≤ c := by simp [UInt8.le_iff_toNat_le]; omega
 have hs : (c - 32).toNat = c.toNat - 32 := UInt8.toNat_sub_of_le _ _ h32
 refine ⟨by rw [hs]; omega, ?_⟩
 simp only [UInt8.le_iff_toNat_le, hs, Bool.and_eq_true, decide_eq_true_eq]
 constructor <;> (simp; omega)
theorem upB_other {c : UInt8} (h : ¬ (97 ≤ c.toNat ∧ c.toNat ≤ 122)) : upB c = c := by
 unfold upB
 rw [if_neg]
 simp only [Bool.and_eq_true, decide_eq_true_eq, UInt8.le_iff_toNat_le]
 exact h
theorem cap_of {c : UInt8} (h : isCap c = true) : 65 ≤ c.toNat ∧ c.toNat ≤ 90 := by
 unfold isCap at h
 simpa [UInt8.le_iff_toNat_le] using h
theorem cap_mk {c : UInt8} (h1 : 65 ≤ c.toNat) (h2 : c.toNat ≤ 90) : isCap c = true := by
 unfold isCap
 simp [UInt8.le_iff_toNat_le]; exact ⟨h1, h2⟩
theorem kw_none {l : List UInt8} {k : Nat} {c : UInt8} (hc : l[k]? = some c) (h1 : ¬ (97 ≤ c.toNat ∧ c.toNat ≤ 122)) (h2 : ¬ (65 ≤ c.toNat ∧ c.toNat ≤ 90)) : kwR l = [] := by
 unfold kwR
 rw [if_neg]
 intro hm
 have hx := (kws_caps _ hm).2 (upB c) (List.mem_map_of_mem (List.mem_of_getElem? hc))
 rw [upB_other h1] at hx
 exact h2 (cap_of hx)
theorem kw_nil : kwR [] = [] := by decide
theorem set_up (l : List UInt8) (k : Nat) (c : UInt8) (hc : l[k]? = some c) : ((l.take k).map upB ++ l.drop k).set k (upB c) = (l.take (k + 1)).map upB ++ l.drop (k + 1) := by
 have hk := (List.getElem?_eq_some_iff.1 hc).1
 have hd : l.drop k = c :: l.drop (k + 1) := by rw [List.drop_eq_getElem_cons hk]; congr 1; exact (List.getElem?_eq_some_iff.1 hc).2
 rw [hd, List.set_append_right _ _ (by simp; omega), List.take_add_one, hc]
 simp [show k - min k l.length = 0 by omega]
set_option maxRecDepth 100000 in
set_option maxHeartbeats 4000000 in
theorem keyword_any (s : ByteArray) (m : Int) (w : World) (hs : s.size ≤ 200) (hm : w.cell? ⟨0, 0, none⟩ = some (.int .i64 m)) :
   Calls Tryz.prog 110 #[.string s] w (RetV (kwV s.data.toList) w) := by
 obtain ⟨l, hl⟩ : ∃ l, l = s.data.toList := ⟨_, rfl⟩
 obtain ⟨n, hn⟩ : ∃ n, n = s.size := ⟨_, rfl⟩
 have hnl : l.length = n := by rw [hl, hn]; show s.data.toList.length = s.data.size; simp
 have HNL := Lib.hid hnl
 rw [← hl]
 obtain ⟨cap, hcap⟩ : ∃ cap, cap = grownCap w s.size 0 5 := ⟨_, rfl⟩
 have HCV := Lib.hid (conv_bytes w s)
 have HNEW := Lib.hid (bytes_new w s cap)
 rw [← hcap, ← hn] at HCV
 rw [← hl] at HNEW
 obtain ⟨w1, hw1⟩ : ∃ w1, w1 = w.drew.alloc (.cells (bytesRow s cap) 5 ((bytesRow s cap).size, (bytesRow s cap).size + 1)) := ⟨_, rfl⟩
 rw [← hw1] at HCV HNEW
 have HB1 := Lib.hid (show Below w.heap.size w w1 by rw [hw1]; exact ((Below.refl _ w).drew).alloc (Nat.le_refl _) _)
 have hcv := HCV.out
 have hn2 : n ≤ 200 := by omega
 have HM := Lib.hid hm
 obtain ⟨kv, hkv⟩ : ∃ kv, kv = kwV l := ⟨_, rfl⟩
 have HKV := Lib.hid hkv
 rw [← hkv]
 clear hl hn hnl hcap hw1 hs hm hkv
 go_enter Tryz.func110, Tryz.ntmps110
 go_wp2_with fail
 go_loopw [11] (fun i wr => ∃ k : Nat, k ≤ n ∧ i = .int .i64 k ∧ Below w.heap.size w wr ∧ BytesAt wr w.heap.size ((l.take k).map upB ++ l.drop k) ∧ Hid (∀ c ∈ (l.take k).map upB, isCap c = true)) (fun i _ => n - (intOf i).toNat)
 case atStart => exact ⟨0, Nat.zero_le _, rfl, HB1.out, by simpa using HNEW.out, Lib.hid (fun c h => by simp at h)⟩
 case round =>
   obtain ⟨k, hk, rfl, hB, hby, HC⟩ := hrel
   obtain ⟨wo, rfl⟩ : ∃ wo : World, wo = wr := ⟨_, rfl⟩
   have HB := Lib.hid hB
   have HBY := Lib.hid hby
   have hlt0 := hby.lt
   have HLEN := Lib.hid (show ((l.take k).map upB ++ l.drop k).length = n by simp; have := HNL.out; omega)
   clear hB hby
   by_cases hlt : k < n
   · obtain ⟨c, hc⟩ : ∃ c, l[k]? = some c := ⟨_, List.getElem?_eq_getElem (by have := HNL.out; omega)⟩
     have hcell := HBY.out.cell (j := k) (c := c) (by rw [List.getElem?_append_right (by simp; omega)]; simp; have := HNL.out; rw [show min k l.length = k by omega]; simp [hc])
     have hfree := HBY.out.free (j := k) (by rw [HLEN.out]; exact hlt)
     have HCC := Lib.hid hc
     have HSU := Lib.hid (set_up l k c hc)
     have hc255 : (c.toNat : Int) ≤ 255 := by have := c.toNat_lt; omega
     have hc0 : (0 : Int) ≤ (c.toNat : Int) := by omega
     clear hc
     by_cases hlow : 97 ≤ c.toNat ∧ c.toNat ≤ 122
     · obtain ⟨hl1, hl2⟩ := hlow
       have HU := Lib.hid (upB_low hl1 hl2)
       have HSET := Lib.hid (HBY.out.set (j := k) (by rw [HLEN.out]; exact hlt) (upB c) ((c.toNat : Int) - 32) HU.out.1.symm)
       have HC2 := Lib.hid (show ∀ x ∈ (l.take (k + 1)).map upB, isCap x = true from fun x hx => by
         rw [List.take_add_one, HCC.out] at hx
         simp only [Option.toList_some, List.map_append, List.map_cons, List.map_nil, List.mem_append, List.mem_singleton] at hx
         rcases hx with hx | hx
         · exact HC.out x hx
         · rw [hx]; exact HU.out.2)
       go_wp2_with fail
       go_roundw
       case rel => exact ⟨k + 1, by omega, by go_num, HB.out.setCell (p := ⟨w.heap.size, k, none⟩) (Nat.le_refl _) _, by rw [← HSU.out]; exact HSET.out, HC2⟩
       case measure => simp [intOf] <;> omega
     · by_cases hcp : 65 ≤ c.toNat ∧ c.toNat ≤ 90
       · obtain ⟨hp1, hp2⟩ := hcp
         have hn97 : ¬ (97 : Int) ≤ (c.toNat : Int) := by omega
         have HC2 := Lib.hid (show ∀ x ∈ (l.take (k + 1)).map upB, isCap x = true from fun x hx => by
           rw [List.take_add_one, HCC.out] at hx
           simp only [Option.toList_some, List.map_append, List.map_cons, List.map_nil, List.mem_append, List.mem_singleton] at hx
           rcases hx with hx | hx
           · exact HC.out x hx
           · rw [hx, upB_other (by omega)]; exact cap_mk hp1 hp2)
         have HBY2 := Lib.hid (show BytesAt wo w.heap.size ((l.take (k + 1)).map upB ++ l.drop (k + 1)) by
           have h := HBY.out
           have e : ((l.take k).map upB ++ l.drop k).set k (upB c) = (l.take k).map upB ++ l.drop k := by
             rw [upB_other (by omega)]
             apply List.ext_getElem?
             intro j
             rw [List.getElem?_set]
             split
             · rename_i hj
               subst hj
               rw [List.getElem?_append_right (by simp; omega)]
               have := HNL.out
               simp [show min k l.length = k by omega, HCC.out]
               omega
             · rfl
           rw [← HSU.out, e]
           exact h)
         clear hlow
         go_wp2_with fail
         go_roundw
         case rel => exact ⟨k + 1, by omega, by go_num, HB.out, HBY2.out, HC2⟩
         case measure => simp [intOf] <;> omega
       · have HNO := Lib.hid (show kv = .tuple #[.string ⟨#[]⟩, .bool false] by rw [HKV.out]; unfold kwV; rw [kw_none HCC.out hlow hcp]; rfl)
         by_cases h122 : c.toNat ≤ 122
         · by_cases h97 : 97 ≤ c.toNat
           · exact absurd ⟨h97, h122⟩ hlow
           · have hn97 : ¬ (97 : Int) ≤ (c.toNat : Int) := by omega
             by_cases h65 : 65 ≤ c.toNat
             · have h90 : (90 : Int) < (c.toNat : Int) := by omega
               clear hlow hcp h122 h97
               go_wp2_with fail
               go_ret2
               exact ⟨by rw [HNO.out]; rfl, HB.out⟩
             · have h65' : (c.toNat : Int) < 65 := by omega
               clear hlow hcp h122 h97 h65
               go_wp2_with fail
               go_ret2
               exact ⟨by rw [HNO.out]; rfl, HB.out⟩
         · have h122' : (122 : Int) < (c.toNat : Int) := by omega
           clear hlow hcp h122
           go_wp2_with fail
           go_ret2
           exact ⟨by rw [HNO.out]; rfl, HB.out⟩
   · have hkn : k = n := by omega
     subst hkn
     have HBF := Lib.hid (show BytesAt wo w.heap.size (l.map upB) by
       have h := HBY.out
       rw [List.take_of_length_le (by have := HNL.out; omega), List.drop_eq_nil_of_le (by have := HNL.out; omega), List.append_nil] at h
       exact h)
     have HCA := Lib.hid (show ∀ c ∈ l.map upB, isCap c = true from fun c h => HC.out c (by rw [List.take_of_length_le (by have := HNL.out; omega)]; exact h))
     clear hlt
     by_cases h0 : k = 0
     · have hnil : l = [] := List.eq_nil_of_length_eq_zero (by have := HNL.out; omega)
       have HNO := Lib.hid (show kv = .tuple #[.string ⟨#[]⟩, .bool false] by rw [HKV.out, hnil]; unfold kwV; rw [kw_nil]; rfl)
       subst h0
       clear hnil
       go_wp2_with fail
       go_ret2
       exact ⟨by rw [HNO.out]; rfl, HB.out⟩
     · have h0b : ((k : Int) == 0) = false := by simpa using h0
       have hne : l.map upB ≠ [] := by
         intro h
         have h5 := congrArg List.length h
         rw [List.length_map, HNL.out] at h5
         exact h0 h5
       obtain ⟨U, hU⟩ : ∃ U : ByteArray, U = ⟨(l.map upB).toArray⟩ := ⟨_, rfl⟩
       have hUs : U.size ≤ 200 := by rw [hU]; show (l.map upB).toArray.size ≤ 200; simp; have := HNL.out; omega
       have hcv3 : (convert 55 9 (.slice (some ⟨w.heap.size, 0, none⟩) k cap)).run Tryz.prog wo = .ok (.string U) wo := by rw [hU]; exact HBF.out.text k cap (by simp; have := HNL.out; omega)
       obtain ⟨X, hX⟩ : ∃ X : ByteArray, X = ⟨#[32]⟩ ++ U := ⟨_, rfl⟩
       obtain ⟨Y, hY⟩ : ∃ Y : ByteArray, Y = X ++ ⟨#[32]⟩ := ⟨_, rfl⟩
       have h1s : (⟨#[32]⟩ : ByteArray).size = 1 := rfl
       have hXs : X.size ≤ 201 := by rw [hX, ByteArray.size_append, h1s]; omega
       have hadd1 : (Op.stringOp .add ⟨#[32]⟩ U).run Tryz.prog wo = .ok (.string X) wo := by rw [hX]; exact add_text wo _ _ (by rw [h1s]; omega)
       have hadd2 : (Op.stringOp .add X ⟨#[32]⟩).run Tryz.prog wo = .ok (.string Y) wo := by rw [hY]; exact add_text wo _ _ (by rw [h1s]; omega)
       have HYL := Lib.hid (show Y.data.toList = 32 :: l.map upB ++ [32] by rw [hY, hX, hU]; simp [ByteArray.data_append])
       have HCON := Lib.hid (fun (S : ByteArray) (hS : S.data.toList = kwText) => show Calls Tryz.prog 122 #[.string S, .string Y] wo (fun e w' => e = .returned (.bool (decide (l.map upB ∈ kws))) ∧ wo = w') from
         (Tryz.strings_Contains S Y m wo (by show S.data.size < _; rw [← Array.length_toList, hS]; decide) (cell_kept HM.out HB.out)).mono fun e w' ⟨h1, h2⟩ => ⟨by
           rw [h1, hS, HYL.out]
           exact ret_bool (kw_text hne HCA.out), h2.symm⟩)
       have HUU := Lib.hid hU
       clear hU hX hY hUs hXs h1s hne
       by_cases hk9 : l.map upB ∈ kws
       · have HKV2 := Lib.hid (show kv = .tuple #[.string U, .bool true] by
           have e : kwR l = l.map upB := by unfold kwR; rw [if_pos hk9]
           have e2 := (kws_caps _ hk9).1
           rw [HKV.out]; unfold kwV; rw [e, HUU.out, decide_eq_true e2])
         have HCO2 := Lib.hid (show decide (l.map upB ∈ kws) = true from decide_eq_true hk9)
         rw [HCO2.out] at HCON
         clear hk9
         go_wp2_with (first
           | (go_at_call 122; (with_reducible refine (HCON.out _ ?_).mono ?_); (kernel_rfl); rintro e w2 ⟨rfl, rfl⟩)
           | fail)
         go_ret2
         exact ⟨by rw [HKV2.out]; rfl, HB.out⟩
       · have HKV2 := Lib.hid (show kv = .tuple #[.string ⟨#[]⟩, .bool false] by
           have e : kwR l = [] := by unfold kwR; rw [if_neg hk9]
           rw [HKV.out]; unfold kwV; rw [e]; rfl)
         have HCO2 := Lib.hid (show decide (l.map upB ∈ kws) = false from decide_eq_false hk9)
         rw [HCO2.out] at HCON
         clear hk9
         go_wp2_with (first
           | (go_at_call 122; (with_reducible refine (HCON.out _ ?_).mono ?_); (kernel_rfl); rintro e w2 ⟨rfl, rfl⟩)
           | fail)
         go_ret2
         exact ⟨by rw [HKV2.out]; rfl, HB.out⟩
end Go.Proofs.YtcgpflkaejbkhaaGreatDoor
namespace Go.Proofs.YtcgpflkaejbkhaaGreatDoor
open Go.RowKit

def strV (l : List UInt8) : Value := .string ⟨l.toArray⟩
def KwBlk (W : World) (b : Nat) : Prop := W.heap[b]? = some (.cells (kws.map strV).toArray 9 (0, 0))
def WordsP (w : World) (e : Ending) (w' : World) : Prop := e = .returned (.slice (some ⟨w.heap.size, 0, none⟩) 35 35) ∧ KwBlk w' w.heap.size ∧ Below w.heap.size w w'
theorem KwBlk.cell {W : World} {b : Nat} (h : KwBlk W b) {j : Nat} {l : List UInt8} (hj : kws[j]? = some l) : W.cell? ⟨b, j, none⟩ = some (.string ⟨l.toArray⟩) := by
 rw [cell_of_row W b j _ _ _ h, List.getElem?_toArray, List.getElem?_map, hj]; rfl
set_option maxRecDepth 100000 in
set_option maxHeartbeats 1000000 in
theorem words_any (w : World) : Calls Tryz.prog 130 #[] w (WordsP w) := by
 go_enter Tryz.func130, Tryz.ntmps130
 go_wp2_with fail
 go_ret
 exact ⟨rfl, heap_alloc_new w _, below1 w _⟩
theorem snoc_up (s : ByteArray) (k : Nat) (h : k < s.size) : (⟨((s.data.toList.take k).map upB).toArray⟩ : ByteArray) ++ ⟨#[upB s[k]]⟩ = ⟨((s.data.toList.take (k + 1)).map upB).toArray⟩ := by
 have h2 : s.data.toList[k]? = some s[k] := by
   rw [Array.getElem?_toList]
   exact Array.getElem?_eq_getElem h
 rw [List.take_add_one, h2]
 apply ByteArray.ext
 simp [ByteArray.data_append]
theorem up_size (s : ByteArray) (k : Nat) : (⟨((s.data.toList.take k).map upB).toArray⟩ : ByteArray).size ≤ s.size := by
 show ((s.data.toList.take k).map upB).toArray.size ≤ s.data.size
 simp
 omega
theorem one_text (W : World) (z : Int) (c : UInt8) (hz : z = (c.toNat : Int)) : (convert 55 9 (.slice (some ⟨W.heap.size, 0, none⟩) 1 1)).run Tryz.prog (W.alloc (.cells #[.int .u8 z] 5)) = .ok (.string ⟨#[c]⟩) (W.alloc (.cells #[.int .u8 z] 5)) := by
 subst hz
 exact run_convert_bytes_back (W.alloc (.cells #[.int .u8 (c.toNat : Int)] 5)) 55 9 5 ⟨W.heap.size, 0, none⟩ 1 [c] Tryz.underlying55 Tryz.underlying5 Tryz.underlying9 (fun j hj => by
   obtain rfl : j = 0 := by simp at hj; omega
   rw [Addr.add_lit, Nat.zero_add]
   exact cell_of_row _ _ 0 _ _ _ (heap_alloc_new W _))
set_option maxRecDepth 100000 in
set_option maxHeartbeats 4000000 in
theorem rkeyword_any (s : ByteArray) (w : World) (hs : s.size ≤ 200) : Calls Tryz.prog 117 #[.string s] w (RetV (.string ⟨(kwR s.data.toList).toArray⟩) w) := by
 obtain ⟨R, hR⟩ : ∃ R : ByteArray, R = ⟨(kwR s.data.toList).toArray⟩ := ⟨_, rfl⟩
 rw [← hR]
 have HR := Lib.hid hR
 clear hR
 go_enter Tryz.func117, Tryz.ntmps117
 go_wp2_with fail
 go_loopw [3, 4] (fun up i wr => ∃ k : Nat, k ≤ s.size ∧ i = .int .i64 k ∧ up = .string ⟨((s.data.toList.take k).map upB).toArray⟩ ∧ Below w.heap.size w wr) (fun _ i _ => s.size - (intOf i).toNat)
 case atStart => exact ⟨0, Nat.zero_le _, rfl, rfl, Below.refl _ _⟩
 case round =>
   obtain ⟨k, hk, rfl, rfl, hB⟩ := hrel
   obtain ⟨wo, rfl⟩ : ∃ wo : World, wo = wr := ⟨_, rfl⟩
   have HB := Lib.hid hB
   clear hB
   by_cases hlt : k < s.size
   · have HSN := Lib.hid (snoc_up s k hlt)
     have HUS := up_size s k
     obtain ⟨U, hU⟩ : ∃ U : ByteArray, U = ⟨((s.data.toList.take k).map upB).toArray⟩ := ⟨_, rfl⟩
     rw [← hU] at HSN HUS ⊢
     obtain ⟨c, hc⟩ : ∃ c, c = s[k] := ⟨_, rfl⟩
     have HC := Lib.hid hc
     rw [← hc] at HSN
     obtain ⟨V, hV⟩ : ∃ V : ByteArray, V = U ++ ⟨#[upB c]⟩ := ⟨_, rfl⟩
     have HV := Lib.hid (show V = ⟨((s.data.toList.take (k + 1)).map upB).toArray⟩ by rw [hV]; exact HSN.out)
     have hone : (⟨#[upB c]⟩ : ByteArray).size = 1 := rfl
     have hadd : ∀ W, (Op.stringOp .add U ⟨#[upB c]⟩).run Tryz.prog W = .ok (.string V) W := fun W => by rw [hV]; exact add_text W _ _ (by rw [hone]; omega)
     have hc255 : (c.toNat : Int) ≤ 255 := by have := c.toNat_lt; omega
     have hc0 : (0 : Int) ≤ (c.toNat : Int) := by omega
     have hkc : s[k] = c := hc.symm
     clear hU hV hone hc
     by_cases hlow : 97 ≤ c.toNat ∧ c.toNat ≤ 122
     · obtain ⟨hl1, hl2⟩ := hlow
       have hl1' : (97 : Int) ≤ (c.toNat : Int) := by omega
       have hl2' : (c.toNat : Int) ≤ 122 := by omega
       have hcv := one_text wo ((c.toNat : Int) - 97 + 65) (upB c) (by have := (upB_low hl1 hl2).1; omega)
       go_wp2_with fail
       go_roundw
       case rel => exact ⟨k + 1, by omega, by go_num, by rw [HV.out], HB.out.trans ((below1 wo _).mono HB.out.size)⟩
       case measure => simp [intOf] <;> omega
     · have hcv := one_text wo (c.toNat : Int) (upB c) (by rw [upB_other hlow])
       by_cases h97 : 97 ≤ c.toNat
       · have h122 : ¬ (c.toNat : Int) ≤ 122 := by omega
         have h97' : (97 : Int) ≤ (c.toNat : Int) := by omega
         clear hlow h97
         go_wp2_with fail
         go_roundw
         case rel => exact ⟨k + 1, by omega, by go_num, by rw [HV.out], HB.out.trans ((below1 wo _).mono HB.out.size)⟩
         case measure => simp [intOf] <;> omega
       · have h97' : ¬ (97 : Int) ≤ (c.toNat : Int) := by omega
         clear hlow h97
         go_wp2_with fail
         go_roundw
         case rel => exact ⟨k + 1, by omega, by go_num, by rw [HV.out], HB.out.trans ((below1 wo _).mono HB.out.size)⟩
         case measure => simp [intOf] <;> omega
   · have hall : s.data.toList.take k = s.data.toList := List.take_of_length_le (by
       have : s.data.toList.length = s.size := by show _ = s.data.size; simp
       omega)
     rw [hall]
     obtain ⟨u, hu⟩ : ∃ u, u = s.data.toList.map upB := ⟨_, rfl⟩
     rw [← hu]
     have HK := Lib.hid (show kwR s.data.toList = if u ∈ kws then u else [] by unfold kwR; rw [hu])
     obtain ⟨U, hU⟩ : ∃ U : ByteArray, U = ⟨u.toArray⟩ := ⟨_, rfl⟩
     rw [← hU]
     have HU := Lib.hid hU
     clear hall hu hU
     go_wp2_with (first
       | (go_at_call 130; (with_reducible refine (words_any _).mono ?_); rintro e w2 ⟨rfl, hkb, hB2⟩; have HKB := Lib.hid hkb; have HB2 := Lib.hid (HB.out.trans (hB2.mono HB.out.size)); have hlk := heap_lt hkb; clear hkb hB2)
       | fail)
     go_loop [7] (fun i => ∃ k : Nat, k ≤ 35 ∧ i = .int .i64 k ∧ Hid (∀ j l, j < k → kws[j]? = some l → l ≠ u)) (fun i => 35 - (intOf i).toNat)
     case atStart => exact ⟨0, Nat.zero_le _, rfl, Lib.hid (fun j l h => absurd h (Nat.not_lt_zero _))⟩
     case round =>
       obtain ⟨j, hj, rfl, HN⟩ := hrel
       by_cases hj35 : j < 35
       · obtain ⟨l, hl⟩ : ∃ l, kws[j]? = some l := ⟨_, List.getElem?_eq_getElem (show j < kws.length from hj35)⟩
         have hcell := HKB.out.cell hl
         obtain ⟨T, hT⟩ : ∃ T : ByteArray, T = ⟨l.toArray⟩ := ⟨_, rfl⟩
         rw [← hT] at hcell
         have hj35i : (j : Int) < 35 := by omega
         by_cases he : l = u
         · have HE := Lib.hid (show R = U by rw [HR.out, HK.out, if_pos (by rw [← he]; exact List.mem_of_getElem? hl), HU.out])
           have heq : (T.toList == U.toList) = true := by rw [hT, HU.out, he]; simp
           clear he hl hT
           go_wp2_with fail
           go_ret
           exact ⟨by rw [HE.out]; rfl, HB2.out⟩
         · have heq : (T.toList == U.toList) = false := by
             rw [hT, HU.out, ByteArray.toList_eq, ByteArray.toList_eq]
             simpa using he
           have HN2 := Lib.hid (show ∀ j' l', j' < j + 1 → kws[j']? = some l' → l' ≠ u from fun j' l' h1 h2 => by
             by_cases e : j' = j
             · subst e
               rw [hl] at h2; cases h2
               exact he
             · exact HN.out j' l' (by omega) h2)
           clear he hl hT
           go_wp2_with fail
           go_round
           case rel => exact ⟨j + 1, by omega, by go_num, HN2⟩
           case measure => simp [intOf] <;> omega
       · have HE := Lib.hid (show R = ⟨#[]⟩ by
           rw [HR.out, HK.out, if_neg]
           intro hm
           obtain ⟨i, hi, he⟩ := List.mem_iff_getElem.1 hm
           have hi35 : i < 35 := hi
           exact HN.out i u (by omega) (by rw [List.getElem?_eq_getElem hi, he]) rfl)
         go_wp2_with fail
         go_ret
         exact ⟨by rw [HE.out]; rfl, HB2.out⟩
end Go.Proofs.YtcgpflkaejbkhaaGreatDoor
namespace Go.Proofs.YtcgpflkaejbkhaaGreatDoor
open Go.RowKit

def letP (r : Int) : Bool := decide (r = 95) || (decide (97 ≤ r) && decide (r ≤ 122)) || (decide (65 ≤ r) && decide (r ≤ 90))
def digP (r : Int) : Bool := decide (48 ≤ r) && decide (r ≤ 57)
def blaP (r : Int) : Bool := decide (r = 32) || decide (r = 9) || decide (r = 10) || decide (r = 13)
def namP (r : Int) : Bool := letP r || digP r
def SameV (v : Value) (w : World) (e : Ending) (w' : World) : Prop := e = .returned v ∧ w = w'
theorem ret_b {a b : Bool} (h : a = b) : Ending.returned (.bool a) = .returned (.bool b) := by rw [h]
set_option maxHeartbeats 1000000 in
theorem digit_any (r : Int) (w : World) : Calls Tryz.prog 109 #[.int .i32 r] w (SameV (.bool (digP r)) w) := by
 obtain ⟨b, hb⟩ : ∃ b, b = digP r := ⟨_, rfl⟩
 have HB := Lib.hid hb
 rw [← hb]
 clear hb
 by_cases h1 : 48 ≤ r
 · by_cases h2 : r ≤ 57
   · have HE := Lib.hid (show b = true by rw [HB.out]; simp [digP, h1, h2])
     go_enter Tryz.func109, Tryz.ntmps109
     go_wp2
     go_ret
     exact ⟨ret_b (by rw [HE.out]), rfl⟩
   · have HE := Lib.hid (show b = false by rw [HB.out]; simp [digP, h2])
     go_enter Tryz.func109, Tryz.ntmps109
     go_wp2
     go_ret
     exact ⟨ret_b (by rw [HE.out]), rfl⟩
 · have HE := Lib.hid (show b = false by rw [HB.out]; simp [digP, h1])
   go_enter Tryz.func109, Tryz.ntmps109
   go_wp2
   go_ret
   exact ⟨ret_b (by rw [HE.out]), rfl⟩
set_option maxHeartbeats 2000000 in
theorem letter_any (r : Int) (w : World) : Calls Tryz.prog 107 #[.int .i32 r] w (SameV (.bool (letP r)) w) := by
 obtain ⟨b, hb⟩ : ∃ b, b = letP r := ⟨_, rfl⟩
 have HB := Lib.hid hb
 rw [← hb]
 clear hb
 by_cases h0 : r = 95
 · have HE := Lib.hid (show b = true by rw [HB.out]; simp [letP, h0])
   subst h0
   go_enter Tryz.func107, Tryz.ntmps107
   go_wp2
   go_ret
   exact ⟨ret_b (by rw [HE.out]), rfl⟩
 · have h0b : (r == 95) = false := by simpa using h0
   by_cases h1 : 97 ≤ r
   · by_cases h2 : r ≤ 122
     · have HE := Lib.hid (show b = true by rw [HB.out]; simp [letP, h1, h2])
       clear h0
       go_enter Tryz.func107, Tryz.ntmps107
       go_wp2
       go_ret
       exact ⟨ret_b (by rw [HE.out]), rfl⟩
     · have HE := Lib.hid (show b = false by rw [HB.out]; simp [letP, h0, h2]; omega)
       have h65 : 65 ≤ r := by omega
       have h90 : ¬ r ≤ 90 := by omega
       clear h0
       go_enter Tryz.func107, Tryz.ntmps107
       go_wp2
       go_ret
       exact ⟨ret_b (by rw [HE.out]), rfl⟩
   · by_cases h3 : 65 ≤ r
     · by_cases h4 : r ≤ 90
       · have HE := Lib.hid (show b = true by rw [HB.out]; simp [letP, h3, h4])
         clear h0
         go_enter Tryz.func107, Tryz.ntmps107
         go_wp2
         go_ret
         exact ⟨ret_b (by rw [HE.out]), rfl⟩
       · have HE := Lib.hid (show b = false by rw [HB.out]; simp [letP, h0, h1, h4])
         clear h0
         go_enter Tryz.func107, Tryz.ntmps107
         go_wp2
         go_ret
         exact ⟨ret_b (by rw [HE.out]), rfl⟩
     · have HE := Lib.hid (show b = false by rw [HB.out]; simp [letP, h0, h1, h3])
       clear h0
       go_enter Tryz.func107, Tryz.ntmps107
       go_wp2
       go_ret
       exact ⟨ret_b (by rw [HE.out]), rfl⟩
set_option maxHeartbeats 1000000 in
theorem nam_any (r : Int) (w : World) : Calls Tryz.prog 108 (#[.int .i32 r] ++ #[]) w (SameV (.bool (namP r)) w) := by
 show Calls Tryz.prog 108 #[.int .i32 r] w _
 have HL := Lib.hid (fun W => letter_any r W)
 have HD := Lib.hid (fun W => digit_any r W)
 have HB := Lib.hid (show namP r = (letP r || digP r) from rfl)
 generalize namP r = b at HB ⊢
 generalize letP r = l at HL HB
 generalize digP r = d at HD HB
 cases l with
 | true =>
   go_enter Tryz.func108, Tryz.ntmps108
   go_wp2_with (first
     | (go_at_call 107; (with_reducible refine (HL.out _).mono ?_); rintro e w2 ⟨rfl, rfl⟩)
     | fail)
   go_ret
   exact ⟨ret_b (by rw [HB.out]; rfl), rfl⟩
 | false =>
   go_enter Tryz.func108, Tryz.ntmps108
   go_wp2_with (first
     | (go_at_call 107; (with_reducible refine (HL.out _).mono ?_); rintro e w2 ⟨rfl, rfl⟩)
     | (go_at_call 109; (with_reducible refine (HD.out _).mono ?_); rintro e w2 ⟨rfl, rfl⟩)
     | fail)
   go_ret
   exact ⟨ret_b (by rw [HB.out]; rfl), rfl⟩
set_option maxHeartbeats 2000000 in
theorem bla_any (r : Int) (w : World) : Calls Tryz.prog 95 (#[.int .i32 r] ++ #[]) w (SameV (.bool (blaP r)) w) := by
 show Calls Tryz.prog 95 #[.int .i32 r] w _
 obtain ⟨b, hb⟩ : ∃ b, b = blaP r := ⟨_, rfl⟩
 have HB := Lib.hid hb
 rw [← hb]
 clear hb
 cases e1 : (r == 32) with
 | true =>
   have HE := Lib.hid (show b = true by rw [HB.out]; simp [blaP, beq_iff_eq.1 e1])
   go_enter Tryz.func95, Tryz.ntmps95
   go_wp2
   go_ret
   exact ⟨ret_b (by rw [HE.out]), rfl⟩
 | false =>
   cases e2 : (r == 9) with
   | true =>
     have HE := Lib.hid (show b = true by rw [HB.out]; simp [blaP, beq_iff_eq.1 e2])
     go_enter Tryz.func95, Tryz.ntmps95
     go_wp2
     go_ret
     exact ⟨ret_b (by rw [HE.out]), rfl⟩
   | false =>
     cases e3 : (r == 10) with
     | true =>
       have HE := Lib.hid (show b = true by rw [HB.out]; simp [blaP, beq_iff_eq.1 e3])
       go_enter Tryz.func95, Tryz.ntmps95
       go_wp2
       go_ret
       exact ⟨ret_b (by rw [HE.out]), rfl⟩
     | false =>
       cases e4 : (r == 13) with
       | true =>
         have HE := Lib.hid (show b = true by rw [HB.out]; simp [blaP, beq_iff_eq.1 e4])
         go_enter Tryz.func95, Tryz.ntmps95
         go_wp2
         go_ret
         exact ⟨ret_b (by rw [HE.out]), rfl⟩
       | false =>
         have HE := Lib.hid (show b = false by rw [HB.out]; simp [blaP, beq_eq_false_iff_ne.1 e1, beq_eq_false_iff_ne.1 e2, beq_eq_false_iff_ne.1 e3, beq_eq_false_iff_ne.1 e4])
         go_enter Tryz.func95, Tryz.ntmps95
         go_wp2
         go_ret
         exact ⟨ret_b (by rw [HE.out]), rfl⟩
def spanR (p : Int → Bool) (l : List UInt8) : Nat := (l.takeWhile (fun b => p (b.toNat : Int))).length
theorem spanR_le (p : Int → Bool) (l : List UInt8) : spanR p l ≤ l.length := by
 unfold spanR
 exact (List.takeWhile_sublist _).length_le
theorem span_stop (p : Int → Bool) {l : List UInt8} {k : Nat} {c : UInt8} (h : ∀ j d, j < k → l[j]? = some d → p (d.toNat : Int) = true) (hc : l[k]? = some c) (hp : p (c.toNat : Int) = false) : spanR p l = k := by
 unfold spanR
 induction l generalizing k with
 | nil => simp at hc
 | cons x l ih =>
   cases k with
   | zero =>
     obtain rfl : x = c := by simpa using hc
     rw [List.takeWhile_cons, if_neg (by rw [hp]; decide)]; rfl
   | succ k =>
     rw [List.takeWhile_cons, if_pos (h 0 x (by omega) rfl), List.length_cons, ih (k := k) (fun j d hj hd => h (j + 1) d (by omega) (by simpa using hd)) (by simpa using hc)]
theorem span_all (p : Int → Bool) {l : List UInt8} (h : ∀ j d, j < l.length → l[j]? = some d → p (d.toNat : Int) = true) : spanR p l = l.length := by
 unfold spanR
 induction l with
 | nil => rfl
 | cons x l ih =>
   rw [List.takeWhile_cons, if_pos (h 0 x (by simp) rfl), List.length_cons, ih (fun j d h1 h2 => h (j + 1) d (by simp; omega) (by simpa using h2)), List.length_cons]
set_option maxHeartbeats 2000000 in
theorem span_any (F : Nat) (p : Int → Bool) (eg : ∀ args w, (callFunc F args).run Tryz.prog w = .ok (.enter F args) w) (hp : ∀ r W, Calls Tryz.prog F (#[.int .i32 r] ++ #[]) W (SameV (.bool (p r)) W)) (hhigh : ∀ r, 128 ≤ r → p r = false)
   (s : ByteArray) (hs : s.size ≤ maxLen) (w : World) : Calls Tryz.prog 94 #[.string s, .func (.func F) #[] #[]] w (RetV (.int .i64 (spanR p s.data.toList : Nat)) w) := by
 have hs2 : s.size ≤ 9223372036854775807 := by unfold maxLen at hs; exact Nat.le_trans hs (by decide)
 have HP := Lib.hid hp
 have HH := Lib.hid hhigh
 have hsl : s.data.toList.length = s.size := by show _ = s.data.size; simp
 have HSL := Lib.hid hsl
 obtain ⟨R, hR⟩ : ∃ R : Nat, R = spanR p s.data.toList := ⟨_, rfl⟩
 rw [← hR]
 have HR := Lib.hid hR
 have HG : ∀ (j : Nat) (d : UInt8), s.data.toList[j]? = some d → ∃ h : j < s.size, s[j] = d := fun j d h => by
   have hj := (List.getElem?_eq_some_iff.1 h).1
   refine ⟨by omega, ?_⟩
   have := (List.getElem?_eq_some_iff.1 h).2
   rw [← this]; rfl
 have HGG := Lib.hid HG
 clear hp hhigh hR hsl HG
 go_enter Tryz.func94, Tryz.ntmps94
 go_wp2_with fail
 go_loopw [9] (fun _ wr => ∃ k : Nat, k ≤ s.size ∧ wr = w.iter s k ∧ Hid (∀ j d, j < k → s.data.toList[j]? = some d → p (d.toNat : Int) = true)) (fun _ wr => s.size - wr.iterPos w.heap.size)
 case atStart => exact ⟨0, Nat.zero_le _, rfl, Lib.hid (fun j d h => absurd h (Nat.not_lt_zero _))⟩
 case round =>
   obtain ⟨k, hk, rfl, HC⟩ := hrel
   have hB : Below w.heap.size w (w.iter s k) := (Below.refl _ w).alloc (Nat.le_refl _) _
   have HB := Lib.hid hB
   clear hB
   by_cases hlt : k < s.size
   · obtain ⟨c, hc⟩ : ∃ c, c = s[k] := ⟨_, rfl⟩
     have hcl : s.data.toList[k]? = some c := by rw [hc, Array.getElem?_toList]; exact Array.getElem?_eq_getElem hlt
     have HCL := Lib.hid hcl
     by_cases ha : c.toNat < 128
     · have hnx := fun ty => run_next_ascii (P := Tryz.prog) w s k ty hlt (by rw [← hc]; exact ha)
       rw [← hc] at hnx
       cases hq : p (c.toNat : Int) with
       | true =>
         have HPP := Lib.hid (show ∀ W, Calls Tryz.prog F #[.int .i32 (c.toNat : Int)] W (SameV (.bool true) W) from fun W => by have h := HP.out (c.toNat : Int) W; rw [hq] at h; exact h)
         have HC2 := Lib.hid (show ∀ j d, j < k + 1 → s.data.toList[j]? = some d → p (d.toNat : Int) = true from fun j d h1 h2 => by
           by_cases e : j = k
           · subst e; rw [HCL.out] at h2; cases h2; exact hq
           · exact HC.out j d (by omega) h2)
         clear hq hc hcl
         go_wp2_with (first
           | (go_at_fn F; (with_reducible refine (HPP.out _).mono ?_); rintro e w2 ⟨rfl, rfl⟩)
           | fail)
         go_roundw
         case rel => exact ⟨k + 1, by omega, rfl, HC2⟩
         case measure => simp <;> omega
       | false =>
         have HPP := Lib.hid (show ∀ W, Calls Tryz.prog F #[.int .i32 (c.toNat : Int)] W (SameV (.bool false) W) from fun W => by have h := HP.out (c.toNat : Int) W; rw [hq] at h; exact h)
         have HE := Lib.hid (show R = k by rw [HR.out]; exact span_stop p HC.out HCL.out hq)
         clear hq hc hcl
         go_wp2_with (first
           | (go_at_fn F; (with_reducible refine (HPP.out _).mono ?_); rintro e w2 ⟨rfl, rfl⟩)
           | fail)
         go_ret
         exact ⟨by rw [HE.out]; rfl, (Below.refl _ w).alloc (Nat.le_refl _) _⟩
     · have hnx := fun ty => run_next_any (P := Tryz.prog) w s k ty hlt
       have hdh := decode_high s k hlt (by rw [← hc]; omega)
       obtain ⟨r, hr⟩ : ∃ r, r = (Utf8.decode s k).1 := ⟨_, rfl⟩
       obtain ⟨st, hst⟩ : ∃ st, st = (Utf8.decode s k).2 := ⟨_, rfl⟩
       rw [← hr, ← hst] at hnx
       have hr128 : (128 : Int) ≤ (r : Int) := by rw [hr]; omega
       have HPP := Lib.hid (show ∀ W, Calls Tryz.prog F #[.int .i32 (r : Int)] W (SameV (.bool false) W) from fun W => by have h := HP.out (r : Int) W; rw [HH.out (r : Int) hr128] at h; exact h)
       have HE := Lib.hid (show R = k by rw [HR.out]; exact span_stop p HC.out HCL.out (HH.out _ (by omega)))
       clear hc hcl hdh hr hst
       go_wp2_with (first
         | (go_at_fn F; (with_reducible refine (HPP.out _).mono ?_); rintro e w2 ⟨rfl, rfl⟩)
         | fail)
       go_ret
       exact ⟨by rw [HE.out]; rfl, (Below.refl _ w).alloc (Nat.le_refl _) _⟩
   · have hnx := fun ty => run_next_end (P := Tryz.prog) w s k ty hlt
     have HE := Lib.hid (show R = s.size by
       rw [HR.out, ← HSL.out]
       exact span_all p (fun j d h1 h2 => HC.out j d (by have := HSL.out; omega) h2))
     go_wp2_with fail
     go_ret
     exact ⟨by rw [HE.out]; rfl, HB.out⟩
end Go.Proofs.YtcgpflkaejbkhaaGreatDoor
namespace Go.Proofs.YtcgpflkaejbkhaaGreatDoor
open Go.RowKit

def tokV (k : Int) (s : ByteArray) (at_ : Int) : Value := .agg #[.int .i64 k, .string s, .int .i64 at_]
def nextV (k : Int) (s : ByteArray) (n e : Int) : Value := .tuple #[tokV k s 0, .int .i64 n, .int .i64 e]
theorem nam_span (s : ByteArray) (hs : s.size ≤ 200) (w : World) : Calls Tryz.prog 94 #[.string s, .func (.func 108) #[] #[]] w (RetV (.int .i64 (spanR namP s.data.toList : Nat)) w) :=
 span_any 108 namP (Go.Proofs.enters_of Tryz.func108 (by kernel_rfl) rfl) nam_any (fun r h => by simp [namP, letP, digP]; omega) s (by unfold maxLen; omega) w
theorem dig_span (s : ByteArray) (hs : s.size ≤ 200) (w : World) : Calls Tryz.prog 94 #[.string s, .func (.func 109) #[] #[]] w (RetV (.int .i64 (spanR digP s.data.toList : Nat)) w) :=
 span_any 109 digP (Go.Proofs.enters_of Tryz.func109 (by kernel_rfl) rfl) (fun r W => digit_any r W) (fun r h => by simp [digP]; omega) s (by unfold maxLen; omega) w
theorem bla_span (s : ByteArray) (hs : s.size ≤ 200) (w : World) : Calls Tryz.prog 94 #[.string s, .func (.func 95) #[] #[]] w (RetV (.int .i64 (spanR blaP s.data.toList : Nat)) w) :=
 span_any 95 blaP (Go.Proofs.enters_of Tryz.func95 (by kernel_rfl) rfl) bla_any (fun r h => by simp [blaP]; omega) s (by unfold maxLen; omega) w
set_option maxRecDepth 100000 in
set_option maxHeartbeats 2000000 in
theorem next_end (w : World) : Calls Tryz.prog 96 #[.string ⟨#[]⟩] w (RetV (nextV 0 ⟨#[]⟩ 0 0) w) := by
 go_enter Tryz.func96, Tryz.ntmps96
 go_wp2_with fail
 exact bodyPost_ret (v := .tuple #[.agg #[.int .i64 0, .string ⟨#[]⟩, .int .i64 0], .int .i64 0, .int .i64 0]) (by simp [results, Tryz.results96, go_sem]) rfl ⟨rfl, below1 w _⟩
def wordR (l : List UInt8) : Value :=
 let n := spanR namP l
 if kwR (l.take n) ≠ [] then nextV 2 ⟨(kwR (l.take n)).toArray⟩ n 0 else if 12 < n then nextV 0 ⟨#[]⟩ 0 4 else nextV 1 ⟨(l.take n).toArray⟩ n 0
theorem text_ne {s : ByteArray} (h0 : 0 < s.size) : (s.toList == []) = false := by
 have hsl : s.data.toList.length = s.size := by show _ = s.data.size; simp
 rw [ByteArray.toList_eq]
 cases hx : s.data.toList with
 | nil => rw [hx] at hsl; simp at hsl; omega
 | cons a l => rfl
set_option maxRecDepth 100000 in
set_option maxHeartbeats 4000000 in
theorem next_letter (s : ByteArray) (m : Int) (w : World) (hm : w.cell? ⟨0, 0, none⟩ = some (.int .i64 m)) (h0 : 0 < s.size) (hs : s.size ≤ 200) (hl : letP (s[0].toNat : Int) = true) : Calls Tryz.prog 96 #[.string s] w (RetV (wordR s.data.toList) w) := by
 have HM := Lib.hid hm
 obtain ⟨c, hc⟩ : ∃ c, c = s[0] := ⟨_, rfl⟩
 have hkc : s[0] = c := hc.symm
 rw [hkc] at hl
 have hc255 : (c.toNat : Int) ≤ 255 := by have := c.toNat_lt; omega
 have hc0 : (0 : Int) ≤ (c.toNat : Int) := by omega
 have HLE := Lib.hid (fun W => hl ▸ letter_any (c.toNat : Int) W)
 have HSP := Lib.hid (fun W => nam_span s hs W)
 have hsl : s.data.toList.length = s.size := by show _ = s.data.size; simp
 have hle := spanR_le namP s.data.toList
 have hne := text_ne h0
 obtain ⟨n, hn⟩ : ∃ n, n = spanR namP s.data.toList := ⟨_, rfl⟩
 have HR := Lib.hid (show wordR s.data.toList = if kwR (s.data.toList.take n) ≠ [] then nextV 2 ⟨(kwR (s.data.toList.take n)).toArray⟩ n 0 else if 12 < n then nextV 0 ⟨#[]⟩ 0 4 else nextV 1 ⟨(s.data.toList.take n).toArray⟩ n 0 by unfold wordR; rw [hn])
 rw [← hn] at HSP hle
 generalize wordR s.data.toList = R at HR ⊢
 have hns : n ≤ s.size := by omega
 obtain ⟨T, hT⟩ : ∃ T, T = s.extract 0 n := ⟨_, rfl⟩
 have HTL := Lib.hid (show T.data.toList = s.data.toList.take n by rw [hT]; simp [ByteArray.data_extract])
 have HTT := Lib.hid (show (⟨(s.data.toList.take n).toArray⟩ : ByteArray) = T by rw [← HTL.out])
 rw [HTT.out] at HR
 have hT2 : s.extract 0 n = T := hT.symm
 have HTS := Lib.hid (show T.size ≤ 200 by rw [hT, ByteArray.size_extract]; omega)
 have HKW := Lib.hid (fun (W : World) (hB : Below w.heap.size w W) => keyword_any T m W HTS.out (cell_kept HM.out hB))
 rw [HTL.out] at HKW
 generalize hku : kwR (s.data.toList.take n) = ku at HR
 have HK2 := Lib.hid (show kwV (s.data.toList.take n) = .tuple #[.string ⟨ku.toArray⟩, .bool (decide (ku ≠ []))] by unfold kwV; rw [hku])
 rw [HK2.out] at HKW
 clear hm hl hc hle hsl hn hT hku
 by_cases hk0 : ku = []
 · have hkd : decide (ku ≠ []) = false := by simp [hk0]
   rw [hkd] at HKW
   by_cases h12 : 12 < n
   · have HE := Lib.hid (show R = nextV 0 ⟨#[]⟩ 0 4 by rw [HR.out, if_neg (by simp [hk0]), if_pos h12])
     clear hkd hk0
     go_enter Tryz.func96, Tryz.ntmps96
     go_wp2_with (first
       | (go_at_call 107; (with_reducible refine (HLE.out _).mono ?_); rintro e w2 ⟨rfl, rfl⟩)
       | (go_at_call 94; (with_reducible refine (HSP.out _).mono ?_); rintro e w3 ⟨rfl, hB3⟩; have HB3 := Lib.hid hB3; have HW3 := Lib.hid ((below1 w (.cells #[.int .i64 0, .string ⟨#[]⟩, .int .i64 0] 102)).trans (hB3.mono (below1 w (.cells #[.int .i64 0, .string ⟨#[]⟩, .int .i64 0] 102)).size)); clear hB3)
       | (go_at_call 110; (with_reducible refine (HKW.out _ HW3.out).mono ?_); rintro e w4 ⟨rfl, hB4⟩; have hq := (hB4.block w.heap.size (by have := HB3.out.size; simp at this; omega)).trans ((HB3.out.block w.heap.size (by simp)).trans (heap_alloc_new w (.cells #[.int .i64 0, .string ⟨#[]⟩, .int .i64 0] 102))); have HW4 := Lib.hid (HW3.out.trans (hB4.mono HW3.out.size)); have r0 := cell_of_row _ _ 0 _ _ _ hq; have r1 := cell_of_row _ _ 1 _ _ _ hq; have r2 := cell_of_row _ _ 2 _ _ _ hq; have g0 := frozen_of_row _ _ 0 _ _ hq; have g1 := frozen_of_row _ _ 1 _ _ hq; have g2 := frozen_of_row _ _ 2 _ _ hq; clear hB4 hq)
       | fail)
     refine bodyPost_ret (v := .tuple #[.agg #[.int .i64 0, .string ⟨#[]⟩, .int .i64 0], .int .i64 0, .int .i64 4]) (by simp [results, Tryz.results96, go_sem, r0, r1, r2]) rfl ⟨by rw [HE.out]; rfl, ?_⟩
     exact ((HW4.out.setCell (p := ⟨w.heap.size, 0, none⟩) (Nat.le_refl _) _).setCell (p := ⟨w.heap.size, 1, none⟩) (Nat.le_refl _) _).setCell (p := ⟨w.heap.size, 2, none⟩) (Nat.le_refl _) _
   · have HE := Lib.hid (show R = nextV 1 T n 0 by rw [HR.out, if_neg (by simp [hk0]), if_neg h12])
     clear hkd hk0
     go_enter Tryz.func96, Tryz.ntmps96
     go_wp2_with (first
       | (go_at_call 107; (with_reducible refine (HLE.out _).mono ?_); rintro e w2 ⟨rfl, rfl⟩)
       | (go_at_call 94; (with_reducible refine (HSP.out _).mono ?_); rintro e w3 ⟨rfl, hB3⟩; have HB3 := Lib.hid hB3; have HW3 := Lib.hid ((below1 w (.cells #[.int .i64 0, .string ⟨#[]⟩, .int .i64 0] 102)).trans (hB3.mono (below1 w (.cells #[.int .i64 0, .string ⟨#[]⟩, .int .i64 0] 102)).size)); clear hB3)
       | (go_at_call 110; (with_reducible refine (HKW.out _ HW3.out).mono ?_); rintro e w4 ⟨rfl, hB4⟩; have hq := (hB4.block w.heap.size (by have := HB3.out.size; simp at this; omega)).trans ((HB3.out.block w.heap.size (by simp)).trans (heap_alloc_new w (.cells #[.int .i64 0, .string ⟨#[]⟩, .int .i64 0] 102))); have HW4 := Lib.hid (HW3.out.trans (hB4.mono HW3.out.size)); have r0 := cell_of_row _ _ 0 _ _ _ hq; have r1 := cell_of_row _ _ 1 _ _ _ hq; have r2 := cell_of_row _ _ 2 _ _ _ hq; have g0 := frozen_of_row _ _ 0 _ _ hq; have g1 := frozen_of_row _ _ 1 _ _ hq; have g2 := frozen_of_row _ _ 2 _ _ hq; clear hB4 hq)
       | fail)
     refine bodyPost_ret (v := .tuple #[.agg #[.int .i64 1, .string T, .int .i64 0], .int .i64 n, .int .i64 0]) (by simp [results, Tryz.results96, go_sem, r0, r1, r2]) rfl ⟨by rw [HE.out]; rfl, ?_⟩
     exact ((HW4.out.setCell (p := ⟨w.heap.size, 0, none⟩) (Nat.le_refl _) _).setCell (p := ⟨w.heap.size, 1, none⟩) (Nat.le_refl _) _).setCell (p := ⟨w.heap.size, 2, none⟩) (Nat.le_refl _) _
 · have hkd : decide (ku ≠ []) = true := by simp [hk0]
   rw [hkd] at HKW
   have HE := Lib.hid (show R = nextV 2 ⟨ku.toArray⟩ n 0 by rw [HR.out, if_pos hk0])
   generalize (⟨ku.toArray⟩ : ByteArray) = KU at HE HKW
   clear hkd hk0
   go_enter Tryz.func96, Tryz.ntmps96
   go_wp2_with (first
     | (go_at_call 107; (with_reducible refine (HLE.out _).mono ?_); rintro e w2 ⟨rfl, rfl⟩)
     | (go_at_call 94; (with_reducible refine (HSP.out _).mono ?_); rintro e w3 ⟨rfl, hB3⟩; have HB3 := Lib.hid hB3; have HW3 := Lib.hid ((below1 w (.cells #[.int .i64 0, .string ⟨#[]⟩, .int .i64 0] 102)).trans (hB3.mono (below1 w (.cells #[.int .i64 0, .string ⟨#[]⟩, .int .i64 0] 102)).size)); clear hB3)
     | (go_at_call 110; (with_reducible refine (HKW.out _ HW3.out).mono ?_); rintro e w4 ⟨rfl, hB4⟩; have hq := (hB4.block w.heap.size (by have := HB3.out.size; simp at this; omega)).trans ((HB3.out.block w.heap.size (by simp)).trans (heap_alloc_new w (.cells #[.int .i64 0, .string ⟨#[]⟩, .int .i64 0] 102))); have HW4 := Lib.hid (HW3.out.trans (hB4.mono HW3.out.size)); have r0 := cell_of_row _ _ 0 _ _ _ hq; have r1 := cell_of_row _ _ 1 _ _ _ hq; have r2 := cell_of_row _ _ 2 _ _ _ hq; have g0 := frozen_of_row _ _ 0 _ _ hq; have g1 := frozen_of_row _ _ 1 _ _ hq; have g2 := frozen_of_row _ _ 2 _ _ hq; clear hB4 hq)
     | fail)
   refine bodyPost_ret (v := .tuple #[.agg #[.int .i64 2, .string KU, .int .i64 0], .int .i64 n, .int .i64 0]) (by simp [results, Tryz.results96, go_sem, r0, r1, r2]) rfl ⟨by rw [HE.out]; rfl, ?_⟩
   exact ((HW4.out.setCell (p := ⟨w.heap.size, 0, none⟩) (Nat.le_refl _) _).setCell (p := ⟨w.heap.size, 1, none⟩) (Nat.le_refl _) _).setCell (p := ⟨w.heap.size, 2, none⟩) (Nat.le_refl _) _
end Go.Proofs.YtcgpflkaejbkhaaGreatDoor
namespace Go.Proofs.YtcgpflkaejbkhaaGreatDoor
open Go.RowKit

def kindZ (r : Int) : Int := if letP r then 1 else if digP r then 2 else if blaP r then 3 else 0
theorem ret_i {a b : Int} (h : a = b) : Ending.returned (.int .i64 a) = .returned (.int .i64 b) := by rw [h]
set_option maxHeartbeats 4000000 in
theorem kind_any (r : Int) (w : World) : Calls Tryz.prog 98 #[.int .u8 r] w (SameV (.int .i64 (kindZ r)) w) := by
 obtain ⟨b, hb⟩ : ∃ b, b = kindZ r := ⟨_, rfl⟩
 have HB := Lib.hid hb
 rw [← hb]
 clear hb
 go_enter Tryz.func98, Tryz.ntmps98
 go_wp2
 all_goals
   go_ret
   refine ⟨ret_i ?_, rfl⟩
   have hz := HB.out
   clear HB
   subst hz
   try simp only [beq_iff_eq, beq_eq_false_iff_ne, ne_eq] at *
   simp only [kindZ, letP, digP, blaP, Bool.or_eq_true, Bool.and_eq_true, decide_eq_true_iff]
   (repeat' split) <;> omega
theorem kindZ_let {r : Int} (h : letP r = true) : kindZ r = 1 := by simp [kindZ, h]
theorem kindZ_dig {r : Int} (h : letP r = false) (h2 : digP r = true) : kindZ r = 2 := by simp [kindZ, h, h2]
theorem kindZ_is1 (r : Int) : (kindZ r == 1) = letP r := by
 unfold kindZ
 cases letP r <;> cases digP r <;> cases blaP r <;> rfl
theorem dig_not_let {r : Int} (h : digP r = true) : letP r = false := by
 simp only [digP, Bool.and_eq_true, decide_eq_true_iff] at h
 simp only [letP, Bool.or_eq_false_iff, Bool.and_eq_false_iff, decide_eq_false_iff_not]
 omega
theorem bla_not_dig {r : Int} (h : blaP r = true) : letP r = false ∧ digP r = false := by
 simp only [blaP, Bool.or_eq_true, decide_eq_true_iff] at h
 rcases h with ((h | h) | h) | h <;> subst h <;> decide
theorem kindZ_is2 (r : Int) : (kindZ r == 2) = digP r := by
 cases h : digP r with
 | true => simp [kindZ, h, dig_not_let h]
 | false =>
   unfold kindZ
   rw [h]
   cases letP r <;> cases blaP r <;> rfl
theorem kindZ_is3 (r : Int) : (kindZ r == 3) = blaP r := by
 cases h : blaP r with
 | true => simp [kindZ, h, bla_not_dig h]
 | false =>
   unfold kindZ
   rw [h]
   cases letP r <;> cases digP r <;> rfl
set_option maxHeartbeats 4000000 in
theorem digits_any (s : ByteArray) (p : Nat) (w : World) (hp : p ≤ s.size) (hs : s.size ≤ 200) : Calls Tryz.prog 131 #[.string s, .int .i64 (p : Int)] w (SameV (.int .i64 ((p + spanR digP (s.data.toList.drop p) : Nat) : Int)) w) := by
 have hsl : s.data.toList.length = s.size := by show _ = s.data.size; simp
 obtain ⟨R, hR⟩ : ∃ R : Nat, R = p + spanR digP (s.data.toList.drop p) := ⟨_, rfl⟩
 rw [← hR]
 have HR := Lib.hid hR
 have HSL := Lib.hid hsl
 clear hR hsl
 have HP := Lib.hid hp
 clear hp
 go_enter Tryz.func131, Tryz.ntmps131
 go_wp2_with fail
 go_loop [1] (fun i => ∃ k : Nat, p ≤ k ∧ k ≤ s.size ∧ i = .int .i64 k ∧ Hid (∀ j d, j < k - p → (s.data.toList.drop p)[j]? = some d → digP (d.toNat : Int) = true)) (fun i => s.size - (intOf i).toNat)
 case atStart => exact ⟨p, Nat.le_refl _, HP.out, rfl, Lib.hid (fun j d h => absurd h (by omega))⟩
 case round =>
   obtain ⟨k, hpk, hk, rfl, HC⟩ := hrel
   by_cases hlt : k < s.size
   · obtain ⟨c, hc⟩ : ∃ c, c = s[k] := ⟨_, rfl⟩
     have hkc : s[k] = c := hc.symm
     have HCL := Lib.hid (show (s.data.toList.drop p)[k - p]? = some c by
       rw [List.getElem?_drop, show p + (k - p) = k by omega, hc, Array.getElem?_toList]; exact Array.getElem?_eq_getElem hlt)
     have HK := Lib.hid (fun W => kind_any (c.toNat : Int) W)
     have h2 := kindZ_is2 (c.toNat : Int)
     generalize kindZ (c.toNat : Int) = z at HK h2
     have hc255 : (c.toNat : Int) ≤ 255 := by have := c.toNat_lt; omega
     have hc0 : (0 : Int) ≤ (c.toNat : Int) := by omega
     cases hq : digP (c.toNat : Int) with
     | true =>
       rw [hq] at h2
       have HC2 := Lib.hid (show ∀ j d, j < k + 1 - p → (s.data.toList.drop p)[j]? = some d → digP (d.toNat : Int) = true from fun j d h1 h2 => by
         by_cases e : j = k - p
         · subst e; rw [HCL.out] at h2; cases h2; exact hq
         · exact HC.out j d (by omega) h2)
       clear hq hc
       go_wp2_with (first
         | (go_at_call 98; (with_reducible refine (HK.out _).mono ?_); rintro e w2 ⟨rfl, rfl⟩)
         | fail)
       go_round
       case rel => exact ⟨k + 1, by omega, by omega, by go_num, HC2⟩
       case measure => simp [intOf] <;> omega
     | false =>
       rw [hq] at h2
       have HE := Lib.hid (show R = k by rw [HR.out, span_stop digP HC.out HCL.out hq]; omega)
       clear hq hc
       go_wp2_with (first
         | (go_at_call 98; (with_reducible refine (HK.out _).mono ?_); rintro e w2 ⟨rfl, rfl⟩)
         | fail)
       go_ret
       exact ⟨by rw [HE.out]; rfl, rfl⟩
   · have HE := Lib.hid (show R = k by
       have h := span_all digP (l := s.data.toList.drop p) (fun j d h1 h2 => HC.out j d (by rw [List.length_drop, HSL.out] at h1; omega) h2)
       rw [HR.out, h, List.length_drop, HSL.out]; omega)
     go_wp2_with fail
     go_ret
     exact ⟨by rw [HE.out]; rfl, rfl⟩
end Go.Proofs.YtcgpflkaejbkhaaGreatDoor
namespace Go.Proofs.YtcgpflkaejbkhaaGreatDoor
open Go.RowKit

def OtherP (s : ByteArray) (w : World) (e : Ending) (w' : World) : Prop := ∃ (k er : Int) (S : ByteArray) (n : Nat), e = .returned (nextV k S n er) ∧ Below w.heap.size w w' ∧ (er = 0 → k ≠ 0 ∧ k ≠ 1 ∧ 1 ≤ n ∧ n ≤ s.size)
theorem prefix2 {s : ByteArray} {a b : UInt8} (h : Lib.hasPrefix s.data.toList [a, b] = true) : 2 ≤ s.size := by
 have hsl : s.data.toList.length = s.size := by show _ = s.data.size; simp
 cases hx : s.data.toList with
 | nil => rw [hx] at h; exact absurd h (by simp [Lib.hasPrefix])
 | cons x l =>
   cases l with
   | nil => rw [hx] at h; exact absurd h (by simp [Lib.hasPrefix])
   | cons y l => rw [hx] at hsl; simp at hsl; omega
set_option maxRecDepth 100000 in
set_option maxHeartbeats 8000000 in
theorem next_sign (s : ByteArray) (w : World) (h0 : 0 < s.size) (hl : letP (s[0].toNat : Int) = false) (hd : digP (s[0].toNat : Int) = false) (hq : s[0] ≠ 39) : Calls Tryz.prog 96 #[.string s] w (OtherP s w) := by
 obtain ⟨c, hc⟩ : ∃ c, c = s[0] := ⟨_, rfl⟩
 have hkc : s[0] = c := hc.symm
 rw [hkc] at hl hd hq
 have hc255 : (c.toNat : Int) ≤ 255 := by have := c.toNat_lt; omega
 have hc0 : (0 : Int) ≤ (c.toNat : Int) := by omega
 have hc39 : ((c.toNat : Int) == 39) = false := by
   rw [beq_eq_false_iff_ne]
   intro h
   exact hq (UInt8.toNat_inj.1 (by simp; omega))
 have hne := text_ne h0
 have HLE := Lib.hid (fun W => hl ▸ letter_any (c.toNat : Int) W)
 have HDI := Lib.hid (fun W => hd ▸ digit_any (c.toNat : Int) W)
 obtain ⟨p1, hp1⟩ : ∃ p, p = Lib.hasPrefix s.data.toList [60, 62] := ⟨_, rfl⟩
 obtain ⟨p2, hp2⟩ : ∃ p, p = Lib.hasPrefix s.data.toList [60, 61] := ⟨_, rfl⟩
 obtain ⟨p3, hp3⟩ : ∃ p, p = Lib.hasPrefix s.data.toList [62, 61] := ⟨_, rfl⟩
 have HP1 := Lib.hid (show ∀ W, Calls Tryz.prog 113 #[.string s, .string ⟨#[60, 62]⟩] W (SameV (.bool p1) W) from fun W => (Tryz.strings_HasPrefix s ⟨#[60, 62]⟩ W).mono (fun e w' h => ⟨by rw [hp1]; exact h.1, h.2.symm⟩))
 have HP2 := Lib.hid (show ∀ W, Calls Tryz.prog 113 #[.string s, .string ⟨#[60, 61]⟩] W (SameV (.bool p2) W) from fun W => (Tryz.strings_HasPrefix s ⟨#[60, 61]⟩ W).mono (fun e w' h => ⟨by rw [hp2]; exact h.1, h.2.symm⟩))
 have HP3 := Lib.hid (show ∀ W, Calls Tryz.prog 113 #[.string s, .string ⟨#[62, 61]⟩] W (SameV (.bool p3) W) from fun W => (Tryz.strings_HasPrefix s ⟨#[62, 61]⟩ W).mono (fun e w' h => ⟨by rw [hp3]; exact h.1, h.2.symm⟩))
 have HQ := Lib.hid (show p1 = true ∨ p2 = true ∨ p3 = true → 2 ≤ s.size from fun h => by
   rcases h with h | h | h
   · exact prefix2 (hp1 ▸ h)
   · exact prefix2 (hp2 ▸ h)
   · exact prefix2 (hp3 ▸ h))
 obtain ⟨x, hx⟩ : ∃ x, x = Lib.indexByte [40, 41, 44, 46, 61, 60, 62, 43, 45, 42, 59] c := ⟨_, rfl⟩
 have HIB := Lib.hid (show ∀ W, Calls Tryz.prog 114 #[.string ⟨#[40, 41, 44, 46, 61, 60, 62, 43, 45, 42, 59]⟩, .int .u8 (c.toNat : Int)] W (SameV (.int .i64 x) W) from fun W => (Tryz.strings_IndexByte ⟨#[40, 41, 44, 46, 61, 60, 62, 43, 45, 42, 59]⟩ (c.toNat : Int) W).mono (fun e w' h => ⟨by rw [hx]; have := h.1; simpa using this, h.2.symm⟩))
 have HS0 := Lib.hid h0
 clear hl hd hq hc hp1 hp2 hp3 hx
 go_enter Tryz.func96, Tryz.ntmps96
 go_wp2_with (first
   | (go_at_call 107; (with_reducible refine (HLE.out _).mono ?_); rintro e w5 ⟨rfl, rfl⟩)
   | (go_at_call 109; (with_reducible refine (HDI.out _).mono ?_); rintro e w6 ⟨rfl, rfl⟩)
   | fail)
 go_loopw [59] (fun i wr => ∃ k : Nat, k ≤ 3 ∧ i = .int .i64 k ∧ wr = (w.alloc (.cells #[.int .i64 0, .string ⟨#[]⟩, .int .i64 0] 102)).alloc (.cells #[.string ⟨#[60, 62]⟩, .string ⟨#[60, 61]⟩, .string ⟨#[62, 61]⟩] 9)) (fun i _ => 3 - (intOf i).toNat)
 case atStart => exact ⟨0, by omega, rfl, rfl⟩
 case round =>
   obtain ⟨k, hk, rfl, rfl⟩ := hrel
   have hk2 : k = 0 ∨ k = 1 ∨ k = 2 ∨ k = 3 := by omega
   rcases hk2 with rfl | rfl | rfl | rfl
   · cases p1 with
     | true =>
       go_wp2_with (first
         | (go_at_call 113; (with_reducible refine (HP1.out _).mono ?_); rintro e w5 ⟨rfl, rfl⟩)
         | fail)
       refine bodyPost_ret (v := nextV 6 ⟨#[60, 62]⟩ 2 0) (by simp [results, Tryz.results96, go_sem, nextV, tokV]) rfl ⟨6, 0, ⟨#[60, 62]⟩, 2, rfl, ?_, fun _ => ⟨by decide, by decide, by omega, HQ.out (by simp)⟩⟩
       exact ((Below.refl _ _).alloc (Nat.le_refl _) _).alloc (by simp) _
     | false =>
       go_wp2_with (first
         | (go_at_call 113; (with_reducible refine (HP1.out _).mono ?_); rintro e w5 ⟨rfl, rfl⟩)
         | fail)
       go_roundw
       case rel => exact ⟨1, by omega, rfl, trivial⟩
       case measure => simp [intOf]
   · cases p2 with
     | true =>
       go_wp2_with (first
         | (go_at_call 113; (with_reducible refine (HP2.out _).mono ?_); rintro e w5 ⟨rfl, rfl⟩)
         | fail)
       refine bodyPost_ret (v := nextV 6 ⟨#[60, 61]⟩ 2 0) (by simp [results, Tryz.results96, go_sem, nextV, tokV]) rfl ⟨6, 0, ⟨#[60, 61]⟩, 2, rfl, ?_, fun _ => ⟨by decide, by decide, by omega, HQ.out (by simp)⟩⟩
       exact ((Below.refl _ _).alloc (Nat.le_refl _) _).alloc (by simp) _
     | false =>
       go_wp2_with (first
         | (go_at_call 113; (with_reducible refine (HP2.out _).mono ?_); rintro e w5 ⟨rfl, rfl⟩)
         | fail)
       go_roundw
       case rel => exact ⟨2, by omega, rfl, trivial⟩
       case measure => simp [intOf]
   · cases p3 with
     | true =>
       go_wp2_with (first
         | (go_at_call 113; (with_reducible refine (HP3.out _).mono ?_); rintro e w5 ⟨rfl, rfl⟩)
         | fail)
       refine bodyPost_ret (v := nextV 6 ⟨#[62, 61]⟩ 2 0) (by simp [results, Tryz.results96, go_sem, nextV, tokV]) rfl ⟨6, 0, ⟨#[62, 61]⟩, 2, rfl, ?_, fun _ => ⟨by decide, by decide, by omega, HQ.out (by simp)⟩⟩
       exact ((Below.refl _ _).alloc (Nat.le_refl _) _).alloc (by simp) _
     | false =>
       go_wp2_with (first
         | (go_at_call 113; (with_reducible refine (HP3.out _).mono ?_); rintro e w5 ⟨rfl, rfl⟩)
         | fail)
       go_roundw
       case rel => exact ⟨3, by omega, rfl, trivial⟩
       case measure => simp [intOf]
   · by_cases hx0 : x < 0
     · go_wp2_with (first
         | (go_at_call 114; (with_reducible refine (HIB.out _).mono ?_); rintro e w5 ⟨rfl, rfl⟩)
         | fail)
       refine bodyPost_ret (v := nextV 0 ⟨#[]⟩ 0 100) (by simp [results, Tryz.results96, go_sem, nextV, tokV]) rfl ⟨0, 100, ⟨#[]⟩, 0, rfl, ?_, fun h => absurd h (by decide)⟩
       exact ((Below.refl _ _).alloc (Nat.le_refl _) _).alloc (by simp) _
     · have hsz1 : ((1 : Int) ≤ (s.size : Int)) = True := eq_true (by have := HS0.out; omega)
       go_wp2_with (first
         | (go_at_call 114; (with_reducible refine (HIB.out _).mono ?_); rintro e w5 ⟨rfl, rfl⟩)
         | fail)
       refine bodyPost_ret (v := nextV 6 (s.extract 0 1) 1 0) (by simp [results, Tryz.results96, go_sem, nextV, tokV]) rfl ⟨6, 0, s.extract 0 1, 1, rfl, ?_, fun _ => ⟨by decide, by decide, by omega, HS0.out⟩⟩
       exact ((Below.refl _ _).alloc (Nat.le_refl _) _).alloc (by simp) _
end Go.Proofs.YtcgpflkaejbkhaaGreatDoor
