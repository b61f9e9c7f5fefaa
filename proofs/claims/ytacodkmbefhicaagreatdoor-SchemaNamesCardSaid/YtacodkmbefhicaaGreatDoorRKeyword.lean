/- The walks of the document's Words and Keyword. -/
import Derived.Test.YtacodkmbefhicaaGreatDoorKeyword
namespace Go.Proofs.YtacodkmbefhicaaGreatDoor
open Go.RowKit

def strV (l : List UInt8) : Value := .string ⟨l.toArray⟩
/-- the keywords in a block -/
def KwBlk (W : World) (b : Nat) : Prop := W.heap[b]? = some (.cells (kws.map strV).toArray 9 (0, 0))
def WordsP (w : World) (e : Ending) (w' : World) : Prop := e = .returned (.slice (some ⟨w.heap.size, 0, none⟩) 35 35) ∧ KwBlk w' w.heap.size ∧ Below w.heap.size w w'
theorem KwBlk.keep {W w2 : World} {b : Nat} (h : KwBlk W b) (hB : Below W.heap.size W w2) : KwBlk w2 b := (hB.block b (heap_lt h)).trans h
theorem KwBlk.cell {W : World} {b : Nat} (h : KwBlk W b) {j : Nat} {l : List UInt8} (hj : kws[j]? = some l) : W.cell? ⟨b, j, none⟩ = some (.string ⟨l.toArray⟩) := by
  rw [cell_of_row W b j _ _ _ h, List.getElem?_toArray, List.getElem?_map, hj]; rfl
set_option maxRecDepth 100000 in
set_option maxHeartbeats 1000000 in
theorem words_any (w : World) : Calls Tryz.prog 52 #[] w (WordsP w) := by
  go_enter Tryz.func52, Tryz.ntmps52
  go_wp2_with fail
  go_ret
  exact ⟨rfl, heap_alloc_new w _, below1 w _⟩
theorem snoc_up (s : ByteArray) (k : Nat) (h : k < s.size) : (⟨((s.data.toList.take k).map upB).toArray⟩ : ByteArray) ++ ⟨#[upB s[k]]⟩ = ⟨((s.data.toList.take (k + 1)).map upB).toArray⟩ := by
  have h2 : s.data.toList[k]? = some s[k] := by
    rw [Array.getElem?_toList]
    exact Array.getElem?_eq_getElem h
  rw [List.take_add_one, h2]
  apply ByteArray.ext
  simp [ByteArray.data_append]
theorem up_size (s : ByteArray) (k : Nat) : (⟨((s.data.toList.take k).map upB).toArray⟩ : ByteArray).size ≤ s.size := by
  show ((s.data.toList.take k).map upB).toArray.size ≤ s.data.size
  simp
  omega
theorem one_text (W : World) (z : Int) (c : UInt8) (hz : z = (c.toNat : Int)) : (convert 77 9 (.slice (some ⟨W.heap.size, 0, none⟩) 1 1)).run Tryz.prog (W.alloc (.cells #[.int .u8 z] 5)) = .ok (.string ⟨#[c]⟩) (W.alloc (.cells #[.int .u8 z] 5)) := by
  subst hz
  exact run_convert_bytes_back (W.alloc (.cells #[.int .u8 (c.toNat : Int)] 5)) 77 9 5 ⟨W.heap.size, 0, none⟩ 1 [c] Tryz.underlying77 Tryz.underlying5 Tryz.underlying9 (fun j hj => by
    obtain rfl : j = 0 := by simp at hj; omega
    rw [Addr.add_lit, Nat.zero_add]
    exact cell_of_row _ _ 0 _ _ _ (heap_alloc_new W _))
set_option maxRecDepth 100000 in
set_option maxHeartbeats 4000000 in
theorem rkeyword_any (s : ByteArray) (w : World) (hs : s.size ≤ 200) : Calls Tryz.prog 38 #[.string s] w (RetV (.string ⟨(kwR s.data.toList).toArray⟩) w) := by
  obtain ⟨R, hR⟩ : ∃ R : ByteArray, R = ⟨(kwR s.data.toList).toArray⟩ := ⟨_, rfl⟩
  rw [← hR]
  have HR := Lib.hid hR
  clear hR
  go_enter Tryz.func38, Tryz.ntmps38
  go_wp2_with fail
  go_loopw [3, 4] (fun up i wr => ∃ k : Nat, k ≤ s.size ∧ i = .int .i64 k ∧ up = .string ⟨((s.data.toList.take k).map upB).toArray⟩ ∧ Below w.heap.size w wr) (fun _ i _ => s.size - (intOf i).toNat)
  case atStart => exact ⟨0, Nat.zero_le _, rfl, rfl, Below.refl _ _⟩
  case round =>
    obtain ⟨k, hk, rfl, rfl, hB⟩ := hrel
    obtain ⟨wo, rfl⟩ : ∃ wo : World, wo = wr := ⟨_, rfl⟩
    have HB := Lib.hid hB
    clear hB
    by_cases hlt : k < s.size
    · have HSN := Lib.hid (snoc_up s k hlt)
      have HUS := up_size s k
      obtain ⟨U, hU⟩ : ∃ U : ByteArray, U = ⟨((s.data.toList.take k).map upB).toArray⟩ := ⟨_, rfl⟩
      rw [← hU] at HSN HUS ⊢
      obtain ⟨c, hc⟩ : ∃ c, c = s[k] := ⟨_, rfl⟩
      have HC := Lib.hid hc
      rw [← hc] at HSN
      obtain ⟨V, hV⟩ : ∃ V : ByteArray, V = U ++ ⟨#[upB c]⟩ := ⟨_, rfl⟩
      have HV := Lib.hid (show V = ⟨((s.data.toList.take (k + 1)).map upB).toArray⟩ by rw [hV]; exact HSN.out)
      have hone : (⟨#[upB c]⟩ : ByteArray).size = 1 := rfl
      have hadd : ∀ W, (Op.stringOp .add U ⟨#[upB c]⟩).run Tryz.prog W = .ok (.string V) W := fun W => by rw [hV]; exact add_text W _ _ (by rw [hone]; omega)
      have hc255 : (c.toNat : Int) ≤ 255 := by have := c.toNat_lt; omega
      have hc0 : (0 : Int) ≤ (c.toNat : Int) := by omega
      have hkc : s[k] = c := hc.symm
      clear hU hV hone hc
      by_cases hlow : 97 ≤ c.toNat ∧ c.toNat ≤ 122
      · obtain ⟨hl1, hl2⟩ := hlow
        have hl1' : (97 : Int) ≤ (c.toNat : Int) := by omega
        have hl2' : (c.toNat : Int) ≤ 122 := by omega
        have hcv := one_text wo ((c.toNat : Int) - 97 + 65) (upB c) (by have := (upB_low hl1 hl2).1; omega)
        go_wp2_with fail
        go_roundw
        case rel => exact ⟨k + 1, by omega, by go_num, by rw [HV.out], HB.out.trans ((below1 wo _).mono HB.out.size)⟩
        case measure => simp [intOf] <;> omega
      · have hcv := one_text wo (c.toNat : Int) (upB c) (by rw [upB_other hlow])
        by_cases h97 : 97 ≤ c.toNat
        · have h122 : ¬ (c.toNat : Int) ≤ 122 := by omega
          have h97' : (97 : Int) ≤ (c.toNat : Int) := by omega
          clear hlow h97
          go_wp2_with fail
          go_roundw
          case rel => exact ⟨k + 1, by omega, by go_num, by rw [HV.out], HB.out.trans ((below1 wo _).mono HB.out.size)⟩
          case measure => simp [intOf] <;> omega
        · have h97' : ¬ (97 : Int) ≤ (c.toNat : Int) := by omega
          clear hlow h97
          go_wp2_with fail
          go_roundw
          case rel => exact ⟨k + 1, by omega, by go_num, by rw [HV.out], HB.out.trans ((below1 wo _).mono HB.out.size)⟩
          case measure => simp [intOf] <;> omega
    · have hall : s.data.toList.take k = s.data.toList := List.take_of_length_le (by
        have : s.data.toList.length = s.size := by show _ = s.data.size; simp
        omega)
      rw [hall]
      obtain ⟨u, hu⟩ : ∃ u, u = s.data.toList.map upB := ⟨_, rfl⟩
      rw [← hu]
      have HK := Lib.hid (show kwR s.data.toList = if u ∈ kws then u else [] by unfold kwR; rw [hu])
      obtain ⟨U, hU⟩ : ∃ U : ByteArray, U = ⟨u.toArray⟩ := ⟨_, rfl⟩
      rw [← hU]
      have HU := Lib.hid hU
      clear hall hu hU
      go_wp2_with (first
        | (go_at_call 52; (with_reducible refine (words_any _).mono ?_); rintro e w2 ⟨rfl, hkb, hB2⟩; have HKB := Lib.hid hkb; have HB2 := Lib.hid (HB.out.trans (hB2.mono HB.out.size)); have hlk := heap_lt hkb; clear hkb hB2)
        | fail)
      go_loop [7] (fun i => ∃ k : Nat, k ≤ 35 ∧ i = .int .i64 k ∧ Hid (∀ j l, j < k → kws[j]? = some l → l ≠ u)) (fun i => 35 - (intOf i).toNat)
      case atStart => exact ⟨0, Nat.zero_le _, rfl, Lib.hid (fun j l h => absurd h (Nat.not_lt_zero _))⟩
      case round =>
        obtain ⟨j, hj, rfl, HN⟩ := hrel
        by_cases hj35 : j < 35
        · obtain ⟨l, hl⟩ : ∃ l, kws[j]? = some l := ⟨_, List.getElem?_eq_getElem (show j < kws.length from hj35)⟩
          have hcell := HKB.out.cell hl
          obtain ⟨T, hT⟩ : ∃ T : ByteArray, T = ⟨l.toArray⟩ := ⟨_, rfl⟩
          rw [← hT] at hcell
          have hj35i : (j : Int) < 35 := by omega
          by_cases he : l = u
          · have HE := Lib.hid (show R = U by rw [HR.out, HK.out, if_pos (by rw [← he]; exact List.mem_of_getElem? hl), HU.out])
            have heq : (T.toList == U.toList) = true := by rw [hT, HU.out, he]; simp
            clear he hl hT
            go_wp2_with fail
            go_ret
            exact ⟨by rw [HE.out]; rfl, HB2.out⟩
          · have heq : (T.toList == U.toList) = false := by
              rw [hT, HU.out, ByteArray.toList_eq, ByteArray.toList_eq]
              simpa using he
            have HN2 := Lib.hid (show ∀ j' l', j' < j + 1 → kws[j']? = some l' → l' ≠ u from fun j' l' h1 h2 => by
              by_cases e : j' = j
              · subst e
                rw [hl] at h2; cases h2
                exact he
              · exact HN.out j' l' (by omega) h2)
            clear he hl hT
            go_wp2_with fail
            go_round
            case rel => exact ⟨j + 1, by omega, by go_num, HN2⟩
            case measure => simp [intOf] <;> omega
        · have HE := Lib.hid (show R = ⟨#[]⟩ by
            rw [HR.out, HK.out, if_neg]
            intro hm
            obtain ⟨i, hi, he⟩ := List.mem_iff_getElem.1 hm
            have hi35 : i < 35 := hi
            exact HN.out i u (by omega) (by rw [List.getElem?_eq_getElem hi, he]) rfl)
          go_wp2_with fail
          go_ret
          exact ⟨by rw [HE.out]; rfl, HB2.out⟩
end Go.Proofs.YtacodkmbefhicaaGreatDoor
