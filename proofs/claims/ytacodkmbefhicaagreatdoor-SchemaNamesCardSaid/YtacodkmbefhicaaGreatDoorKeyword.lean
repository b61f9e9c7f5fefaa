/- The walk of Keyword. -/
import Derived.Test.YtacodkmbefhicaaGreatDoorBase
namespace Go.Proofs.YtacodkmbefhicaaGreatDoor
open Go.RowKit

def kwV (l : List UInt8) : Value := .tuple #[.string ⟨(kwR l).toArray⟩, .bool (decide (kwR l ≠ []))]
theorem upB_low {c : UInt8} (h1 : 97 ≤ c.toNat) (h2 : c.toNat ≤ 122) : ((upB c).toNat : Int) = (c.toNat : Int) - 32 ∧ isCap (upB c) = true := by
  have e : (97 ≤ c && c ≤ 122) = true := by simp [UInt8.le_iff_toNat_le]; omega
  unfold upB isCap
  rw [if_pos e]
  have h32 : (32 : UInt8) ≤ c := by simp [UInt8.le_iff_toNat_le]; omega
  have hs : (c - 32).toNat = c.toNat - 32 := UInt8.toNat_sub_of_le _ _ h32
  refine ⟨by rw [hs]; omega, ?_⟩
  simp only [UInt8.le_iff_toNat_le, hs, Bool.and_eq_true, decide_eq_true_eq]
  constructor <;> (simp; omega)
theorem upB_other {c : UInt8} (h : ¬ (97 ≤ c.toNat ∧ c.toNat ≤ 122)) : upB c = c := by
  unfold upB
  rw [if_neg]
  simp only [Bool.and_eq_true, decide_eq_true_eq, UInt8.le_iff_toNat_le]
  exact h
theorem cap_of {c : UInt8} (h : isCap c = true) : 65 ≤ c.toNat ∧ c.toNat ≤ 90 := by
  unfold isCap at h
  simpa [UInt8.le_iff_toNat_le] using h
theorem cap_mk {c : UInt8} (h1 : 65 ≤ c.toNat) (h2 : c.toNat ≤ 90) : isCap c = true := by
  unfold isCap
  simp [UInt8.le_iff_toNat_le]; exact ⟨h1, h2⟩
/-- a word with another sign in it is none -/
theorem kw_none {l : List UInt8} {k : Nat} {c : UInt8} (hc : l[k]? = some c) (h1 : ¬ (97 ≤ c.toNat ∧ c.toNat ≤ 122)) (h2 : ¬ (65 ≤ c.toNat ∧ c.toNat ≤ 90)) : kwR l = [] := by
  unfold kwR
  rw [if_neg]
  intro hm
  have hx := (kws_caps _ hm).2 (upB c) (List.mem_map_of_mem (List.mem_of_getElem? hc))
  rw [upB_other h1] at hx
  exact h2 (cap_of hx)
theorem kw_nil : kwR [] = [] := by decide
theorem set_up (l : List UInt8) (k : Nat) (c : UInt8) (hc : l[k]? = some c) : ((l.take k).map upB ++ l.drop k).set k (upB c) = (l.take (k + 1)).map upB ++ l.drop (k + 1) := by
  have hk := (List.getElem?_eq_some_iff.1 hc).1
  have hd : l.drop k = c :: l.drop (k + 1) := by rw [List.drop_eq_getElem_cons hk]; congr 1; exact (List.getElem?_eq_some_iff.1 hc).2
  rw [hd, List.set_append_right _ _ (by simp; omega), List.take_add_one, hc]
  simp [show k - min k l.length = 0 by omega]
set_option maxRecDepth 100000 in
set_option maxHeartbeats 4000000 in
theorem keyword_any (s : ByteArray) (m : Int) (w : World) (hs : s.size ≤ 200) (hm : w.cell? ⟨0, 0, none⟩ = some (.int .i64 m)) :
    Calls Tryz.prog 33 #[.string s] w (RetV (kwV s.data.toList) w) := by
  obtain ⟨l, hl⟩ : ∃ l, l = s.data.toList := ⟨_, rfl⟩
  obtain ⟨n, hn⟩ : ∃ n, n = s.size := ⟨_, rfl⟩
  have hnl : l.length = n := by rw [hl, hn]; show s.data.toList.length = s.data.size; simp
  have HNL := Lib.hid hnl
  rw [← hl]
  obtain ⟨cap, hcap⟩ : ∃ cap, cap = grownCap w s.size 0 5 := ⟨_, rfl⟩
  have HCV := Lib.hid (conv_bytes w s)
  have HNEW := Lib.hid (bytes_new w s cap)
  rw [← hcap, ← hn] at HCV
  rw [← hl] at HNEW
  obtain ⟨w1, hw1⟩ : ∃ w1, w1 = w.drew.alloc (.cells (bytesRow s cap) 5 ((bytesRow s cap).size, (bytesRow s cap).size + 1)) := ⟨_, rfl⟩
  rw [← hw1] at HCV HNEW
  have HB1 := Lib.hid (show Below w.heap.size w w1 by rw [hw1]; exact ((Below.refl _ w).drew).alloc (Nat.le_refl _) _)
  have hcv := HCV.out
  have hn2 : n ≤ 200 := by omega
  have HM := Lib.hid hm
  obtain ⟨kv, hkv⟩ : ∃ kv, kv = kwV l := ⟨_, rfl⟩
  have HKV := Lib.hid hkv
  rw [← hkv]
  clear hl hn hnl hcap hw1 hs hm hkv
  go_enter Tryz.func33, Tryz.ntmps33
  go_wp2_with fail
  go_loopw [11] (fun i wr => ∃ k : Nat, k ≤ n ∧ i = .int .i64 k ∧ Below w.heap.size w wr ∧ BytesAt wr w.heap.size ((l.take k).map upB ++ l.drop k) ∧ Hid (∀ c ∈ (l.take k).map upB, isCap c = true)) (fun i _ => n - (intOf i).toNat)
  case atStart => exact ⟨0, Nat.zero_le _, rfl, HB1.out, by simpa using HNEW.out, Lib.hid (fun c h => by simp at h)⟩
  case round =>
    obtain ⟨k, hk, rfl, hB, hby, HC⟩ := hrel
    obtain ⟨wo, rfl⟩ : ∃ wo : World, wo = wr := ⟨_, rfl⟩
    have HB := Lib.hid hB
    have HBY := Lib.hid hby
    have hlt0 := hby.lt
    have HLEN := Lib.hid (show ((l.take k).map upB ++ l.drop k).length = n by simp; have := HNL.out; omega)
    clear hB hby
    by_cases hlt : k < n
    · obtain ⟨c, hc⟩ : ∃ c, l[k]? = some c := ⟨_, List.getElem?_eq_getElem (by have := HNL.out; omega)⟩
      have hcell := HBY.out.cell (j := k) (c := c) (by rw [List.getElem?_append_right (by simp; omega)]; simp; have := HNL.out; rw [show min k l.length = k by omega]; simp [hc])
      have hfree := HBY.out.free (j := k) (by rw [HLEN.out]; exact hlt)
      have HCC := Lib.hid hc
      have HSU := Lib.hid (set_up l k c hc)
      have hc255 : (c.toNat : Int) ≤ 255 := by have := c.toNat_lt; omega
      have hc0 : (0 : Int) ≤ (c.toNat : Int) := by omega
      clear hc
      by_cases hlow : 97 ≤ c.toNat ∧ c.toNat ≤ 122
      · obtain ⟨hl1, hl2⟩ := hlow
        have HU := Lib.hid (upB_low hl1 hl2)
        have HSET := Lib.hid (HBY.out.set (j := k) (by rw [HLEN.out]; exact hlt) (upB c) ((c.toNat : Int) - 32) HU.out.1.symm)
        have HC2 := Lib.hid (show ∀ x ∈ (l.take (k + 1)).map upB, isCap x = true from fun x hx => by
          rw [List.take_add_one, HCC.out] at hx
          simp only [Option.toList_some, List.map_append, List.map_cons, List.map_nil, List.mem_append, List.mem_singleton] at hx
          rcases hx with hx | hx
          · exact HC.out x hx
          · rw [hx]; exact HU.out.2)
        go_wp2_with fail
        go_roundw
        case rel => exact ⟨k + 1, by omega, by go_num, HB.out.setCell (p := ⟨w.heap.size, k, none⟩) (Nat.le_refl _) _, by rw [← HSU.out]; exact HSET.out, HC2⟩
        case measure => simp [intOf] <;> omega
      · by_cases hcp : 65 ≤ c.toNat ∧ c.toNat ≤ 90
        · obtain ⟨hp1, hp2⟩ := hcp
          have hn97 : ¬ (97 : Int) ≤ (c.toNat : Int) := by omega
          have HC2 := Lib.hid (show ∀ x ∈ (l.take (k + 1)).map upB, isCap x = true from fun x hx => by
            rw [List.take_add_one, HCC.out] at hx
            simp only [Option.toList_some, List.map_append, List.map_cons, List.map_nil, List.mem_append, List.mem_singleton] at hx
            rcases hx with hx | hx
            · exact HC.out x hx
            · rw [hx, upB_other (by omega)]; exact cap_mk hp1 hp2)
          have HBY2 := Lib.hid (show BytesAt wo w.heap.size ((l.take (k + 1)).map upB ++ l.drop (k + 1)) by
            have h := HBY.out
            have e : ((l.take k).map upB ++ l.drop k).set k (upB c) = (l.take k).map upB ++ l.drop k := by
              rw [upB_other (by omega)]
              apply List.ext_getElem?
              intro j
              rw [List.getElem?_set]
              split
              · rename_i hj
                subst hj
                rw [List.getElem?_append_right (by simp; omega)]
                have := HNL.out
                simp [show min k l.length = k by omega, HCC.out]
                omega
              · rfl
            rw [← HSU.out, e]
            exact h)
          clear hlow
          go_wp2_with fail
          go_roundw
          case rel => exact ⟨k + 1, by omega, by go_num, HB.out, HBY2.out, HC2⟩
          case measure => simp [intOf] <;> omega
        · have HNO := Lib.hid (show kv = .tuple #[.string ⟨#[]⟩, .bool false] by rw [HKV.out]; unfold kwV; rw [kw_none HCC.out hlow hcp]; rfl)
          by_cases h122 : c.toNat ≤ 122
          · by_cases h97 : 97 ≤ c.toNat
            · exact absurd ⟨h97, h122⟩ hlow
            · have hn97 : ¬ (97 : Int) ≤ (c.toNat : Int) := by omega
              by_cases h65 : 65 ≤ c.toNat
              · have h90 : (90 : Int) < (c.toNat : Int) := by omega
                clear hlow hcp h122 h97
                go_wp2_with fail
                go_ret2
                exact ⟨by rw [HNO.out]; rfl, HB.out⟩
              · have h65' : (c.toNat : Int) < 65 := by omega
                clear hlow hcp h122 h97 h65
                go_wp2_with fail
                go_ret2
                exact ⟨by rw [HNO.out]; rfl, HB.out⟩
          · have h122' : (122 : Int) < (c.toNat : Int) := by omega
            clear hlow hcp h122
            go_wp2_with fail
            go_ret2
            exact ⟨by rw [HNO.out]; rfl, HB.out⟩
    · have hkn : k = n := by omega
      subst hkn
      have HBF := Lib.hid (show BytesAt wo w.heap.size (l.map upB) by
        have h := HBY.out
        rw [List.take_of_length_le (by have := HNL.out; omega), List.drop_eq_nil_of_le (by have := HNL.out; omega), List.append_nil] at h
        exact h)
      have HCA := Lib.hid (show ∀ c ∈ l.map upB, isCap c = true from fun c h => HC.out c (by rw [List.take_of_length_le (by have := HNL.out; omega)]; exact h))
      clear hlt
      by_cases h0 : k = 0
      · have hnil : l = [] := List.eq_nil_of_length_eq_zero (by have := HNL.out; omega)
        have HNO := Lib.hid (show kv = .tuple #[.string ⟨#[]⟩, .bool false] by rw [HKV.out, hnil]; unfold kwV; rw [kw_nil]; rfl)
        subst h0
        clear hnil
        go_wp2_with fail
        go_ret2
        exact ⟨by rw [HNO.out]; rfl, HB.out⟩
      · have h0b : ((k : Int) == 0) = false := by simpa using h0
        have hne : l.map upB ≠ [] := by
          intro h
          have h5 := congrArg List.length h
          rw [List.length_map, HNL.out] at h5
          exact h0 h5
        obtain ⟨U, hU⟩ : ∃ U : ByteArray, U = ⟨(l.map upB).toArray⟩ := ⟨_, rfl⟩
        have hUs : U.size ≤ 200 := by rw [hU]; show (l.map upB).toArray.size ≤ 200; simp; have := HNL.out; omega
        have hcv3 : (convert 77 9 (.slice (some ⟨w.heap.size, 0, none⟩) k cap)).run Tryz.prog wo = .ok (.string U) wo := by rw [hU]; exact HBF.out.text k cap (by simp; have := HNL.out; omega)
        obtain ⟨X, hX⟩ : ∃ X : ByteArray, X = ⟨#[32]⟩ ++ U := ⟨_, rfl⟩
        obtain ⟨Y, hY⟩ : ∃ Y : ByteArray, Y = X ++ ⟨#[32]⟩ := ⟨_, rfl⟩
        have h1s : (⟨#[32]⟩ : ByteArray).size = 1 := rfl
        have hXs : X.size ≤ 201 := by rw [hX, ByteArray.size_append, h1s]; omega
        have hadd1 : (Op.stringOp .add ⟨#[32]⟩ U).run Tryz.prog wo = .ok (.string X) wo := by rw [hX]; exact add_text wo _ _ (by rw [h1s]; omega)
        have hadd2 : (Op.stringOp .add X ⟨#[32]⟩).run Tryz.prog wo = .ok (.string Y) wo := by rw [hY]; exact add_text wo _ _ (by rw [h1s]; omega)
        have HYL := Lib.hid (show Y.data.toList = 32 :: l.map upB ++ [32] by rw [hY, hX, hU]; simp [ByteArray.data_append])
        have HCON := Lib.hid (fun (S : ByteArray) (hS : S.data.toList = kwText) => show Calls Tryz.prog 45 #[.string S, .string Y] wo (fun e w' => e = .returned (.bool (decide (l.map upB ∈ kws))) ∧ wo = w') from
          (Tryz.strings_Contains S Y m wo (by show S.data.size < _; rw [← Array.length_toList, hS]; decide) (cell_kept HM.out HB.out)).mono fun e w' ⟨h1, h2⟩ => ⟨by
            rw [h1, hS, HYL.out]
            exact ret_bool (kw_text hne HCA.out), h2.symm⟩)
        have HUU := Lib.hid hU
        clear hU hX hY hUs hXs h1s hne
        by_cases hk9 : l.map upB ∈ kws
        · have HKV2 := Lib.hid (show kv = .tuple #[.string U, .bool true] by
            have e : kwR l = l.map upB := by unfold kwR; rw [if_pos hk9]
            have e2 := (kws_caps _ hk9).1
            rw [HKV.out]; unfold kwV; rw [e, HUU.out, decide_eq_true e2])
          have HCO2 := Lib.hid (show decide (l.map upB ∈ kws) = true from decide_eq_true hk9)
          rw [HCO2.out] at HCON
          clear hk9
          go_wp2_with (first
            | (go_at_call 45; (with_reducible refine (HCON.out _ ?_).mono ?_); (kernel_rfl); rintro e w2 ⟨rfl, rfl⟩)
            | fail)
          go_ret2
          exact ⟨by rw [HKV2.out]; rfl, HB.out⟩
        · have HKV2 := Lib.hid (show kv = .tuple #[.string ⟨#[]⟩, .bool false] by
            have e : kwR l = [] := by unfold kwR; rw [if_neg hk9]
            rw [HKV.out]; unfold kwV; rw [e]; rfl)
          have HCO2 := Lib.hid (show decide (l.map upB ∈ kws) = false from decide_eq_false hk9)
          rw [HCO2.out] at HCON
          clear hk9
          go_wp2_with (first
            | (go_at_call 45; (with_reducible refine (HCON.out _ ?_).mono ?_); (kernel_rfl); rintro e w2 ⟨rfl, rfl⟩)
            | fail)
          go_ret2
          exact ⟨by rw [HKV2.out]; rfl, HB.out⟩
end Go.Proofs.YtacodkmbefhicaaGreatDoor
