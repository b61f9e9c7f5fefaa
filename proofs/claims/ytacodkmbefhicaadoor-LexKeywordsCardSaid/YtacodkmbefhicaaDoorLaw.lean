/- The walk of LexKeywords. -/
import Derived.Test.YtacodkmbefhicaaDoorLives
namespace Go.Proofs.YtacodkmbefhicaaDoor
open Go.RowKit

theorem info9 : (Tryd.prog.info? 9).map (fun i => (i.zero, i.size, i.bytes)) = some (some (.string ⟨#[]⟩), 1, 16) := by kernel_rfl
theorem kws_own {w : World} {b base : Nat} (h : KwBlk w b) (hb : base ≤ b) : w.ownsRow base 9 1 (.slice (some ⟨b, 0, none⟩) 35 35) 35 (kws.map strV) :=
  ⟨by decide, .inr ⟨b, 35, _, rfl, hb, h, Nat.le_refl _, by unfold maxLen; omega, by decide, by rw [List.take_of_length_le (by decide)]⟩⟩
theorem list_str (w : World) {ops : Array Oper} {rest : List Oper} {o : Oper} {a : Act} {Q : Exit → Act → World → Prop} (hgd : o.guard = none) (s x : Operand)
    (ho : o.op = .call { callee := .builtin .append, args := #[s, x], argTypes := #[24, 24] }) (base : Nat) (v : Value) (n : Nat) (xs : List Value) (hv : a.eval s = v) (hown : w.ownsRow base 9 1 v n xs)
    (ad : Addr) (c : Nat) (t : ByteArray) (hx : a.eval x = .slice (some ad) 1 c) (q0 : w.cell? (ad.add 0) = some (.string t)) (hl : n ≤ 2000) (hbase : base ≤ w.heap.size)
    (h : ∀ v' w', w'.ownsRow base 9 1 v' (n + 1) (xs ++ [.string t]) → w.grownBy w' v.ownBlock → wpList Tryd.prog ops Q rest (a.put o.dst v') w') : wpList Tryd.prog ops Q (o :: rest) a w := by
  refine wpList_plain hgd fun K hK => ?_
  obtain ⟨i0, hi0, hz0, hz1, hz2⟩ := info_parts info9
  obtain ⟨v', w', hrun, g2, g3, _, g5⟩ := run_append_own_at (P := Tryd.prog) w base 24 o.type 9 i0 (.string ⟨#[]⟩) 1 16 Tryd.underlying24 hi0 hz0 hz1 hz2 rfl (by omega) v n xs hown ad 1 c [.string t] rfl
    (fun j u hj => by
      match j, hj with
      | 0, hj => cases hj; exact q0
      | j + 1, hj => simp at hj)
    (fun u hu => by
      obtain rfl := List.mem_singleton.1 hu
      rfl)
    (by unfold maxLen; omega) (by omega) hbase
  unfold Oper.wp
  simp only [execOp, ho, resolve, invoke, builtin, Sem.run_bind, Sem.run_pure, Result.andThen_ok, List.map_toArray, List.map_cons, List.map_nil, hv, hx, hrun]
  exact hK _ _ (h v' w' g2 g3)
theorem str_cells {w : World} {base n : Nat} {v : Value} {xs : List Value} (h : w.ownsRow base 9 1 v n xs) (hn : 0 < n) : ∃ g cap, v = .slice (some ⟨g, 0, none⟩) n cap ∧ base ≤ g ∧ g < w.heap.size ∧ ∀ j u, xs[j]? = some u → w.cell? ⟨g, j, none⟩ = some u := by
  rcases h.2 with ⟨_, h0⟩ | ⟨g, cap, cur, rfl, hb, hh, _, _, _, ht⟩
  · omega
  · refine ⟨g, cap, rfl, hb, heap_lt hh, fun j u hj => ?_⟩
    rw [cell_of_row w g j _ _ _ hh]
    rw [← ht] at hj
    have := (List.getElem?_eq_some_iff.1 hj).1
    rw [List.getElem?_take_of_lt (by simp at this; omega)] at hj
    simpa using hj
theorem words_all : ∀ l ∈ kws, l.length ≤ 100 := by decide
theorem strs_get (s : ByteArray) (hs : s.size ≤ 100) (j : Nat) (hj : j < 36) : ∃ S : ByteArray, (kws.map strV ++ [.string s])[j]? = some (.string S) ∧ S.size ≤ 100 := by
  by_cases h : j < 35
  · have hl : j < kws.length := h
    refine ⟨⟨kws[j].toArray⟩, ?_, ?_⟩
    · rw [List.getElem?_append_left (by simpa using hl), List.getElem?_map, List.getElem?_eq_getElem hl]; rfl
    · exact words_all _ (List.getElem_mem hl)
  · obtain rfl : j = 35 := by omega
    exact ⟨s, rfl, hs⟩
set_option maxRecDepth 100000 in
set_option maxHeartbeats 8000000 in
theorem law_any (s : ByteArray) (t m : Int) (w : World) (hm : w.cell? ⟨0, 0, none⟩ = some (.int .i64 m)) : Calls Tryd.prog 3 #[.string s, .int .u64 t] w (RetT w) := by
  have HM := Lib.hid hm
  have HLV := Lib.hid (fun W h => lives_any m W h)
  clear hm
  by_cases hs : s.size ≤ 100
  · have hs' : (s.size : Int) ≤ 100 := by omega
    have HS := Lib.hid hs
    clear hs
    go_enter Tryd.func3, Tryd.ntmps3
    go_wp2_with (first
      | (go_at_call 4; (with_reducible refine (HLV.out _ HM.out).mono ?_); rintro e w2 ⟨rfl, hB2⟩; have HB2 := Lib.hid hB2; clear hB2)
      | (go_at_call 5; (with_reducible refine (words_any _).mono ?_); rintro e w3 ⟨rfl, hkb, hB3⟩; have HKB := Lib.hid hkb; have HB3 := Lib.hid (HB2.out.trans (hB3.mono HB2.out.size)); clear hkb hB3)
      | (at_builtin
         go_loud (refine list_str _ (by rfl) (.tmp 22) (.tmp 24) (by rfl) w.heap.size (.slice (some ⟨w2.heap.size, 0, none⟩) 35 35) 35 (kws.map strV) (by rfl) (own_kept (kws_own HKB.out HB2.out.size) (below1 w3 _) (Nat.le_refl _)) ⟨w3.heap.size, 0, none⟩ 1 s (by rfl) (cell_of_row _ _ 0 _ _ _ (heap_alloc_new w3 _)) (by omega) (by have := HB3.out.size; simp; omega) ?_)
         intro v4 w4 hown4 hg4
         obtain ⟨g, cap, rfl, hg1, hg2, hgc⟩ := str_cells hown4 (by decide)
         have HB4 := Lib.hid ((HB3.out.alloc HB3.out.size _).grown hg4 (by have := HB3.out.size; simp; omega) (fun k hk => by cases hk; exact HB2.out.size))
         have HGC := Lib.hid hgc
         clear hown4 hg4 hgc)
      | fail)
    have HGS := Lib.hid (fun j hj => strs_get s HS.out j hj)
    go_loopw [27] (fun i wr => ∃ k : Nat, k ≤ 36 ∧ i = .int .i64 k ∧ Below w4.heap.size w4 wr) (fun i _ => 36 - (intOf i).toNat)
    case atStart => exact ⟨0, Nat.zero_le _, rfl, Below.refl _ _⟩
    case round =>
      obtain ⟨k, hk, rfl, hB⟩ := hrel
      obtain ⟨wo, rfl⟩ : ∃ wo : World, wo = wr := ⟨_, rfl⟩
      have HB := Lib.hid hB
      clear hB
      by_cases hlt : k < 36
      · obtain ⟨S, hS, hS100⟩ := HGS.out k hlt
        have hcell := cell_kept (HGC.out k _ hS) HB.out
        obtain ⟨l, hl⟩ : ∃ l, l = S.data.toList := ⟨_, rfl⟩
        obtain ⟨n, hn⟩ : ∃ n, n = S.size := ⟨_, rfl⟩
        have hnl : l.length = n := by rw [hl, hn]; show S.data.toList.length = S.data.size; simp
        have HNL := Lib.hid hnl
        obtain ⟨c0, hcap⟩ : ∃ cap, cap = grownCap wo S.size 0 5 := ⟨_, rfl⟩
        have hcv := conv_bytes wo S
        have HNEW := Lib.hid (bytes_new wo S c0)
        rw [← hcap, ← hn] at hcv
        rw [← hl] at HNEW
        obtain ⟨w5, hw5⟩ : ∃ w5, w5 = wo.drew.alloc (.cells (bytesRow S c0) 5 ((bytesRow S c0).size, (bytesRow S c0).size + 1)) := ⟨_, rfl⟩
        rw [← hw5] at hcv HNEW
        have HB5 := Lib.hid (show Below wo.heap.size wo w5 by rw [hw5]; exact ((Below.refl _ wo).drew).alloc (Nat.le_refl _) _)
        have hn2 : n ≤ 100 := by omega
        have hlt' : ((k : Int) < 36) = True := eq_true (by omega)
        clear hS hS100 hl hn hnl hcap hw5
        go_wp2_with fail
        go_loopw [35] (fun i wr => ∃ (j : Nat) (l : List UInt8), j ≤ n ∧ l.length = n ∧ i = .int .i64 j ∧ Below wo.heap.size wo wr ∧ BytesAt wr wo.heap.size l) (fun i _ => n - (intOf i).toNat)
        case atStart => exact ⟨0, l, Nat.zero_le _, HNL.out, rfl, HB5.out, HNEW.out⟩
        case round =>
          clear hcell hcv
          obtain ⟨j, q, hj, hq, rfl, hB, hby⟩ := hrel
          obtain ⟨wi, rfl⟩ : ∃ wi : World, wi = wr := ⟨_, rfl⟩
          have HBI := Lib.hid hB
          have HBY := Lib.hid hby
          have hlti := hby.lt
          have HQ := Lib.hid hq
          clear hB hby hq
          by_cases hjn : j < n
          · obtain ⟨c, hc⟩ : ∃ c, q[j]? = some c := ⟨_, List.getElem?_eq_getElem (by have := HQ.out; omega)⟩
            have hcell := HBY.out.cell (j := j) (c := c) hc
            have hfree := HBY.out.free (j := j) (by rw [HQ.out]; exact hjn)
            have hc255 : (c.toNat : Int) ≤ 255 := by have := c.toNat_lt; omega
            have hc0 : (0 : Int) ≤ (c.toNat : Int) := by omega
            have HSET := Lib.hid (fun (h1 : 65 ≤ (c.toNat : Int)) (h2 : (c.toNat : Int) ≤ 90) => HBY.out.set (j := j) (by rw [HQ.out]; exact hjn) (c + 32) ((c.toNat : Int) + 32) (by rw [UInt8.toNat_add]; simp; omega))
            have HST := Lib.hid (fun v => HBI.out.setCell (p := ⟨wo.heap.size, j, none⟩) (Nat.le_refl _) v)
            have HLE := Lib.hid (show (q.set j (c + 32)).length = n by rw [List.length_set]; exact HQ.out)
            clear hc
            go_wp2_with fail
            · rename_i g1 g2 g3
              go_roundw
              case rel => exact ⟨j + 1, q.set j (c + 32), by omega, HLE.out, by go_num, HST.out _, HSET.out g2 g3⟩
              case measure => simp [intOf] <;> omega
            all_goals
              go_roundw
              case rel => exact ⟨j + 1, q, by omega, HQ.out, by go_num, HBI.out, HBY.out⟩
              case measure => simp [intOf] <;> omega
          · have HWI := Lib.hid ((HB4.out.trans (HB.out.mono HB4.out.size)).trans (HBI.out.mono (HB4.out.trans (HB.out.mono HB4.out.size)).size))
            have hcv := HBY.out.text n c0 HQ.out.symm
            have HCV := Lib.hid (fun W (h : Below wi.heap.size wi W) => (HBY.out.keep h).text n c0 HQ.out.symm)
            obtain ⟨T, hT⟩ : ∃ T : ByteArray, T = ⟨q.toArray⟩ := ⟨_, rfl⟩
            have HTL := Lib.hid (show T.data.toList = q by rw [hT])
            have HTS := Lib.hid (show T.size ≤ 200 by have := HQ.out; rw [hT]; show q.toArray.size ≤ 200; simp; omega)
            rw [← hT] at hcv HCV
            have HKW := Lib.hid (fun (W : World) (hB : Below w.heap.size w W) => keyword_any T m W HTS.out (cell_kept HM.out hB))
            have HRK := Lib.hid (fun (W : World) => rkeyword_any T W HTS.out)
            rw [HTL.out] at HKW HRK
            generalize hku : kwR q = ku at HRK
            have HK2 := Lib.hid (show kwV q = .tuple #[.string ⟨ku.toArray⟩, .bool (decide (ku ≠ []))] by unfold kwV; rw [hku])
            rw [HK2.out] at HKW
            clear hku hT
            by_cases hk0 : ku = []
            · subst hk0
              have HKW := Lib.hid (show ∀ W, Below w.heap.size w W → Calls Tryd.prog 6 #[.string T] W (RetV (.tuple #[.string .empty, .bool false]) W) from HKW.out)
              have HRK := Lib.hid (show ∀ W, Calls Tryd.prog 7 #[.string T] W (RetV (.string .empty) W) from HRK.out)
              go_wp2_with (first
                | (go_at_call 6; (with_reducible refine (HKW.out _ HWI.out).mono ?_); rintro e w6 ⟨rfl, hB6⟩; have HB6 := Lib.hid (HWI.out.trans (hB6.mono HWI.out.size)); have hcv3 := HCV.out _ hB6; have HX6 := Lib.hid (HBI.out.trans (hB6.mono HBI.out.size)); clear hB6)
                | (go_at_call 7; (with_reducible refine (HRK.out _).mono ?_); rintro e w7 ⟨rfl, hB7⟩; have HX7 := Lib.hid (HX6.out.trans (hB7.mono HX6.out.size)); clear hB7)
                | fail)
              go_roundw
              case rel => exact ⟨k + 1, by omega, by go_num, HB.out.trans (HX7.out.mono HB.out.size)⟩
              case measure => simp [intOf] <;> omega
            · have hkd : decide (ku ≠ []) = true := by simp [hk0]
              rw [hkd] at HKW
              obtain ⟨KU, hKU⟩ : ∃ KU : ByteArray, KU = ⟨ku.toArray⟩ := ⟨_, rfl⟩
              have hne : (KU.toList == []) = false := text_ne (by rw [hKU]; show 0 < ku.toArray.size; simp; exact List.length_pos_iff.2 hk0)
              rw [← hKU] at HKW HRK
              clear hkd hk0 hKU
              go_wp2_with (first
                | (go_at_call 6; (with_reducible refine (HKW.out _ HWI.out).mono ?_); rintro e w6 ⟨rfl, hB6⟩; have HB6 := Lib.hid (HWI.out.trans (hB6.mono HWI.out.size)); have hcv3 := HCV.out _ hB6; have HX6 := Lib.hid (HBI.out.trans (hB6.mono HBI.out.size)); clear hB6)
                | (go_at_call 7; (with_reducible refine (HRK.out _).mono ?_); rintro e w7 ⟨rfl, hB7⟩; have HX7 := Lib.hid (HX6.out.trans (hB7.mono HX6.out.size)); clear hB7)
                | fail)
              go_roundw
              case rel => exact ⟨k + 1, by omega, by go_num, HB.out.trans (HX7.out.mono HB.out.size)⟩
              case measure => simp [intOf] <;> omega
      · go_wp2_with fail
        go_ret
        exact ⟨rfl, HB4.out.trans (HB.out.mono HB4.out.size)⟩
  · have hs' : (100 : Int) < (s.size : Int) := by omega
    clear hs
    go_enter Tryd.func3, Tryd.ntmps3
    go_wp2_with (first
      | (go_at_call 4; first
        | ((with_reducible refine (HLV.out _ (cell_kept HM.out HB2.out)).mono ?_); rintro e w3 ⟨rfl, hB3⟩; have HB3 := Lib.hid (HB2.out.trans (hB3.mono HB2.out.size)); clear hB3)
        | ((with_reducible refine (HLV.out _ HM.out).mono ?_); rintro e w2 ⟨rfl, hB2⟩; have HB2 := Lib.hid hB2; clear hB2))
      | fail)
    go_ret
    exact ⟨rfl, HB3.out⟩
end Go.Proofs.YtacodkmbefhicaaDoor
