/- The walk of the document's All. -/
import Derived.Test.YtcnkghcdjicldaaAll
import Derived.Test.YtcnkghcdjicldaaRMerge
namespace Go.Proofs.Ytcnkghcdjicldaa
open Go.RowKit

theorem eachR_stay (m : Nat) (ds : List (Int × List Int)) (L : List (Int × List Int)) (h : m ≤ L.length) : eachR m L ds = L := by
  unfold eachR
  induction ds with
  | nil => rfl
  | cons d ds ih =>
    rw [List.foldl_cons]
    have : addM m L d.1 d.2 = L := by unfold addM; rw [if_neg (by omega)]
    rw [this]; exact ih
theorem eachR_rest (m : Nat) (L ds : List (Int × List Int)) (j : Nat) (h : m ≤ (eachR m L (ds.take j)).length) : eachR m L ds = eachR m L (ds.take j) := by
  have e : eachR m L ds = eachR m (eachR m L (ds.take j)) (ds.drop j) := by
    unfold eachR
    rw [← List.foldl_append, List.take_append_drop]
  rw [e, eachR_stay m _ _ h]
theorem box3_set {w : World} {b : Nat} {c0 c1 c2 v0 v1 v2 : Value} (h : w.heap[b]? = some (.cells #[c0, c1, c2] 36 (0, 0))) : (((w.setCell ⟨b, 0, none⟩ v0).setCell ⟨b, 1, none⟩ v1).setCell ⟨b, 2, none⟩ v2).heap[b]? = some (.cells #[v0, v1, v2] 36 (0, 0)) := by
  have h1 : (w.setCell ⟨b, 0, none⟩ v0).heap[b]? = some (.cells #[v0, c1, c2] 36 (0, 0)) := by
    rw [setCell_eq_setRow w b 0 _ 36 (0, 0) v0 h]; exact setRow_heap w b _ _ 36 _ h
  have h2 : ((w.setCell ⟨b, 0, none⟩ v0).setCell ⟨b, 1, none⟩ v1).heap[b]? = some (.cells #[v0, v1, c2] 36 (0, 0)) := by
    rw [setCell_eq_setRow _ b 1 _ 36 (0, 0) v1 h1]; exact setRow_heap _ b _ _ 36 _ h1
  rw [setCell_eq_setRow _ b 2 _ 36 (0, 0) v2 h2]; exact setRow_heap _ b _ _ 36 _ h2
theorem rowR_rest (m : Nat) (base L : List (Int × List Int)) (a : Int × List Int) (j : Nat) (h : m ≤ ((base.take j).foldl (fun L b => mergeR m L a b) L).length) : rowR m base L a = (base.take j).foldl (fun L b => mergeR m L a b) L := by
  have stay : ∀ (l : List (Int × List Int)) (L : List (Int × List Int)), m ≤ L.length → l.foldl (fun L b => mergeR m L a b) L = L := by
    intro l
    induction l with
    | nil => intro L _; rfl
    | cons d l ih =>
      intro L h
      rw [List.foldl_cons]
      have : mergeR m L a d = L := by
        unfold mergeR addM
        split
        · rw [if_neg (by omega)]
        · rfl
      rw [this]; exact ih L h
  unfold rowR
  rw [← List.take_append_drop j base, List.foldl_append, List.take_append_drop, stay _ _ h]
set_option maxRecDepth 100000 in
set_option maxHeartbeats 16000000 in
theorem all13_any (A : Option Addr) (c : Nat) (qs : List Qd) (most : Int) (m : Nat) (w : World) (hm : (m : Int) = max 0 (min most 16)) (hq : QsAt w A qs) (hs : ∀ q ∈ qs, SmallQ q) :
    Calls Try.prog 13 #[.slice A qs.length c, .int .i64 most] w (RetD (allR m qs) w) := by
  have hm16 : m ≤ 16 := by omega
  have hqs := hq.1
  unfold maxLen at hqs
  have HM := Lib.hid hm
  have HQ := Lib.hid hq
  have HSM := Lib.hid hs
  obtain ⟨Lb, hLb⟩ : ∃ Lb, Lb = basesR m qs := ⟨_, rfl⟩
  have HLB := Lib.hid hLb
  have HLE := Lib.hid (show Lb.length ≤ m by rw [hLb]; exact basesR_le m qs)
  have HSB := Lib.hid (show Sound Lb by rw [hLb]; exact basesR_sound m qs)
  have HFIN := Lib.hid (show allR m qs = Lb.foldl (rowR m Lb) Lb by rw [hLb]; rfl)
  generalize allR m qs = R at HFIN ⊢
  have HLK := Lib.hid (show ∀ k, ((qs.take k).foldl (fun L q => eachR m L (ofR q)) []).length ≤ m from fun k => basesR_le m (qs.take k))
  clear hm hq hs hLb
  go_enter Try.func13, Try.ntmps13
  go_wp2_with fail
  rw [← HM.out]
  go_loopw [5, 6] (fun out i wr => ∃ k : Nat, k ≤ qs.length ∧ i = .int .i64 k ∧ OfL w wr out ((qs.take k).foldl (fun L q => eachR m L (ofR q)) [])) (fun _ i _ => qs.length - (intOf i).toNat)
  case atStart => exact ⟨0, Nat.zero_le _, rfl, OfL.start w⟩
  case round =>
    obtain ⟨k, hk, rfl, hin⟩ := hrel
    obtain ⟨wo, rfl⟩ : ∃ wo : World, wo = wr := ⟨_, rfl⟩
    obtain ⟨A0, n0, c0, rfl⟩ := hin.slice
    have HI := Lib.hid hin
    obtain ⟨L0, hL0⟩ : ∃ L0, L0 = (qs.take k).foldl (fun L q => eachR m L (ofR q)) [] := ⟨_, rfl⟩
    have h0le := HLK.out k
    rw [← hL0] at HI h0le
    have HL0 := Lib.hid hL0
    clear hin hL0
    by_cases hlt : k < qs.length
    · rcases HQ.out.2 with h0 | ⟨b, off, rfl, hbl, hc⟩
      · exfalso; rw [h0] at hlt; simp at hlt
      · obtain ⟨q, hx⟩ : ∃ q, qs[k]? = some q := ⟨_, List.getElem?_eq_getElem hlt⟩
        obtain ⟨hcq, hqa⟩ := hc k q hx
        have HNX := Lib.hid (show (qs.take (k + 1)).foldl (fun L q => eachR m L (ofR q)) [] = eachR m L0 (ofR q) by rw [fold_snoc _ _ _ _ _ hx, HL0.out])
        have hsq := HSM.out q (List.mem_of_getElem? hx)
        have HOF := Lib.hid (fun (W : World) (hB : Below w.heap.size w W) => of11_any q W (hqa.keep hB) hsq.1 hsq.2.2.1 hsq.2.2.2)
        have HOS := Lib.hid (ofR_sound q)
        have HEL := Lib.hid (show ∀ l, (eachR m L0 l).length ≤ m from fun l => eachR_le m l h0le)
        obtain ⟨LQ, hLQ⟩ : ∃ LQ, LQ = ofR q := ⟨_, rfl⟩
        rw [← hLQ] at HNX HOF HOS
        unfold qV Qd.cells at HOF
        have hcc : ∀ (i : Nat) (v : Value), q.cells.toList[i]? = some v → wo.cell? ⟨b, off + k * 9 + i, none⟩ = some v := fun i v hv => (HI.out.1.cell (p := ⟨b, off + k * 9 + i, none⟩) hbl).trans (hcq i v hv)
        have q0 : wo.cell? ⟨b, off + k * 9, none⟩ = some (.slice q.tA q.tabs.length q.tc) := hcc 0 _ rfl
        have q1 : wo.cell? ⟨b, off + k * 9 + 1, none⟩ = some (.slice q.bA q.beg.length q.bc) := hcc 1 _ rfl
        have q2 : wo.cell? ⟨b, off + k * 9 + 2, none⟩ = some (.int .i64 q.width) := hcc 2 _ rfl
        have q3 : wo.cell? ⟨b, off + k * 9 + 3, none⟩ = some (.slice q.wA q.wh.length q.wc) := hcc 3 _ rfl
        have q4 : wo.cell? ⟨b, off + k * 9 + 4, none⟩ = some (.slice q.gA q.gn q.gc) := hcc 4 _ rfl
        have q5 : wo.cell? ⟨b, off + k * 9 + 5, none⟩ = some (.bool q.grouped) := hcc 5 _ rfl
        have q6 : wo.cell? ⟨b, off + k * 9 + 6, none⟩ = some (.slice q.iA q.i_n q.ic) := hcc 6 _ rfl
        have q7 : wo.cell? ⟨b, off + k * 9 + 7, none⟩ = some (.slice q.oA q.ord.length q.oc) := hcc 7 _ rfl
        have q8 : wo.cell? ⟨b, off + k * 9 + 8, none⟩ = some (.int .i64 q.limit) := hcc 8 _ rfl
        have hbo : b < wo.heap.size := Nat.lt_of_lt_of_le hbl HI.out.1.size
        have HBX := Lib.hid HI.out.1
        have HIX := HI
        clear hcq hqa hx hsq hcc hc hLQ
        go_wp2_with (first
          | (go_at_call 11; (with_reducible refine (HOF.out _ HBX.out).mono ?_); rintro e w2 ⟨es, A2, c2, hp2, rfl, hd2, hB2⟩; have HP2 := Lib.hid hp2; have HD2 := Lib.hid hd2; have HI2 := Lib.hid (HIX.out.call hB2); clear hp2 hd2 hB2)
          | fail)
        obtain ⟨en, hen⟩ : ∃ en, en = es.length := ⟨_, rfl⟩
        have HEN := Lib.hid hen
        have hes : en ≤ maxLen := by rw [hen]; exact Nat.le_trans HD2.out.2.2.1 HD2.out.2.2.2
        unfold maxLen at hes
        rw [← hen]
        clear hen q0 q1 q2 q3 q4 q5 q6 q7 q8
        go_loopw [5, 8] (fun out i wr => ∃ j : Nat, j ≤ en ∧ i = .int .i64 j ∧ Below w2.heap.size w2 wr ∧ OfL w wr out (eachR m L0 (LQ.take j))) (fun _ i _ => en - (intOf i).toNat)
        case atStart => exact ⟨0, Nat.zero_le _, rfl, Below.refl _ _, HI2.out⟩
        case round =>
          obtain ⟨j, hj, rfl, hb2, hin⟩ := hrel
          obtain ⟨wi, rfl⟩ : ∃ wi : World, wi = wr := ⟨_, rfl⟩
          obtain ⟨A5, n5, c5, rfl⟩ := hin.slice
          have HI5 := Lib.hid hin
          have HN5 := Lib.hid hin.len
          have HB2 := Lib.hid hb2
          have h5m := HEL.out (LQ.take j)
          clear hin hb2
          by_cases hjl : j < en
          · obtain ⟨⟨dt, dA, dc, dl⟩, hd⟩ : ∃ d, es[j]? = some d := ⟨_, List.getElem?_eq_getElem (by have := HEN.out; omega)⟩
            have hpd := pure_get hd
            rw [HP2.out] at hpd
            obtain ⟨b2, off2, rfl, hb2, k0, k1, k2, hI⟩ := defs_cells HD2.out HB2.out hd
            have HID := Lib.hid hI
            have HZ := Lib.hid (show eachR m L0 (LQ.take (j + 1)) = addM m (eachR m L0 (LQ.take j)) dt dl from fold_snoc (fun (L : List (Int × List Int)) (d : Int × List Int) => addM m L d.1 d.2) L0 LQ j (dt, dl) hpd)
            have hdl : dl.length ≤ 3 := (HOS.out.1 (dt, dl) (List.mem_of_getElem? hpd)).2.1
            obtain ⟨LJ, hLJ⟩ : ∃ LJ, LJ = eachR m L0 (LQ.take j) := ⟨_, rfl⟩
            rw [← hLJ] at HI5 HN5 HZ h5m
            have hn5 : n5 ≤ 16 := by have := HN5.out; omega
            have hb2i : b2 < wi.heap.size := Nat.lt_of_lt_of_le hb2 HB2.out.size
            have HBI := HB2
            have HI6 := HI5
            have HLJ := Lib.hid hLJ
            clear hd hpd hI hLJ
            by_cases hlm : n5 < m
            · have HZ2 := Lib.hid (show eachR m L0 (LQ.take (j + 1)) = addR LJ dt dl by rw [HZ.out]; unfold addM; rw [if_pos (by rw [← HN5.out]; exact hlm)])
              have HAD := Lib.hid (fun (W : World) (hB : Below wi.heap.size wi W) => show Calls Try.prog 25 #[.slice A5 n5 c5, .int .i64 dt, .slice dA dl.length dc] W (RetL w W (addR LJ dt dl)) from
                radd_on (HI6.out.call hB) (by omega) (HID.out.keep hB) rfl)
              have HSX := Lib.hid (show ∀ wx, Below wi.heap.size wi wx → Below wi.heap.size wi wx ∧ wx.cell? ⟨b2, off2 + j * 3, none⟩ = some (.int .i64 dt) ∧ wx.cell? ⟨b2, off2 + j * 3 + 1, none⟩ = some (.slice dA dl.length dc) ∧ b2 < wx.heap.size from fun wx h => ⟨h, cell_kept k0 h, cell_kept k1 h, Nat.lt_of_lt_of_le hb2i h.size⟩)
              have hW0 : Below wi.heap.size wi wi.drew := (Below.refl _ _).drew
              go_wp2_with fail
              go_region_held3 (fun wx => Below wi.heap.size wi wx ∧ wx.cell? ⟨b2, off2 + j * 3, none⟩ = some (.int .i64 dt) ∧ wx.cell? ⟨b2, off2 + j * 3 + 1, none⟩ = some (.slice dA dl.length dc) ∧ b2 < wx.heap.size)
                (first
                  | exact HSX.out _ hW0
                  | (with_reducible assumption)
                  | exact HSX.out _ hW7
                  | fail)
                (first
                  | (go_at_call 25; (with_reducible refine (HAD.out _ hW0).mono ?_); rintro e w7 ⟨A9, n9, c9, rfl, hL9, hB9⟩; have hW7 := hW0.trans (hB9.mono hW0.size); have HL9 := Lib.hid hL9; clear hL9)
                  | fail)
              all_goals
                have HB9 := Lib.hid (HBI.out.trans (hW7.mono HBI.out.size))
                go_wp2_with fail
                go_roundw
                case rel => exact ⟨j + 1, by omega, by go_num, HB9.out, by rw [HZ2.out]; exact HL9.out⟩
                case measure => simp [intOf] <;> omega
            · have HNX2 := Lib.hid (show (qs.take (k + 1)).foldl (fun L q => eachR m L (ofR q)) [] = LJ by
                rw [HNX.out, HLJ.out]
                exact eachR_rest m L0 LQ j (by rw [← HLJ.out, ← HN5.out]; omega))
              go_wp2_with fail
              go_roundw
              case rel => exact ⟨k + 1, by omega, by go_num, by rw [HNX2.out]; exact HI5.out⟩
              case measure => simp [intOf] <;> omega
          · have hall : LQ.take j = LQ := by
              have e : LQ.length = en := by rw [← HP2.out, HEN.out]; simp [pureD]
              exact List.take_of_length_le (by omega)
            rw [hall] at HI5
            go_wp2_with fail
            go_roundw
            case rel => exact ⟨k + 1, by omega, by go_num, by rw [HNX.out]; exact HI5.out⟩
            case measure => simp [intOf] <;> omega
    · have HLL := Lib.hid (show L0 = Lb by rw [HL0.out, HLB.out, List.take_of_length_le (by omega)]; rfl)
      rw [HLL.out] at HI
      have HN0 := Lib.hid HI.out.len
      have hn0 : n0 ≤ 16 := by have := HI.out.len; have := HLE.out; omega
      obtain ⟨_, bs, A1, c1, hv, hpb, hdb⟩ := HI.out
      cases hv
      have HPB := Lib.hid hpb
      have HDB := Lib.hid hdb
      obtain ⟨bn, hbn⟩ : ∃ bn, bn = bs.length := ⟨_, rfl⟩
      have HBN := Lib.hid hbn
      rw [← hbn] at hn0 HI ⊢
      have HCR := Lib.hid (show ∀ l L, L.length ≤ m → (∀ a ∈ l, a ∈ Lb) → Sound L → (l.foldl (rowR m Lb) L).length ≤ m from fun l L h1 h2 h3 => (cross_all m Lb l L h1 h3 (fun a ha => HSB.out.1 a (h2 a ha))).1)
      clear hpb hdb hbn HN0
      go_wp2_with fail
      go_loopw [5, 10] (fun out i wr => ∃ k : Nat, k ≤ bn ∧ i = .int .i64 k ∧ Below wo.heap.size wo wr ∧ OfL w wr out ((Lb.take k).foldl (rowR m Lb) Lb)) (fun _ i _ => bn - (intOf i).toNat)
      case atStart => exact ⟨0, Nat.zero_le _, rfl, Below.refl _ _, HI.out⟩
      case round =>
        obtain ⟨k3, hk3, rfl, hb3, hin⟩ := hrel
        obtain ⟨wr3, rfl⟩ : ∃ wi : World, wi = wr := ⟨_, rfl⟩
        obtain ⟨A5, n5, c5, rfl⟩ := hin.slice
        have HI5 := Lib.hid hin
        have HB3 := Lib.hid hb3
        have h5m := HCR.out (Lb.take k3) Lb HLE.out (fun a ha => List.mem_of_mem_take ha) HSB.out
        obtain ⟨L3, hL3⟩ : ∃ L3, L3 = (Lb.take k3).foldl (rowR m Lb) Lb := ⟨_, rfl⟩
        rw [← hL3] at HI5 h5m
        have HL3 := Lib.hid hL3
        clear hin hb3 hL3
        by_cases hk3l : k3 < bn
        · obtain ⟨⟨at', aA, ac, al⟩, hd⟩ : ∃ d, bs[k3]? = some d := ⟨_, List.getElem?_eq_getElem (by have := HBN.out; omega)⟩
          have hpd := pure_get hd
          rw [HPB.out] at hpd
          obtain ⟨ba, offa, rfl, hba, k0, k1, k2, hIa⟩ := defs_cells HDB.out HB3.out hd
          have HIA := Lib.hid hIa
          have HZ3 := Lib.hid (show (Lb.take (k3 + 1)).foldl (rowR m Lb) Lb = rowR m Lb L3 (at', al) by rw [fold_snoc _ _ _ _ _ hpd, HL3.out])
          have hal : al.length ≤ 3 := (HSB.out.1 (at', al) (List.mem_of_getElem? hpd)).2.1
          have hbai : ba < wr3.heap.size := Nat.lt_of_lt_of_le hba HB3.out.size
          have HBA := HB3
          have HIA1 := HIA
          have HI6 := HI5
          have HRW := Lib.hid (show ∀ l, (l.foldl (fun L b => mergeR m L (at', al) b) L3).length ≤ m from fun l => rowR_le m l h5m (at', al))
          clear hd hpd hIa
          go_wp2_with fail
          obtain ⟨wa, rfl⟩ : ∃ wa : World, wa = wr3 := ⟨_, rfl⟩
          go_loopw [5, 11] (fun out i wr => ∃ j : Nat, j ≤ bn ∧ i = .int .i64 j ∧ Below wa.heap.size wa wr ∧ OfL w wr out ((Lb.take j).foldl (fun L b => mergeR m L (at', al) b) L3)) (fun _ i _ => bn - (intOf i).toNat)
          case atStart => exact ⟨0, Nat.zero_le _, rfl, Below.refl _ _, HI6.out⟩
          case round =>
            obtain ⟨j, hj, rfl, hb4, hin⟩ := hrel
            obtain ⟨wi, rfl⟩ : ∃ wi : World, wi = wr := ⟨_, rfl⟩
            obtain ⟨A7, n7, c7, rfl⟩ := hin.slice
            have HI7 := Lib.hid hin
            have HN7 := Lib.hid hin.len
            have HB4 := Lib.hid hb4
            have h7m := HRW.out (Lb.take j)
            obtain ⟨LJ, hLJ⟩ : ∃ LJ, LJ = (Lb.take j).foldl (fun L b => mergeR m L (at', al) b) L3 := ⟨_, rfl⟩
            rw [← hLJ] at HI7 HN7 h7m
            have HLJ := Lib.hid hLJ
            clear hin hb4 hLJ
            by_cases hjl : j < bn
            · obtain ⟨⟨bt, bA, bc, bl⟩, hd⟩ : ∃ d, bs[j]? = some d := ⟨_, List.getElem?_eq_getElem (by have := HBN.out; omega)⟩
              have hpd := pure_get hd
              rw [HPB.out] at hpd
              obtain ⟨bb, offb, hAA, hbb, m0, m1, m2, hIb⟩ := defs_cells HDB.out (HBA.out.trans (HB4.out.mono HBA.out.size)) hd
              cases hAA
              have HIB := Lib.hid hIb
              have HZ := Lib.hid (show (Lb.take (j + 1)).foldl (fun L b => mergeR m L (at', al) b) L3 = mergeR m LJ (at', al) (bt, bl) by rw [fold_snoc _ _ _ _ _ hpd, HLJ.out])
              have hbl3 : bl.length ≤ 3 := (HSB.out.1 (bt, bl) (List.mem_of_getElem? hpd)).2.1
              have hn7 : n7 ≤ 16 := by have := HN7.out; omega
              have hbi : ba < wi.heap.size := Nat.lt_of_lt_of_le hbb (HBA.out.trans (HB4.out.mono HBA.out.size)).size
              have HIA2 := Lib.hid (HIA1.out.keep HB4.out)
              have HSX := Lib.hid (show ∀ wx, Below wi.heap.size wi wx → Below wi.heap.size wi wx ∧ wx.cell? ⟨ba, offa + k3 * 3, none⟩ = some (.int .i64 at') ∧ wx.cell? ⟨ba, offa + k3 * 3 + 1, none⟩ = some (.slice aA al.length ac) ∧ wx.cell? ⟨ba, offa + k3 * 3 + 2, none⟩ = some (.bool false) ∧ wx.cell? ⟨ba, offa + j * 3, none⟩ = some (.int .i64 bt) ∧ wx.cell? ⟨ba, offa + j * 3 + 1, none⟩ = some (.slice bA bl.length bc) ∧ wx.cell? ⟨ba, offa + j * 3 + 2, none⟩ = some (.bool false) ∧ ba < wx.heap.size from fun wx h => ⟨h, cell_kept (cell_kept k0 HB4.out) h, cell_kept (cell_kept k1 HB4.out) h, cell_kept (cell_kept k2 HB4.out) h, cell_kept m0 h, cell_kept m1 h, cell_kept m2 h, Nat.lt_of_lt_of_le hbi h.size⟩)
              have hW0 : Below wi.heap.size wi wi.drew := (Below.refl _ _).drew
              clear hd hpd hIb
              by_cases hlm : n7 < m
              · by_cases htt : at' = bt
                · subst htt
                  obtain ⟨Z, hZ⟩ : ∃ Z, Z = (behR al bl).take 3 := ⟨_, rfl⟩
                  have HMG := Lib.hid (show mergeR m LJ (at', al) (at', bl) = addM m LJ at' Z by unfold mergeR; rw [if_pos rfl, hZ])
                  have HMY2 := Lib.hid (fun (W : World) (hB : Below wi.heap.size wi W) => show Calls Try.prog 31 #[.agg #[.int .i64 at', .slice aA al.length ac, .bool false], .agg #[.int .i64 at', .slice bA bl.length bc, .bool false]] W (fun e w' => ∃ A n c, e = .returned (.tuple #[.agg #[.int .i64 at', .slice A n c, .bool false], .bool true]) ∧ n = Z.length ∧ Ints w' A c Z ∧ Below W.heap.size W w' ∧ (A = aA ∨ ∀ ad, A = some ad → W.heap.size ≤ ad.block)) from (rmerge_yes ⟨at', aA, ac, al⟩ ⟨at', bA, bc, bl⟩ W rfl (HIA2.out.keep hB) (HIB.out.keep hB) (by show al.length ≤ 100; omega) (by show bl.length ≤ 100; omega)).mono fun e w' ⟨A, n, c, g1, g2, g3, g4, g5⟩ => by
                    rw [hZ]; exact ⟨A, n, c, g1, g2, g3, g4, g5⟩)
                  have HAB := Lib.hid (HIA2.out.below)
                  have HZ2 := Lib.hid (show (Lb.take (j + 1)).foldl (fun L b => mergeR m L (at', al) b) L3 = addR LJ at' Z by rw [HZ.out, HMG.out]; unfold addM; rw [if_pos (by rw [← HN7.out]; exact hlm)])
                  have HAD := Lib.hid (fun (W : World) (A9 : Option Addr) (n9 c9 : Nat) (hB : Below wi.heap.size wi W) (h1 : n9 = Z.length) (h2 : Ints W A9 c9 Z) => show Calls Try.prog 25 #[.slice A7 n7 c7, .int .i64 at', .slice A9 n9 c9] W (RetL w W (addR LJ at' Z)) from
                    radd_on (HI7.out.call hB) (by omega) h2 h1)
                  clear hZ
                  go_upto_region 18 with (fail)
                  go_cut [12, 13] from 59 to 89 (fun s12 s13 wc => s13 = .bool true ∧ Below wi.heap.size wi wc ∧ ∃ g A9 n9 c9, s12 = .pointer (some ⟨g, 0, none⟩) ∧ BoxD wc g at' A9 n9 c9 ∧ n9 = Z.length ∧ Ints wc A9 c9 Z)
                  case first =>
                    go_region_held3 (fun wx => Below wi.heap.size wi wx ∧ wx.cell? ⟨ba, offa + k3 * 3, none⟩ = some (.int .i64 at') ∧ wx.cell? ⟨ba, offa + k3 * 3 + 1, none⟩ = some (.slice aA al.length ac) ∧ wx.cell? ⟨ba, offa + k3 * 3 + 2, none⟩ = some (.bool false) ∧ wx.cell? ⟨ba, offa + j * 3, none⟩ = some (.int .i64 at') ∧ wx.cell? ⟨ba, offa + j * 3 + 1, none⟩ = some (.slice bA bl.length bc) ∧ wx.cell? ⟨ba, offa + j * 3 + 2, none⟩ = some (.bool false) ∧ ba < wx.heap.size)
                      (first
                        | exact HSX.out _ hW0
                        | (with_reducible assumption)
                        | exact HSX.out _ hW8
                        | exact HSX.out _ (hW8.alloc hW8.size _)
                        | exact HSX.out _ (hW0.alloc hW0.size _)
                        | exact HSX.out _ (((hW8.setCell (p := ⟨wi.heap.size, 0, none⟩) (Nat.le_refl _) _).setCell (p := ⟨wi.heap.size, 1, none⟩) (Nat.le_refl _) _).setCell (p := ⟨wi.heap.size, 2, none⟩) (Nat.le_refl _) _)
                        | fail)
                      (first
                        | (go_at_call 31; (with_reducible refine (HMY2.out _ ?_).mono ?_); (first | exact hW0.alloc hW0.size _ | exact hW0); rintro e w8 ⟨A9, n9, c9, rfl, hn9, hI9, hB9, hal9⟩; have hW8 : Below wi.heap.size wi w8 := (by first | exact (hW0.alloc hW0.size _).trans (hB9.mono (hW0.alloc hW0.size _).size) | exact hW0.trans (hB9.mono hW0.size)); (try (have hqg := (hB9.block wi.heap.size (by simp)).trans (heap_alloc_new wi.drew (.cells #[.int .i64 0, .slice none 0 0, .bool false] 36)); have r0 := cell_of_row _ _ 0 _ _ _ hqg; have r1 := cell_of_row _ _ 1 _ _ _ hqg; have r2 := cell_of_row _ _ 2 _ _ _ hqg; have g0 := frozen_of_row _ _ 0 _ _ hqg; have g1 := frozen_of_row _ _ 1 _ _ hqg; have g2 := frozen_of_row _ _ 2 _ _ hqg; have HQG := Lib.hid hqg; clear hqg)); have HN9 := Lib.hid hn9; have HI9 := Lib.hid hI9; have HAL9 := Lib.hid hal9; clear hn9 hI9 hal9 hB9)
                        | fail)
                    · have HW9 := Lib.hid (hW8.alloc hW8.size (.cells #[.int .i64 at', .slice A9 n9 c9, .bool false] 36))
                      go_wp2_with fail
                      go_meet
                      exact ⟨rfl, HW9.out, _, A9, n9, c9, rfl, heap_alloc_new _ _, HN9.out, HI9.out.keep (below1 _ _)⟩
                    · have HW9 := Lib.hid (((hW8.setCell (p := ⟨wi.heap.size, 0, none⟩) (Nat.le_refl _) (.int .i64 at')).setCell (p := ⟨wi.heap.size, 1, none⟩) (Nat.le_refl _) (.slice A9 n9 c9)).setCell (p := ⟨wi.heap.size, 2, none⟩) (Nat.le_refl _) (.bool false))
                      have hne : ∀ ad, A9 = some ad → ad.block ≠ wi.heap.size := by
                        intro ad hA
                        rcases HAL9.out with h | h
                        · have := HAB.out ad (h ▸ hA); omega
                        · have := h ad hA
                          simp at this; omega
                      have HNE := Lib.hid hne
                      clear hne
                      go_wp2_with fail
                      go_meet
                      exact ⟨rfl, HW9.out, _, A9, n9, c9, rfl, box3_set HQG.out, HN9.out, ((HI9.out.far HNE.out 0 _).far HNE.out 1 _).far HNE.out 2 _⟩
                  case rest =>
                    obtain ⟨rfl, hBw, g, A9, n9, c9, rfl, hbx, hn9, hI9⟩ := hcut
                    obtain ⟨w9, rfl⟩ : ∃ w9 : World, w9 = wc := ⟨_, rfl⟩
                    obtain ⟨x0, x1, x2⟩ := hbx.cells
                    have hlg := heap_lt hbx
                    have HCL := Lib.hid (HAD.out w9 A9 n9 c9 hBw hn9 hI9)
                    have HBW := Lib.hid (HB4.out.trans (hBw.mono HB4.out.size))
                    clear hBw hbx hn9 hI9
                    go_wp2_with (first
                      | (go_at_call 25; (with_reducible refine HCL.out.mono ?_); rintro e w10 ⟨A10, n10, c10, rfl, hL10, hB10⟩; have HL10 := Lib.hid hL10; have HB10 := Lib.hid (HBW.out.trans (hB10.mono HBW.out.size)); clear hL10 hB10)
                      | fail)
                    go_roundw
                    case rel => exact ⟨j + 1, by omega, by go_num, HB10.out, by rw [HZ2.out]; exact HL10.out⟩
                    case measure => simp [intOf] <;> omega
                · have HMN2 := Lib.hid (fun (W : World) => show Calls Try.prog 31 #[.agg #[.int .i64 at', .slice aA al.length ac, .bool false], .agg #[.int .i64 bt, .slice bA bl.length bc, .bool false]] W (MergeNo W) from rmerge_no ⟨at', aA, ac, al⟩ ⟨bt, bA, bc, bl⟩ W htt)
                  have HZ2 := Lib.hid (show (Lb.take (j + 1)).foldl (fun L b => mergeR m L (at', al) b) L3 = LJ by rw [HZ.out]; unfold mergeR; rw [if_neg htt])
                  clear htt
                  go_upto_region 18 with (fail)
                  go_cut [13] from 59 to 89 (fun s13 wc => s13 = .bool false ∧ Below wi.heap.size wi wc)
                  case first =>
                    go_region_held3 (fun wx => Below wi.heap.size wi wx ∧ wx.cell? ⟨ba, offa + k3 * 3, none⟩ = some (.int .i64 at') ∧ wx.cell? ⟨ba, offa + k3 * 3 + 1, none⟩ = some (.slice aA al.length ac) ∧ wx.cell? ⟨ba, offa + k3 * 3 + 2, none⟩ = some (.bool false) ∧ wx.cell? ⟨ba, offa + j * 3, none⟩ = some (.int .i64 bt) ∧ wx.cell? ⟨ba, offa + j * 3 + 1, none⟩ = some (.slice bA bl.length bc) ∧ wx.cell? ⟨ba, offa + j * 3 + 2, none⟩ = some (.bool false) ∧ ba < wx.heap.size)
                      (first
                        | exact HSX.out _ hW0
                        | (with_reducible assumption)
                        | exact HSX.out _ hW8
                        | exact HSX.out _ (hW8.alloc hW8.size _)
                        | exact HSX.out _ (hW0.alloc hW0.size _)
                        | exact HSX.out _ (((hW8.setCell (p := ⟨wi.heap.size, 0, none⟩) (Nat.le_refl _) _).setCell (p := ⟨wi.heap.size, 1, none⟩) (Nat.le_refl _) _).setCell (p := ⟨wi.heap.size, 2, none⟩) (Nat.le_refl _) _)
                        | fail)
                      (first
                        | (go_at_call 31; (with_reducible refine (HMN2.out _).mono ?_); rintro e w8 ⟨rfl, hB9⟩; have hW8 : Below wi.heap.size wi w8 := (by first | exact (hW0.alloc hW0.size _).trans (hB9.mono (hW0.alloc hW0.size _).size) | exact hW0.trans (hB9.mono hW0.size)); (try (have hqg := (hB9.block wi.heap.size (by simp)).trans (heap_alloc_new wi.drew (.cells #[.int .i64 0, .slice none 0 0, .bool false] 36)); have r0 := cell_of_row _ _ 0 _ _ _ hqg; have r1 := cell_of_row _ _ 1 _ _ _ hqg; have r2 := cell_of_row _ _ 2 _ _ _ hqg; have g0 := frozen_of_row _ _ 0 _ _ hqg; have g1 := frozen_of_row _ _ 1 _ _ hqg; have g2 := frozen_of_row _ _ 2 _ _ hqg; have HQG := Lib.hid hqg; clear hqg)); clear hB9)
                        | fail)
                    · have HW9 := Lib.hid (hW8.alloc hW8.size (.cells #[.int .i64 0, .slice none 0 0, .bool false] 36))
                      go_wp2_with fail
                      go_meet
                      exact ⟨rfl, HW9.out⟩
                    · have HW9 := Lib.hid hW8
                      go_wp2_with fail
                      go_meet
                      first
                        | exact ⟨rfl, HW9.out⟩
                        | exact ⟨rfl, (((HW9.out.setCell (p := ⟨wi.heap.size, 0, none⟩) (Nat.le_refl _) _).setCell (p := ⟨wi.heap.size, 1, none⟩) (Nat.le_refl _) _).setCell (p := ⟨wi.heap.size, 2, none⟩) (Nat.le_refl _) _)⟩
                  case rest =>
                    obtain ⟨rfl, hBw⟩ := hcut
                    obtain ⟨w9, rfl⟩ : ∃ w9 : World, w9 = wc := ⟨_, rfl⟩
                    have HBW := Lib.hid (HB4.out.trans (hBw.mono HB4.out.size))
                    have HI9 := Lib.hid (HI7.out.call hBw)
                    clear hBw
                    go_wp2_with fail
                    go_roundw
                    case rel => exact ⟨j + 1, by omega, by go_num, HBW.out, by rw [HZ2.out]; exact HI9.out⟩
                    case measure => simp [intOf] <;> omega
              · have HZ4 := Lib.hid (show rowR m Lb L3 (at', al) = LJ by rw [HLJ.out]; exact rowR_rest m Lb L3 (at', al) j (by rw [← HLJ.out, ← HN7.out]; omega))
                have HBE := Lib.hid (HBA.out.trans (HB4.out.mono HBA.out.size))
                go_wp2_with fail
                go_roundw
                case rel => exact ⟨k3 + 1, by omega, by go_num, HBE.out, by rw [HZ3.out, HZ4.out]; exact HI7.out⟩
                case measure => simp [intOf] <;> omega
            · have hall : Lb.take j = Lb := by
                have e : Lb.length = bn := by rw [← HPB.out, HBN.out]; simp [pureD]
                exact List.take_of_length_le (by omega)
              have HIE := Lib.hid (show OfL w wi (.slice A7 n7 c7) (rowR m Lb L3 (at', al)) by have h := HI7.out; rw [HLJ.out, hall] at h; exact h)
              go_wp2_with fail
              go_roundw
              case rel => exact ⟨k3 + 1, by omega, by go_num, HBA.out.trans (HB4.out.mono HBA.out.size), by rw [HZ3.out]; exact HIE.out⟩
              case measure => simp [intOf] <;> omega
        · have hall : Lb.take k3 = Lb := by
            have e : Lb.length = bn := by rw [← HPB.out, HBN.out]; simp [pureD]
            exact List.take_of_length_le (by omega)
          have HIE := Lib.hid (show OfL w wr3 (.slice A5 n5 c5) R by have h := HI5.out; rw [HL3.out, hall, ← HFIN.out] at h; exact h)
          go_wp2_with fail
          go_ret
          obtain ⟨hbe, ds, A9, c9, hv, hp, hd⟩ := HIE.out
          cases hv
          exact ⟨ds, _, _, hp, rfl, hd, hbe⟩
end Go.Proofs.Ytcnkghcdjicldaa
