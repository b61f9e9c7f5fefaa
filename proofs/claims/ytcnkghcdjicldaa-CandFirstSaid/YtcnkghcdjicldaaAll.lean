/- The walk of All. -/
import Derived.Test.YtcnkghcdjicldaaAllR
import Derived.Test.YtcnkghcdjicldaaOf
import Derived.Test.YtcnkghcdjicldaaMerge
namespace Go.Proofs.Ytcnkghcdjicldaa
open Go.RowKit

/-- a query that is small enough to be tried -/
def SmallQ (q : Qd) : Prop := q.tabs.length ≤ 6 ∧ q.beg.length ≤ 6 ∧ q.wh.length ≤ 12 ∧ q.ord.length ≤ 6
/-- queries as they stand in memory -/
def QsAt (w : World) (A : Option Addr) (qs : List Qd) : Prop := qs.length ≤ maxLen ∧ (qs = [] ∨ ∃ b off, A = some ⟨b, off, none⟩ ∧ b < w.heap.size ∧ ∀ (j : Nat) (q : Qd), qs[j]? = some q → (∀ (i : Nat) (v : Value), q.cells.toList[i]? = some v → w.cell? ⟨b, off + j * 9 + i, none⟩ = some v) ∧ QAt w q)
theorem QsAt.keep {w w' : World} {A : Option Addr} {qs : List Qd} (h : QsAt w A qs) (hB : Below w.heap.size w w') : QsAt w' A qs :=
  ⟨h.1, h.2.imp id fun ⟨b, off, h1, h2, h3⟩ => ⟨b, off, h1, Nat.lt_of_lt_of_le h2 hB.size, fun j q hq => ⟨fun i v hv => (hB.cell (p := ⟨b, off + j * 9 + i, none⟩) h2).trans ((h3 j q hq).1 i v hv), (h3 j q hq).2.keep hB⟩⟩⟩
theorem OfL.len {w3 wr : World} {A : Option Addr} {n c : Nat} {L : List (Int × List Int)} (h : OfL w3 wr (.slice A n c) L) : n = L.length := by
  obtain ⟨_, ds, A', c', h3, rfl, _⟩ := h
  cases h3
  simp [pureD]
theorem OfL.start (w : World) : OfL w w (.slice none 0 0) [] := ⟨Below.refl _ _, [], none, 0, rfl, rfl, DefsAt.nil w⟩
/-- where the elements of a list of indexes lie -/
theorem defs_cells {w W : World} {A : Option Addr} {c : Nat} {ds : List DefT} {j : Nat} {t : Int} {dA : Option Addr} {dc : Nat} {l : List Int} (h : DefsAt w A c ds) (hB : Below w.heap.size w W) (hd : ds[j]? = some ⟨t, dA, dc, l⟩) : ∃ b off, A = some ⟨b, off, none⟩ ∧ b < w.heap.size ∧
    W.cell? ⟨b, off + j * 3, none⟩ = some (.int .i64 t) ∧ W.cell? ⟨b, off + j * 3 + 1, none⟩ = some (.slice dA l.length dc) ∧ W.cell? ⟨b, off + j * 3 + 2, none⟩ = some (.bool false) ∧ Ints W dA dc l := by
  rcases h.1.2 with h0 | ⟨b, off, rfl, hb, hc⟩
  · have : ds = [] := by simpa using h0
    rw [this] at hd; simp at hd
  · have g := (hc j _ (by rw [List.getElem?_map, hd]; rfl)).2
    exact ⟨b, off, rfl, hb, (hB.cell (p := ⟨b, off + j * 3 + 0, none⟩) hb).trans (g 0 _ rfl), (hB.cell (p := ⟨b, off + j * 3 + 1, none⟩) hb).trans (g 1 _ rfl), (hB.cell (p := ⟨b, off + j * 3 + 2, none⟩) hb).trans (g 2 _ rfl), (h.2.1 _ (List.mem_of_getElem? hd)).keep hB⟩
theorem pure_get {ds : List DefT} {j : Nat} {d : DefT} (h : ds[j]? = some d) : (pureD ds)[j]? = some (d.tab, d.cols) := by
  unfold pureD
  rw [List.getElem?_map, h]; rfl
set_option maxRecDepth 100000 in
set_option maxHeartbeats 16000000 in
theorem all12_any (A : Option Addr) (c : Nat) (qs : List Qd) (most : Int) (m : Nat) (w : World) (hm : (m : Int) = max 0 (min most 16)) (hq : QsAt w A qs) (hs : ∀ q ∈ qs, SmallQ q) :
    Calls Try.prog 12 #[.slice A qs.length c, .int .i64 most] w (RetD (allR m qs) w) := by
  have hm16 : m ≤ 16 := by omega
  have hqs := hq.1
  unfold maxLen at hqs
  have HM := Lib.hid hm
  have HQ := Lib.hid hq
  have HSM := Lib.hid hs
  obtain ⟨Lb, hLb⟩ : ∃ Lb, Lb = basesR m qs := ⟨_, rfl⟩
  have HLB := Lib.hid hLb
  have HLE := Lib.hid (show Lb.length ≤ m by rw [hLb]; exact basesR_le m qs)
  have HSB := Lib.hid (show Sound Lb by rw [hLb]; exact basesR_sound m qs)
  have HFIN := Lib.hid (show allR m qs = Lb.foldl (rowR m Lb) Lb by rw [hLb]; rfl)
  generalize allR m qs = R at HFIN ⊢
  have HLK := Lib.hid (show ∀ k, ((qs.take k).foldl (fun L q => eachR m L (ofR q)) []).length ≤ m from fun k => basesR_le m (qs.take k))
  clear hm hq hs hLb
  go_enter Try.func12, Try.ntmps12
  go_wp2_with fail
  rw [← HM.out]
  go_loopw [5, 22] (fun out i wr => ∃ k : Nat, k ≤ qs.length ∧ i = .int .i64 k ∧ OfL w wr out ((qs.take k).foldl (fun L q => eachR m L (ofR q)) [])) (fun _ i _ => qs.length - (intOf i).toNat)
  case atStart => exact ⟨0, Nat.zero_le _, rfl, OfL.start w⟩
  case round =>
    obtain ⟨k, hk, rfl, hin⟩ := hrel
    obtain ⟨wo, rfl⟩ : ∃ wo : World, wo = wr := ⟨_, rfl⟩
    obtain ⟨A0, n0, c0, rfl⟩ := hin.slice
    have HI := Lib.hid hin
    obtain ⟨L0, hL0⟩ : ∃ L0, L0 = (qs.take k).foldl (fun L q => eachR m L (ofR q)) [] := ⟨_, rfl⟩
    have h0le := HLK.out k
    rw [← hL0] at HI h0le
    have HL0 := Lib.hid hL0
    clear hin hL0
    by_cases hlt : k < qs.length
    · rcases HQ.out.2 with h0 | ⟨b, off, rfl, hbl, hc⟩
      · exfalso; rw [h0] at hlt; simp at hlt
      · obtain ⟨q, hx⟩ : ∃ q, qs[k]? = some q := ⟨_, List.getElem?_eq_getElem hlt⟩
        obtain ⟨hcq, hqa⟩ := hc k q hx
        have HNX := Lib.hid (show (qs.take (k + 1)).foldl (fun L q => eachR m L (ofR q)) [] = eachR m L0 (ofR q) by rw [fold_snoc _ _ _ _ _ hx, HL0.out])
        have hsq := HSM.out q (List.mem_of_getElem? hx)
        have HOF := Lib.hid (fun (W : World) (hB : Below w.heap.size w W) => of10_any q W (hqa.keep hB) hsq.1 hsq.2.2.1 hsq.2.2.2)
        have HOS := Lib.hid (ofR_sound q)
        have HEL := Lib.hid (show ∀ l, (eachR m L0 l).length ≤ m from fun l => eachR_le m l h0le)
        obtain ⟨LQ, hLQ⟩ : ∃ LQ, LQ = ofR q := ⟨_, rfl⟩
        rw [← hLQ] at HNX HOF HOS
        unfold qV Qd.cells at HOF
        have hcc : ∀ (i : Nat) (v : Value), q.cells.toList[i]? = some v → wo.cell? ⟨b, off + k * 9 + i, none⟩ = some v := fun i v hv => (HI.out.1.cell (p := ⟨b, off + k * 9 + i, none⟩) hbl).trans (hcq i v hv)
        have q0 : wo.cell? ⟨b, off + k * 9, none⟩ = some (.slice q.tA q.tabs.length q.tc) := hcc 0 _ rfl
        have q1 : wo.cell? ⟨b, off + k * 9 + 1, none⟩ = some (.slice q.bA q.beg.length q.bc) := hcc 1 _ rfl
        have q2 : wo.cell? ⟨b, off + k * 9 + 2, none⟩ = some (.int .i64 q.width) := hcc 2 _ rfl
        have q3 : wo.cell? ⟨b, off + k * 9 + 3, none⟩ = some (.slice q.wA q.wh.length q.wc) := hcc 3 _ rfl
        have q4 : wo.cell? ⟨b, off + k * 9 + 4, none⟩ = some (.slice q.gA q.gn q.gc) := hcc 4 _ rfl
        have q5 : wo.cell? ⟨b, off + k * 9 + 5, none⟩ = some (.bool q.grouped) := hcc 5 _ rfl
        have q6 : wo.cell? ⟨b, off + k * 9 + 6, none⟩ = some (.slice q.iA q.i_n q.ic) := hcc 6 _ rfl
        have q7 : wo.cell? ⟨b, off + k * 9 + 7, none⟩ = some (.slice q.oA q.ord.length q.oc) := hcc 7 _ rfl
        have q8 : wo.cell? ⟨b, off + k * 9 + 8, none⟩ = some (.int .i64 q.limit) := hcc 8 _ rfl
        have hbo : b < wo.heap.size := Nat.lt_of_lt_of_le hbl HI.out.1.size
        have HBX := Lib.hid (show Below w.heap.size w (wo.alloc (.cells #[.slice q.tA q.tabs.length q.tc, .slice q.bA q.beg.length q.bc, .int .i64 q.width, .slice q.wA q.wh.length q.wc, .slice q.gA q.gn q.gc, .bool q.grouped, .slice q.iA q.i_n q.ic, .slice q.oA q.ord.length q.oc, .int .i64 q.limit] 26)) from HI.out.1.trans ((below1 wo _).mono HI.out.1.size))
        have HIX := Lib.hid (HI.out.call (below1 wo (.cells #[.slice q.tA q.tabs.length q.tc, .slice q.bA q.beg.length q.bc, .int .i64 q.width, .slice q.wA q.wh.length q.wc, .slice q.gA q.gn q.gc, .bool q.grouped, .slice q.iA q.i_n q.ic, .slice q.oA q.ord.length q.oc, .int .i64 q.limit] 26)))
        clear hcq hqa hx hsq hcc hc hLQ
        go_wp2_with (first
          | (go_at_call 10; (with_reducible refine (HOF.out _ HBX.out).mono ?_); rintro e w2 ⟨es, A2, c2, hp2, rfl, hd2, hB2⟩; have HP2 := Lib.hid hp2; have HD2 := Lib.hid hd2; have HI2 := Lib.hid (HIX.out.call hB2); clear hp2 hd2 hB2)
          | fail)
        obtain ⟨en, hen⟩ : ∃ en, en = es.length := ⟨_, rfl⟩
        have HEN := Lib.hid hen
        have hes : en ≤ maxLen := by rw [hen]; exact Nat.le_trans HD2.out.2.2.1 HD2.out.2.2.2
        unfold maxLen at hes
        rw [← hen]
        clear hen q0 q1 q2 q3 q4 q5 q6 q7 q8
        go_loopw [5, 29] (fun out i wr => ∃ j : Nat, j ≤ en ∧ i = .int .i64 j ∧ Below w2.heap.size w2 wr ∧ OfL w wr out (eachR m L0 (LQ.take j))) (fun _ i _ => en - (intOf i).toNat)
        case atStart => exact ⟨0, Nat.zero_le _, rfl, Below.refl _ _, HI2.out⟩
        case round =>
          obtain ⟨j, hj, rfl, hb2, hin⟩ := hrel
          obtain ⟨wi, rfl⟩ : ∃ wi : World, wi = wr := ⟨_, rfl⟩
          obtain ⟨A5, n5, c5, rfl⟩ := hin.slice
          have HI5 := Lib.hid hin
          have HN5 := Lib.hid hin.len
          have HB2 := Lib.hid hb2
          have h5m := HEL.out (LQ.take j)
          clear hin hb2
          by_cases hjl : j < en
          · obtain ⟨⟨dt, dA, dc, dl⟩, hd⟩ : ∃ d, es[j]? = some d := ⟨_, List.getElem?_eq_getElem (by have := HEN.out; omega)⟩
            have hpd := pure_get hd
            rw [HP2.out] at hpd
            obtain ⟨b2, off2, rfl, hb2, k0, k1, k2, hI⟩ := defs_cells HD2.out HB2.out hd
            have HID := Lib.hid hI
            have HZ := Lib.hid (show eachR m L0 (LQ.take (j + 1)) = addM m (eachR m L0 (LQ.take j)) dt dl from fold_snoc (fun (L : List (Int × List Int)) (d : Int × List Int) => addM m L d.1 d.2) L0 LQ j (dt, dl) hpd)
            have hdl : dl.length ≤ 3 := (HOS.out.1 (dt, dl) (List.mem_of_getElem? hpd)).2.1
            obtain ⟨LJ, hLJ⟩ : ∃ LJ, LJ = eachR m L0 (LQ.take j) := ⟨_, rfl⟩
            rw [← hLJ] at HI5 HN5 HZ h5m
            have hn5 : n5 ≤ 16 := by have := HN5.out; omega
            have hb2i : b2 < wi.heap.size := Nat.lt_of_lt_of_le hb2 HB2.out.size
            have HBI := Lib.hid (HB2.out.trans ((below1 wi (.cells #[.int .i64 dt, .slice dA dl.length dc, .bool false] 36)).mono HB2.out.size))
            have HI6 := Lib.hid (HI5.out.call (below1 wi (.cells #[.int .i64 dt, .slice dA dl.length dc, .bool false] 36)))
            clear hd hpd hI hLJ
            by_cases hlm : n5 < m
            · have HZ2 := Lib.hid (show eachR m L0 (LQ.take (j + 1)) = addR LJ dt dl by rw [HZ.out]; unfold addM; rw [if_pos (by rw [← HN5.out]; exact hlm)])
              have HAD := Lib.hid (show Calls Try.prog 18 #[.slice A5 n5 c5, .int .i64 dt, .slice dA dl.length dc] (wi.alloc (.cells #[.int .i64 dt, .slice dA dl.length dc, .bool false] 36)) (RetL w (wi.alloc (.cells #[.int .i64 dt, .slice dA dl.length dc, .bool false] 36)) (addR LJ dt dl)) from
                add_on HI6.out (by omega) (HID.out.keep (below1 wi _)) rfl (by omega))
              go_wp2_with (first
                | (go_at_call 18; (with_reducible refine HAD.out.mono ?_); rintro e w7 ⟨A9, n9, c9, rfl, hL9, hB9⟩; have HL9 := Lib.hid hL9; have HB9 := Lib.hid (HBI.out.trans (hB9.mono HBI.out.size)); clear hL9 hB9)
                | fail)
              go_roundw
              case rel => exact ⟨j + 1, by omega, by go_num, HB9.out, by rw [HZ2.out]; exact HL9.out⟩
              case measure => simp [intOf] <;> omega
            · have HZ2 := Lib.hid (show eachR m L0 (LQ.take (j + 1)) = LJ by rw [HZ.out]; unfold addM; rw [if_neg (by rw [← HN5.out]; exact hlm)])
              go_wp2_with fail
              go_roundw
              case rel => exact ⟨j + 1, by omega, by go_num, HBI.out, by rw [HZ2.out]; exact HI6.out⟩
              case measure => simp [intOf] <;> omega
          · have hall : LQ.take j = LQ := by
              have e : LQ.length = en := by rw [← HP2.out, HEN.out]; simp [pureD]
              exact List.take_of_length_le (by omega)
            rw [hall] at HI5
            go_wp2_with fail
            go_roundw
            case rel => exact ⟨k + 1, by omega, by go_num, by rw [HNX.out]; exact HI5.out⟩
            case measure => simp [intOf] <;> omega
    · have HLL := Lib.hid (show L0 = Lb by rw [HL0.out, HLB.out, List.take_of_length_le (by omega)]; rfl)
      rw [HLL.out] at HI
      have HN0 := Lib.hid HI.out.len
      have hn0 : n0 ≤ 16 := by have := HI.out.len; have := HLE.out; omega
      obtain ⟨_, bs, A1, c1, hv, hpb, hdb⟩ := HI.out
      cases hv
      have HPB := Lib.hid hpb
      have HDB := Lib.hid hdb
      obtain ⟨bn, hbn⟩ : ∃ bn, bn = bs.length := ⟨_, rfl⟩
      have HBN := Lib.hid hbn
      rw [← hbn] at hn0 HI ⊢
      have HCR := Lib.hid (show ∀ l L, L.length ≤ m → (∀ a ∈ l, a ∈ Lb) → Sound L → (l.foldl (rowR m Lb) L).length ≤ m from fun l L h1 h2 h3 => (cross_all m Lb l L h1 h3 (fun a ha => HSB.out.1 a (h2 a ha))).1)
      clear hpb hdb hbn HN0
      go_wp2_with fail
      go_loopw [5, 48] (fun out i wr => ∃ k : Nat, k ≤ bn ∧ i = .int .i64 k ∧ Below wo.heap.size wo wr ∧ OfL w wr out ((Lb.take k).foldl (rowR m Lb) Lb)) (fun _ i _ => bn - (intOf i).toNat)
      case atStart => exact ⟨0, Nat.zero_le _, rfl, Below.refl _ _, HI.out⟩
      case round =>
        obtain ⟨k3, hk3, rfl, hb3, hin⟩ := hrel
        obtain ⟨wr3, rfl⟩ : ∃ wi : World, wi = wr := ⟨_, rfl⟩
        obtain ⟨A5, n5, c5, rfl⟩ := hin.slice
        have HI5 := Lib.hid hin
        have HB3 := Lib.hid hb3
        have h5m := HCR.out (Lb.take k3) Lb HLE.out (fun a ha => List.mem_of_mem_take ha) HSB.out
        obtain ⟨L3, hL3⟩ : ∃ L3, L3 = (Lb.take k3).foldl (rowR m Lb) Lb := ⟨_, rfl⟩
        rw [← hL3] at HI5 h5m
        have HL3 := Lib.hid hL3
        clear hin hb3 hL3
        by_cases hk3l : k3 < bn
        · obtain ⟨⟨at', aA, ac, al⟩, hd⟩ : ∃ d, bs[k3]? = some d := ⟨_, List.getElem?_eq_getElem (by have := HBN.out; omega)⟩
          have hpd := pure_get hd
          rw [HPB.out] at hpd
          obtain ⟨ba, offa, rfl, hba, k0, k1, k2, hIa⟩ := defs_cells HDB.out HB3.out hd
          have HIA := Lib.hid hIa
          have HZ3 := Lib.hid (show (Lb.take (k3 + 1)).foldl (rowR m Lb) Lb = rowR m Lb L3 (at', al) by rw [fold_snoc _ _ _ _ _ hpd, HL3.out])
          have hal : al.length ≤ 3 := (HSB.out.1 (at', al) (List.mem_of_getElem? hpd)).2.1
          have hbai : ba < wr3.heap.size := Nat.lt_of_lt_of_le hba HB3.out.size
          have HBA := Lib.hid (HB3.out.trans ((below1 wr3 (.cells #[.int .i64 at', .slice aA al.length ac, .bool false] 36)).mono HB3.out.size))
          have HIA1 := Lib.hid (HIA.out.keep (below1 wr3 (.cells #[.int .i64 at', .slice aA al.length ac, .bool false] 36)))
          have HI6 := Lib.hid (HI5.out.call (below1 wr3 (.cells #[.int .i64 at', .slice aA al.length ac, .bool false] 36)))
          have HBXA := Lib.hid (show BoxD (wr3.alloc (.cells #[.int .i64 at', .slice aA al.length ac, .bool false] 36)) wr3.heap.size at' aA al.length ac from heap_alloc_new _ _)
          have HRW := Lib.hid (show ∀ l, (l.foldl (fun L b => mergeR m L (at', al) b) L3).length ≤ m from fun l => rowR_le m l h5m (at', al))
          clear hd hpd hIa
          go_wp2_with fail
          obtain ⟨wa, hwa⟩ : ∃ wa, wa = wr3.alloc (.cells #[.int .i64 at', .slice aA al.length ac, .bool false] 36) := ⟨_, rfl⟩
          rw [← hwa] at HBA HIA1 HI6 HBXA ⊢
          clear hwa k0 k1 k2
          go_loopw [5, 54] (fun out i wr => ∃ j : Nat, j ≤ bn ∧ i = .int .i64 j ∧ Below wa.heap.size wa wr ∧ OfL w wr out ((Lb.take j).foldl (fun L b => mergeR m L (at', al) b) L3)) (fun _ i _ => bn - (intOf i).toNat)
          case atStart => exact ⟨0, Nat.zero_le _, rfl, Below.refl _ _, HI6.out⟩
          case round =>
            obtain ⟨j, hj, rfl, hb4, hin⟩ := hrel
            obtain ⟨wi, rfl⟩ : ∃ wi : World, wi = wr := ⟨_, rfl⟩
            obtain ⟨A7, n7, c7, rfl⟩ := hin.slice
            have HI7 := Lib.hid hin
            have HN7 := Lib.hid hin.len
            have HB4 := Lib.hid hb4
            have h7m := HRW.out (Lb.take j)
            obtain ⟨LJ, hLJ⟩ : ∃ LJ, LJ = (Lb.take j).foldl (fun L b => mergeR m L (at', al) b) L3 := ⟨_, rfl⟩
            rw [← hLJ] at HI7 HN7 h7m
            have HLJ := Lib.hid hLJ
            clear hin hb4 hLJ
            by_cases hjl : j < bn
            · obtain ⟨⟨bt, bA, bc, bl⟩, hd⟩ : ∃ d, bs[j]? = some d := ⟨_, List.getElem?_eq_getElem (by have := HBN.out; omega)⟩
              have hpd := pure_get hd
              rw [HPB.out] at hpd
              obtain ⟨bb, offb, hAA, hbb, m0, m1, m2, hIb⟩ := defs_cells HDB.out (HBA.out.trans (HB4.out.mono HBA.out.size)) hd
              cases hAA
              have HIB := Lib.hid hIb
              have HZ := Lib.hid (show (Lb.take (j + 1)).foldl (fun L b => mergeR m L (at', al) b) L3 = mergeR m LJ (at', al) (bt, bl) by rw [fold_snoc _ _ _ _ _ hpd, HLJ.out])
              have hbl3 : bl.length ≤ 3 := (HSB.out.1 (bt, bl) (List.mem_of_getElem? hpd)).2.1
              have hn7 : n7 ≤ 16 := by have := HN7.out; omega
              have hbi : ba < wi.heap.size := Nat.lt_of_lt_of_le hbb (HBA.out.trans (HB4.out.mono HBA.out.size)).size
              have HBB := Lib.hid (HB4.out.trans ((below1 wi (.cells #[.int .i64 bt, .slice bA bl.length bc, .bool false] 36)).mono HB4.out.size))
              have HI8 := Lib.hid (HI7.out.call (below1 wi (.cells #[.int .i64 bt, .slice bA bl.length bc, .bool false] 36)))
              have HIB1 := Lib.hid (HIB.out.keep (below1 wi (.cells #[.int .i64 bt, .slice bA bl.length bc, .bool false] 36)))
              have HIA2 := Lib.hid (HIA1.out.keep HBB.out)
              obtain ⟨x0, x1, x2⟩ := (HBXA.out.keep HBB.out).cells
              obtain ⟨y0, y1, y2⟩ := (show BoxD (wi.alloc (.cells #[.int .i64 bt, .slice bA bl.length bc, .bool false] 36)) wi.heap.size bt bA bl.length bc from heap_alloc_new _ _).cells
              have hlx := heap_lt (HBXA.out.keep HBB.out)
              clear hd hpd hIb
              by_cases htt : at' = bt
              · subst htt
                have HMY := Lib.hid (merge_yes ⟨at', aA, ac, al⟩ ⟨at', bA, bc, bl⟩ (wi.alloc (.cells #[.int .i64 at', .slice bA bl.length bc, .bool false] 36)) rfl HIA2.out HIB1.out (by show al.length ≤ 100; omega) (by show bl.length ≤ 100; omega))
                obtain ⟨Z, hZ⟩ : ∃ Z, Z = (behR al bl).take 3 := ⟨_, rfl⟩
                have HMG := Lib.hid (show mergeR m LJ (at', al) (at', bl) = addM m LJ at' Z by unfold mergeR; rw [if_pos rfl, hZ])
                have hZ3 : Z.length ≤ 3 := by rw [hZ, List.length_take]; omega
                have HMY2 := Lib.hid (show Calls Try.prog 30 #[.agg #[.int .i64 at', .slice aA al.length ac, .bool false], .agg #[.int .i64 at', .slice bA bl.length bc, .bool false]] (wi.alloc (.cells #[.int .i64 at', .slice bA bl.length bc, .bool false] 36)) (fun e w' => ∃ A n c, e = .returned (.tuple #[.agg #[.int .i64 at', .slice A n c, .bool false], .bool true]) ∧ n = Z.length ∧ Ints w' A c Z ∧ Below (wi.alloc (.cells #[.int .i64 at', .slice bA bl.length bc, .bool false] 36)).heap.size (wi.alloc (.cells #[.int .i64 at', .slice bA bl.length bc, .bool false] 36)) w') from HMY.out.mono fun e w' ⟨A, c, g1, g2, g3⟩ => by
                  rw [hZ]; exact ⟨A, _, c, g1, rfl, g2, g3⟩)
                clear hZ
                by_cases hlm : n7 < m
                · have HZ2 := Lib.hid (show (Lb.take (j + 1)).foldl (fun L b => mergeR m L (at', al) b) L3 = addR LJ at' Z by rw [HZ.out, HMG.out]; unfold addM; rw [if_pos (by rw [← HN7.out]; exact hlm)])
                  have HAD := Lib.hid (fun (W : World) (A9 : Option Addr) (n9 c9 : Nat) (hB : Below wi.heap.size wi W) (h1 : n9 = Z.length) (h2 : Ints W A9 c9 Z) => show Calls Try.prog 18 #[.slice A7 n7 c7, .int .i64 at', .slice A9 n9 c9] W (RetL w W (addR LJ at' Z)) from
                    add_on (HI7.out.call hB) (by omega) h2 h1 (by omega))
                  go_wp2_with (first
                    | (go_at_call 30; (with_reducible refine HMY2.out.mono ?_); rintro e w8 ⟨A9, n9, c9, rfl, hn9, hI9, hB9⟩; have HN9 := Lib.hid hn9; have HI9 := Lib.hid (hI9.keep (below1 w8 (.cells #[.int .i64 at', .slice A9 n9 c9, .bool false] 36))); have hwi8 : Below wi.heap.size wi w8 := ((below1 wi (.cells #[.int .i64 at', .slice bA bl.length bc, .bool false] 36)).trans (hB9.mono (below1 wi (.cells #[.int .i64 at', .slice bA bl.length bc, .bool false] 36)).size)); have HB9 := Lib.hid (hwi8.trans ((below1 w8 (.cells #[.int .i64 at', .slice A9 n9 c9, .bool false] 36)).mono hwi8.size)); clear hn9 hI9 hB9 hwi8)
                    | (go_at_call 18; (with_reducible refine (HAD.out _ _ _ _ HB9.out HN9.out HI9.out).mono ?_); rintro e w9 ⟨A10, n10, c10, rfl, hL10, hB10⟩; have HL10 := Lib.hid hL10; have HB10 := Lib.hid (HB4.out.trans ((HB9.out.trans (hB10.mono HB9.out.size)).mono HB4.out.size)); clear hL10 hB10)
                    | fail)
                  go_roundw
                  case rel => exact ⟨j + 1, by omega, by go_num, HB10.out, by rw [HZ2.out]; exact HL10.out⟩
                  case measure => simp [intOf] <;> omega
                · have HZ2 := Lib.hid (show (Lb.take (j + 1)).foldl (fun L b => mergeR m L (at', al) b) L3 = LJ by rw [HZ.out, HMG.out]; unfold addM; rw [if_neg (by rw [← HN7.out]; exact hlm)])
                  go_wp2_with (first
                    | (go_at_call 30; (with_reducible refine HMY2.out.mono ?_); rintro e w8 ⟨A9, n9, c9, rfl, hn9, hI9, hB9⟩; have hwi8 : Below wi.heap.size wi w8 := ((below1 wi (.cells #[.int .i64 at', .slice bA bl.length bc, .bool false] 36)).trans (hB9.mono (below1 wi (.cells #[.int .i64 at', .slice bA bl.length bc, .bool false] 36)).size)); have HB9 := Lib.hid (hwi8.trans ((below1 w8 (.cells #[.int .i64 at', .slice A9 n9 c9, .bool false] 36)).mono hwi8.size)); clear hn9 hI9 hB9 hwi8)
                    | fail)
                  go_roundw
                  case rel => exact ⟨j + 1, by omega, by go_num, HB4.out.trans (HB9.out.mono HB4.out.size), by rw [HZ2.out]; exact HI7.out.call HB9.out⟩
                  case measure => simp [intOf] <;> omega
              · have HMN := Lib.hid (merge_no ⟨at', aA, ac, al⟩ ⟨bt, bA, bc, bl⟩ (wi.alloc (.cells #[.int .i64 bt, .slice bA bl.length bc, .bool false] 36)) htt)
                have HMN2 := Lib.hid (show Calls Try.prog 30 #[.agg #[.int .i64 at', .slice aA al.length ac, .bool false], .agg #[.int .i64 bt, .slice bA bl.length bc, .bool false]] (wi.alloc (.cells #[.int .i64 bt, .slice bA bl.length bc, .bool false] 36)) (MergeNo (wi.alloc (.cells #[.int .i64 bt, .slice bA bl.length bc, .bool false] 36))) from HMN.out)
                have HZ2 := Lib.hid (show (Lb.take (j + 1)).foldl (fun L b => mergeR m L (at', al) b) L3 = LJ by rw [HZ.out]; unfold mergeR; rw [if_neg htt])
                clear htt
                go_wp2_with (first
                  | (go_at_call 30; (with_reducible refine HMN2.out.mono ?_); rintro e w8 ⟨rfl, hB9⟩; have hwi8 : Below wi.heap.size wi w8 := ((below1 wi (.cells #[.int .i64 bt, .slice bA bl.length bc, .bool false] 36)).trans (hB9.mono (below1 wi (.cells #[.int .i64 bt, .slice bA bl.length bc, .bool false] 36)).size)); have HB9 := Lib.hid (hwi8.trans ((below1 w8 (.cells #[.int .i64 0, .slice none 0 0, .bool false] 36)).mono hwi8.size)); clear hB9 hwi8)
                  | fail)
                go_roundw
                case rel => exact ⟨j + 1, by omega, by go_num, HB4.out.trans (HB9.out.mono HB4.out.size), by rw [HZ2.out]; exact HI7.out.call HB9.out⟩
                case measure => simp [intOf] <;> omega
            · have hall : Lb.take j = Lb := by
                have e : Lb.length = bn := by rw [← HPB.out, HBN.out]; simp [pureD]
                exact List.take_of_length_le (by omega)
              have HIE := Lib.hid (show OfL w wi (.slice A7 n7 c7) (rowR m Lb L3 (at', al)) by have h := HI7.out; rw [HLJ.out, hall] at h; exact h)
              go_wp2_with fail
              go_roundw
              case rel => exact ⟨k3 + 1, by omega, by go_num, HBA.out.trans (HB4.out.mono HBA.out.size), by rw [HZ3.out]; exact HIE.out⟩
              case measure => simp [intOf] <;> omega
        · have hall : Lb.take k3 = Lb := by
            have e : Lb.length = bn := by rw [← HPB.out, HBN.out]; simp [pureD]
            exact List.take_of_length_le (by omega)
          have HIE := Lib.hid (show OfL w wr3 (.slice A5 n5 c5) R by have h := HI5.out; rw [HL3.out, hall, ← HFIN.out] at h; exact h)
          go_wp2_with fail
          go_ret
          obtain ⟨hbe, ds, A9, c9, hv, hp, hd⟩ := HIE.out
          cases hv
          exact ⟨ds, _, _, hp, rfl, hd, hbe⟩
end Go.Proofs.Ytcnkghcdjicldaa
