/- The walks of lives and of the law. -/
import Derived.Test.YtacodkmbefhicaaGreatDoorPut
namespace Go.Proofs.YtacodkmbefhicaaGreatDoor
open Go.RowKit

theorem name_a : nameB [97] = true := by decide +kernel
theorem name_b : nameB [98] = true := by decide +kernel
theorem name_select : nameB [115, 101, 108, 101, 99, 116] = false := by decide +kernel
theorem cols_x : colsR [⟨⟨#[120]⟩, 1, false⟩] = 0 := by decide +kernel
/-- Put of a table of that one column -/
theorem put_x (m : Int) (gt : Nat → Nat) (ht : ∀ j, j < 23 → finD (Ieee.double.read (gt j)) = true) (A : Option Addr) (c : Nat) (ts : List (Tab × List Col)) (nm : ByteArray) (root : Int) (b : Nat) (w : World) (hG : Glob m gt w)
    (hD : DeepAt w A ts) (hn : ts.length ≤ 7) (hl : ∀ p ∈ ts, p.2.length ≤ 1000) (hq : w.heap[b]? = some (.cells #[.string ⟨#[120]⟩, .int .i64 1, .bool false] 25))
    (hname : nameB nm.data.toList = true) (hroot : 1 ≤ root ∧ root ≤ 1600) (hnew : ∀ p ∈ ts, sameN p.1.name nm = false) :
    Calls Tryz.prog 7 #[.agg #[.slice A ts.length c, .slice none 0 0], .agg #[.string nm, .slice (some ⟨b, 0, none⟩) 1 1, .int .i64 root, .int .i64 1, .int .i64 0]] w (PutP w ts nm) :=
  put_new m gt ht A c ts none 0 ⟨nm, some ⟨b, 0, none⟩, 1, 1, root, 1, 0⟩ [⟨⟨#[120]⟩, 1, false⟩] w hG hD hn hl
    ⟨by decide, Or.inr ⟨b, 0, rfl, heap_lt hq, fun j x hx => by
      have hj : j = 0 := by
        have := (List.getElem?_eq_some_iff.1 hx).1
        simp at this
        exact this
      subst hj
      obtain rfl : colL ⟨⟨#[120]⟩, 1, false⟩ = x := by simpa using hx
      refine ⟨rfl, fun i v hv => ?_⟩
      rw [cell_of_row _ _ _ _ _ _ hq]
      simpa [colL] using hv⟩⟩
    rfl (Nat.le_refl _) (fun h => by cases h) hname hroot (show (1 : Int) ≤ 1 by decide) (show (0 : Int) ≤ 0 by decide) cols_x (by decide) hnew
theorem put_names1 {ts' : List (Tab × List Col)} {L : List Tab} {nm : ByteArray} (h1 : L.map Tab.name = [nm]) (h2 : ts'.map Prod.fst = sortT L) : ∃ p, ts' = [p] ∧ p.1.name = nm := by
  match L, h1 with
  | [y], h1 =>
    have hs : sortT [y] = [y] := rfl
    rw [hs] at h2
    match ts', h2 with
    | [p], h2 =>
      refine ⟨p, rfl, ?_⟩
      have e : p.1 = y := by simpa using h2
      rw [e]; simpa using h1
theorem put_names2 {ts' : List (Tab × List Col)} {L : List Tab} {a b : ByteArray} (hlt : ltN a b = true) (h1 : L.map Tab.name = [b, a]) (h2 : ts'.map Prod.fst = sortT L) : ∃ p q, ts'.map Prod.fst = [p, q] ∧ p.name = a ∧ q.name = b := by
  match L, h1 with
  | [y, z], h1 =>
    have e1 : y.name = b := (List.cons.inj h1).1
    have e2 : z.name = a := (List.cons.inj (List.cons.inj h1).2).1
    have hs : sortT [y, z] = [z, y] := by
      show sinkT 1 [y, z] = [z, y]
      unfold sinkT
      dsimp only [List.getElem?_cons_zero, List.getElem?_cons_succ]
      rw [e1, e2, if_pos hlt]
      rfl
    rw [hs] at h2
    exact ⟨z, y, h2, e2, e1⟩
theorem b_not_a : sameN ⟨#[98]⟩ ⟨#[97]⟩ = false := by decide +kernel
theorem a_ahead : ltN ⟨#[97]⟩ ⟨#[98]⟩ = true := by decide +kernel
/-- the two tables in order -/
def TwoP (w : World) (e : Ending) (w' : World) : Prop := ∃ (g c : Nat) (pa pb : Tab), e = .returned (.tuple #[.agg #[.slice (some ⟨g, 0, none⟩) 2 c, .slice none 0 0], .int .i64 0]) ∧ Below w.heap.size w w' ∧ TabsAt w' (some ⟨g, 0, none⟩) [pa, pb] ∧ pa.name = ⟨#[97]⟩ ∧ pb.name = ⟨#[98]⟩
/-- the first table, and what the second Put comes to -/
def OneP (w : World) (e : Ending) (w2 : World) : Prop := ∃ (g c : Nat), e = .returned (.tuple #[.agg #[.slice (some ⟨g, 0, none⟩) 1 c, .slice none 0 0], .int .i64 0]) ∧
  Calls Tryz.prog 7 #[.agg #[.slice (some ⟨g, 0, none⟩) 1 c, .slice none 0 0], .agg #[.string ⟨#[97]⟩, .slice (some ⟨w.heap.size, 0, none⟩) 1 1, .int .i64 3, .int .i64 1, .int .i64 0]] (w2.alloc (.cells #[.slice (some ⟨g, 0, none⟩) 1 c, .slice none 0 0] 30)) (TwoP w)
theorem put_one (m : Int) (gt : Nat → Nat) (ht : ∀ j, j < 23 → finD (Ieee.double.read (gt j)) = true) (w : World) (hG : Glob m gt w) : Calls Tryz.prog 7 #[.agg #[.slice none 0 0, .slice none 0 0], .agg #[.string ⟨#[98]⟩, .slice (some ⟨w.heap.size, 0, none⟩) 1 1, .int .i64 2, .int .i64 1, .int .i64 0]] (w.alloc (.cells #[.string ⟨#[120]⟩, .int .i64 1, .bool false] 25)) (OneP w) := by
  have hB1 : Below w.heap.size w (w.alloc (.cells #[.string ⟨#[120]⟩, .int .i64 1, .bool false] 25)) := below1 w _
  have hX1 := heap_alloc_new w (.cells #[.string ⟨#[120]⟩, .int .i64 1, .bool false] 25)
  refine (put_x m gt ht none 0 [] ⟨#[98]⟩ 2 w.heap.size _ (hG.keep hB1) ⟨CellsAt.nil_at _ _ _, fun p hp => by cases hp⟩ (by decide) (fun p hp => by cases hp) hX1 name_b (by decide) (fun p hp => by cases hp)).mono fun e w2 h => ?_
  obtain ⟨g1, c1, ts1, L1, rfl, hB2, hD2, hl2, hc2, hcl2, hn2, hs2⟩ := h
  obtain ⟨p, rfl, hpn⟩ := put_names1 hn2 hs2
  have hlt1 := heap_lt hX1
  have hB2' : Below w.heap.size w w2 := hB1.trans (hB2.mono hB1.size)
  have hB3 : Below w.heap.size w (w2.alloc (.cells #[.slice (some ⟨g1, 0, none⟩) 1 c1, .slice none 0 0] 30)) := hB2'.alloc hB2'.size _
  have hX3 : (w2.alloc (.cells #[.slice (some ⟨g1, 0, none⟩) 1 c1, .slice none 0 0] 30)).heap[w.heap.size]? = some (.cells #[.string ⟨#[120]⟩, .int .i64 1, .bool false] 25) := by
    rw [heap_alloc_old _ _ (Nat.lt_of_lt_of_le hlt1 hB2.size)]
    exact (hB2.block _ hlt1).trans hX1
  refine ⟨g1, c1, rfl, ?_⟩
  refine (put_x m gt ht (some ⟨g1, 0, none⟩) c1 [p] ⟨#[97]⟩ 3 w.heap.size _ (hG.keep hB3) (DeepAt.keep (below1 w2 _) hD2) (show 1 ≤ 7 by decide) hcl2 hX3 name_a (by decide) (fun q hq => by rw [List.mem_singleton.1 hq, hpn]; exact b_not_a)).mono fun e w4 h => ?_
  obtain ⟨g2, c2, ts2, L2, rfl, hB4, hD4, hl4, hc4, hcl4, hn4, hs4⟩ := h
  obtain ⟨pa, pb, hpp, ha, hb⟩ := put_names2 (a := ⟨#[97]⟩) (b := ⟨#[98]⟩) a_ahead (by rw [hn4]; simp [hpn]) hs4
  refine ⟨g2, c2, pa, pb, rfl, hB3.trans (hB4.mono hB3.size), ?_, ha, hb⟩
  have h := hD4.1
  rwa [hpp] at h
theorem same_refl (x : ByteArray) : sameN x x = true := sameN_iff.2 rfl
theorem table_two {w : World} {g c : Nat} {pa pb : Tab} (hT : TabsAt w (some ⟨g, 0, none⟩) [pa, pb]) (ha : pa.name = ⟨#[97]⟩) (hb : pb.name = ⟨#[98]⟩) :
    (∀ W, Below w.heap.size w W → Calls Tryz.prog 8 #[.agg #[.slice (some ⟨g, 0, none⟩) 2 c, .slice none 0 0], .string ⟨#[97]⟩] W (RetV (.int .i64 0) W)) ∧ (∀ W, Below w.heap.size w W → Calls Tryz.prog 8 #[.agg #[.slice (some ⟨g, 0, none⟩) 2 c, .slice none 0 0], .string ⟨#[99]⟩] W (RetV (.int .i64 (-1)) W)) := by
  constructor
  · intro W hB
    refine (table_any (some ⟨g, 0, none⟩) c [pa, pb] none 0 0 ⟨#[97]⟩ W (CellsAt.keep hB hT)).mono fun e w' ⟨r, h1, h2, h3⟩ => ?_
    have h0 : nameAt [pa, pb] ⟨#[97]⟩ 0 = true := by
      show sameN pa.name _ = true
      rw [ha]; exact same_refl _
    rcases h2 with ⟨k, hk, rfl, hp, hq⟩ | ⟨rfl, hp⟩
    · cases k with
      | zero => exact ⟨h1, h3⟩
      | succ k => rw [hq 0 (Nat.succ_pos k)] at h0; cases h0
    · rw [hp 0 (by simp)] at h0; cases h0
  · intro W hB
    refine (table_any (some ⟨g, 0, none⟩) c [pa, pb] none 0 0 ⟨#[99]⟩ W (CellsAt.keep hB hT)).mono fun e w' ⟨r, h1, h2, h3⟩ => ?_
    rcases h2 with ⟨k, hk, rfl, hp, hq⟩ | ⟨rfl, hp⟩
    · exfalso
      match k, hk with
      | 0, _ =>
        have e : nameAt [pa, pb] ⟨#[99]⟩ 0 = sameN pa.name ⟨#[99]⟩ := rfl
        rw [e, ha] at hp
        exact absurd hp (by decide +kernel)
      | 1, _ =>
        have e : nameAt [pa, pb] ⟨#[99]⟩ 1 = sameN pb.name ⟨#[99]⟩ := rfl
        rw [e, hb] at hp
        exact absurd hp (by decide +kernel)
    · exact ⟨h1, h3⟩
set_option maxRecDepth 100000 in
set_option maxHeartbeats 8000000 in
theorem lives_any (m : Int) (gt : Nat → Nat) (ht : ∀ j, j < 23 → finD (Ieee.double.read (gt j)) = true) (w : World) (hG : Glob m gt w) : Calls Tryz.prog 4 #[] w (RetT w) := by
  have HG := Lib.hid hG
  have HNM := Lib.hid (show ∀ W, Glob m gt W → Calls Tryz.prog 5 #[.string ⟨#[97]⟩] W (RetV (.bool true) W) from fun W g => name_a ▸ name_any m gt ht ⟨#[97]⟩ W g)
  have HNS := Lib.hid (show ∀ W, Glob m gt W → Calls Tryz.prog 5 #[.string ⟨#[115, 101, 108, 101, 99, 116]⟩] W (RetV (.bool false) W) from fun W g => name_select ▸ name_any m gt ht ⟨#[115, 101, 108, 101, 99, 116]⟩ W g)
  have HP1 := Lib.hid (put_one m gt ht w hG)
  clear hG ht
  go_enter Tryz.func4, Tryz.ntmps4
  go_wp2_with (first
    | (go_at_call 7; (with_reducible refine HP1.out.mono ?_); rintro e w2 ⟨g1, c1, rfl, hp2⟩; have HP2 := Lib.hid hp2; clear hp2)
    | (go_at_call 7; (with_reducible refine HP2.out.mono ?_); rintro e w4 ⟨g2, c2, pa, pb, rfl, hB4, hT, ha, hb⟩
       have HB4 := Lib.hid hB4
       obtain ⟨hta, htc⟩ := table_two (c := c2) hT ha hb
       have HTA := Lib.hid hta
       have HTC := Lib.hid htc
       have HA4 := Lib.hid (below1 w4 (.cells #[.slice (some ⟨g2, 0, none⟩) 2 c2, .slice none 0 0] 30))
       have HQ4 := Lib.hid (heap_alloc_new w4 (.cells #[.slice (some ⟨g2, 0, none⟩) 2 c2, .slice none 0 0] 30))
       clear hB4 hT ha hb hta htc)
    | (go_at_call 8; (with_reducible refine (HTA.out _ HA4.out).mono ?_); rintro e w5 ⟨rfl, hB5⟩
       have HA5 := Lib.hid (HA4.out.trans (hB5.mono HA4.out.size))
       have hq5 := (hB5.block w4.heap.size (by simp)).trans HQ4.out
       have HQ5 := Lib.hid hq5
       have t0 := cell_of_row _ _ 0 _ _ _ hq5
       have t1 := cell_of_row _ _ 1 _ _ _ hq5
       clear hB5 hq5)
    | (go_at_call 8; (with_reducible refine (HTC.out _ HA5.out).mono ?_); rintro e w6 ⟨rfl, hB6⟩
       have HB6 := Lib.hid (HB4.out.trans ((HA5.out.trans (hB6.mono HA5.out.size)).mono HB4.out.size))
       clear hB6)
    | (go_at_call 5; (with_reducible refine (HNM.out _ (HG.out.keep HB6.out)).mono ?_); rintro e w7 ⟨rfl, hB7⟩
       have HB7 := Lib.hid (HB6.out.trans (hB7.mono HB6.out.size))
       clear hB7)
    | (go_at_call 5; (with_reducible refine (HNS.out _ (HG.out.keep HB7.out)).mono ?_); rintro e w8 ⟨rfl, hB8⟩
       have HB8 := Lib.hid (HB7.out.trans (hB8.mono HB7.out.size))
       clear hB8)
    | fail)
  go_ret
  exact ⟨rfl, HB8.out⟩
/-- the law -/
theorem law_any (m : Int) (gt : Nat → Nat) (ht : ∀ j, j < 23 → finD (Ieee.double.read (gt j)) = true) (s : ByteArray) (w : World) (hG : Glob m gt w) : Calls Tryz.prog 3 #[.string s] w (RetT w) := by
  have HG := Lib.hid hG
  have HLV := Lib.hid (fun W g => lives_any m gt ht W g)
  have HNA := Lib.hid (fun W g => name_any m gt ht s W g)
  have HRN := Lib.hid (fun W g => rname_any m gt ht s W g)
  generalize nameB s.data.toList = b at HNA HRN
  clear hG ht
  by_cases hs : s.size ≤ 100
  · have hs' : ((100 : Int) < (s.size : Int)) = False := eq_false (by omega)
    clear hs
    go_enter Tryz.func3, Tryz.ntmps3
    go_wp2_with (first
      | (go_at_call 4; (with_reducible refine (HLV.out _ HG.out).mono ?_); rintro e w2 ⟨rfl, hB2⟩; have HB2 := Lib.hid hB2; clear hB2)
      | (go_at_call 5; (with_reducible refine (HNA.out _ (HG.out.keep HB2.out)).mono ?_); rintro e w3 ⟨rfl, hB3⟩; have HB3 := Lib.hid (HB2.out.trans (hB3.mono HB2.out.size)); clear hB3)
      | (go_at_call 6; (with_reducible refine (HRN.out _ (HG.out.keep HB3.out)).mono ?_); rintro e w4 ⟨rfl, hB4⟩; have HB4 := Lib.hid (HB3.out.trans (hB4.mono HB3.out.size)); clear hB4)
      | fail)
    go_ret
    exact ⟨ret_b (by cases b <;> rfl), HB4.out⟩
  · have hs' : ((100 : Int) < (s.size : Int)) = True := eq_true (by omega)
    clear hs
    go_enter Tryz.func3, Tryz.ntmps3
    go_wp2_with (first
      | (go_at_call 4; first
        | ((with_reducible refine (HLV.out _ (HG.out.keep HB2.out)).mono ?_); rintro e w3 ⟨rfl, hB3⟩; have HB3 := Lib.hid (HB2.out.trans (hB3.mono HB2.out.size)); clear hB3)
        | ((with_reducible refine (HLV.out _ HG.out).mono ?_); rintro e w2 ⟨rfl, hB2⟩; have HB2 := Lib.hid hB2; clear hB2))
      | fail)
    go_ret
    exact ⟨rfl, HB3.out⟩
end Go.Proofs.YtacodkmbefhicaaGreatDoor
