/- The walk of the case's problem: a price for each set. -/
import Derived.Test.YteckfakabaiipaaDoorRefSeed
import Derived.Deep.RegionLaw
namespace Go.Proofs.YteckfakabaiipaaDoor
open Go.RowKit

/-- the call returns the problem -/
def RetProb (a : Option Addr) (n c : Nat) (budget : Int) (P : Nat → Int) (w : World) (e : Ending) (w' : World) : Prop := ∃ pb cap, e = .returned (probV a n c pb (2 ^ n) cap budget) ∧ PriceRow w' pb n P ∧ Below w.heap.size w w'
/-- the prices that were put so far -/
def pricesV (P : Nat → Int) (j : Nat) : List Value := (List.range j).map fun (s : Nat) => .int .i64 (P s)
theorem pricesV_succ (P : Nat → Int) (j : Nat) : pricesV P (j + 1) = pricesV P j ++ [.int .i64 (P j)] := by unfold pricesV; rw [List.range_succ, List.map_append]; rfl
def Made (w wr : World) (sl so st : Value) (budget m k base : Int) (A : Option Addr) (j cap : Nat) (P : Nat → Int) : Prop :=
  CaseKept w wr sl so st budget m k base ∧ wr.heap[w.heap.size + 1]? = some (.cells #[.slice none 0 0, .int .i64 0, .slice none 0 0] 37 (0, 0)) ∧
  wr.heap[w.heap.size + 2]? = some (.cells #[sl, .int .i64 budget, .slice A j cap] 37 (0, 0)) ∧ wr.ownsRow (w.heap.size + 3) 2 1 (.slice A j cap) j (pricesV P j) ∧ w.heap.size + 3 ≤ wr.heap.size
theorem CaseKept.far {w w' w2 : World} {sl so st : Value} {budget m k base : Int} {B : Nat} (h : CaseKept w w' sl so st budget m k base) (hB : Below B w' w2) (hw : w.heap.size < B) (hs : w.heap.size < w2.heap.size) : CaseKept w w2 sl so st budget m k base := by
  obtain ⟨e0, e1, e2, e3, e4, e5, e6, l0, hb⟩ := h
  have hl : ∀ o, w2.cell? ⟨w.heap.size, o, none⟩ = w'.cell? ⟨w.heap.size, o, none⟩ := fun o => hB.cell (p := ⟨w.heap.size, o, none⟩) hw
  exact ⟨(hl _).trans e0, (hl _).trans e1, (hl _).trans e2, (hl _).trans e3, (hl _).trans e4, (hl _).trans e5, (hl _).trans e6, hs, hb.trans (hB.mono (by omega))⟩
theorem Made.step {w wr W : World} {sl so st : Value} {budget m k base : Int} {A A' : Option Addr} {j cap cap' : Nat} {P : Nat → Int} (h : Made w wr sl so st budget m k base A j cap P)
    (hB : Below (w.heap.size + 3) wr W) (hown : W.ownsRow (w.heap.size + 3) 2 1 (.slice A' (j + 1) cap') (j + 1) (pricesV P (j + 1))) :
    Made w (W.setCell ⟨w.heap.size + 2, 2, none⟩ (.slice A' (j + 1) cap')) sl so st budget m k base A' (j + 1) cap' P := by
  obtain ⟨hc, h1, h2, _, h4⟩ := h
  have hz := hB.size
  have hS : Below (w.heap.size + 2) W (W.setCell ⟨w.heap.size + 2, 2, none⟩ (.slice A' (j + 1) cap')) := (Below.refl _ _).setCell (p := ⟨w.heap.size + 2, 2, none⟩) (Nat.le_refl _) _
  have hb2 := (hB.block (w.heap.size + 2) (by omega)).trans h2
  refine ⟨?_, ((hS.block _ (by omega)).trans (hB.block _ (by omega))).trans h1, ?_, ?_, by simpa using (by omega : w.heap.size + 3 ≤ W.heap.size)⟩
  · obtain ⟨e0, e1, e2, e3, e4, e5, e6, l0, hbb⟩ := hc
    have hl : ∀ o, (W.setCell ⟨w.heap.size + 2, 2, none⟩ (.slice A' (j + 1) cap')).cell? ⟨w.heap.size, o, none⟩ = wr.cell? ⟨w.heap.size, o, none⟩ := fun o =>
      (hS.cell (p := ⟨w.heap.size, o, none⟩) (by show w.heap.size < w.heap.size + 2; omega)).trans (hB.cell (p := ⟨w.heap.size, o, none⟩) (by show w.heap.size < w.heap.size + 3; omega))
    exact ⟨(hl _).trans e0, (hl _).trans e1, (hl _).trans e2, (hl _).trans e3, (hl _).trans e4, (hl _).trans e5, (hl _).trans e6, by simp; omega, hbb.trans ((hB.mono (by omega)).trans (hS.mono (by omega)))⟩
  · simp [World.setCell, Array.getElem?_modify, hb2]
  · obtain ⟨g1, g2⟩ := hown
    refine ⟨g1, g2.imp id fun ⟨g, cap2, cur, a1, a2, a3, a4⟩ => ⟨g, cap2, cur, a1, a2, ?_, a4⟩⟩
    rw [← a3]
    exact Below.heap_setCell W ⟨w.heap.size + 2, 2, none⟩ _ g (fun e => by have e' : g = w.heap.size + 2 := e; omega)
theorem Made.row {w wr : World} {sl so st : Value} {budget m k base : Int} {A : Option Addr} {j cap : Nat} {P : Nat → Int} (h : Made w wr sl so st budget m k base A j cap P) (hj : 0 < j) :
    ∃ pb, A = some ⟨pb, 0, none⟩ ∧ ∀ s, s < j → wr.cell? ⟨pb, s, none⟩ = some (.int .i64 (P s)) := by
  obtain ⟨_, _, _, hown, _⟩ := h
  rcases hown.2 with ⟨_, h0⟩ | ⟨g, cap2, cur, hv, _⟩
  · omega
  · injection hv with a1 a2 a3
    subst a1 a3
    refine ⟨g, rfl, fun s hs => ?_⟩
    rw [World.ownsRow.cellAt hown s (by omega)]
    unfold pricesV
    rw [List.getElem?_map, List.getElem?_range hs]; rfl

theorem Made.start (w : World) (sl so st : Value) (budget m k base : Int) (P : Nat → Int) :
    Made w (((w.alloc (.cells #[sl, .int .i64 budget, .int .i64 m, .int .i64 k, .int .i64 base, so, st] 25)).alloc (.cells #[.slice none 0 0, .int .i64 0, .slice none 0 0] 37)).alloc (.cells #[sl, .int .i64 budget, .slice none 0 0] 37)) sl so st budget m k base none 0 0 P := by
  have h0 := CaseKept.start w sl so st budget m k base
  have q1 := heap_alloc_new (w.alloc (.cells #[sl, .int .i64 budget, .int .i64 m, .int .i64 k, .int .i64 base, so, st] 25)) (.cells #[.slice none 0 0, .int .i64 0, .slice none 0 0] 37)
  have q2 := heap_alloc_new ((w.alloc (.cells #[sl, .int .i64 budget, .int .i64 m, .int .i64 k, .int .i64 base, so, st] 25)).alloc (.cells #[.slice none 0 0, .int .i64 0, .slice none 0 0] 37)) (.cells #[sl, .int .i64 budget, .slice none 0 0] 37)
  have hs1 := World.size_alloc w (.cells #[sl, .int .i64 budget, .int .i64 m, .int .i64 k, .int .i64 base, so, st] 25)
  have hs2 := World.size_alloc (w.alloc (.cells #[sl, .int .i64 budget, .int .i64 m, .int .i64 k, .int .i64 base, so, st] 25)) (.cells #[.slice none 0 0, .int .i64 0, .slice none 0 0] 37)
  generalize w.alloc (.cells #[sl, .int .i64 budget, .int .i64 m, .int .i64 k, .int .i64 base, so, st] 25) = wa at *
  rw [hs1] at hs2 q1
  have hb1 : Below wa.heap.size wa (wa.alloc (.cells #[.slice none 0 0, .int .i64 0, .slice none 0 0] 37)) := (Below.refl _ _).alloc (Nat.le_refl _) _
  generalize wa.alloc (.cells #[.slice none 0 0, .int .i64 0, .slice none 0 0] 37) = wb at *
  have hb2 : Below wb.heap.size wb (wb.alloc (.cells #[sl, .int .i64 budget, .slice none 0 0] 37)) := (Below.refl _ _).alloc (Nat.le_refl _) _
  rw [hs2] at q2
  exact ⟨(h0.call hb1).call hb2, (hb2.block _ (by omega)).trans q1, q2, ⟨rfl, .inl ⟨rfl, rfl⟩⟩, by rw [World.size_alloc]; omega⟩

set_option maxRecDepth 100000 in
set_option maxHeartbeats 4000000 in
theorem problem_any (a ao at2 : Option Addr) (n c no co nt ct : Nat) (budget m k base : Int) (off two : List Int) (w : World) (hn10 : n ≤ 10) (hno : no ≤ 20) (hnt : nt ≤ 20)
    (ho : ShortsAt w ao no off) (ht : ShortsAt w at2 nt two) :
    Calls Tryd.prog 14 #[caseV a ao at2 n c no co nt ct budget m k base] w (RetProb a n c budget (fun s => priceA base off two s n) w) := by
  have CP := Lib.hid (fun s W (h1 : s < 65536) (h2 : Below w.heap.size w W) => price_case a ao at2 n c no co nt ct budget m k base off two s W hn10 hno hnt h1 (ho.keep h2 (Nat.le_refl _)) (ht.keep h2 (Nat.le_refl _)))
  have hpow : 2 ^ n ≤ 1024 := Nat.pow_le_pow_right (n := 2) (by omega) hn10
  have hw64 : wrap64 (2 ^ n) = ((2 ^ n : Nat) : Int) := by
    have e : (2 : Int) ^ n = ((2 ^ n : Nat) : Int) := by simp
    rw [e]
    generalize 2 ^ n = q at hpow
    exact IntWalk.wrap64_in _ ⟨by omega, by omega⟩
  have KK := CaseKept.start w (.slice a n c) (.slice ao no co) (.slice at2 nt ct) budget m k base
  go_enter Tryd.func14, Tryd.ntmps14
  have KKc := KK
  obtain ⟨e0, e1, e2, e3, e4, e5, e6, l0, hbb⟩ := KKc
  go_wp2
  clear e0 e1 e2 e3 e4 e5 e6 l0 hbb
  have HM := Lib.hid (Made.start w (.slice a n c) (.slice ao no co) (.slice at2 nt ct) budget m k base (fun s => priceA base off two s n))
  go_loopw [14] (fun i wr => ∃ (j : Nat) (A : Option Addr) (cap : Nat), j ≤ 2 ^ n ∧ i = .int .i64 j ∧ Made w wr (.slice a n c) (.slice ao no co) (.slice at2 nt ct) budget m k base A j cap (fun s => priceA base off two s n)) (fun i _ => 2 ^ n - (intOf i).toNat)
  case atStart => exact ⟨0, none, 0, Nat.zero_le _, rfl, HM.out⟩
  case round =>
    clear KK
    obtain ⟨j, A, cap, hj, rfl, hM⟩ := hrel
    by_cases hlt : j < 2 ^ n
    · have hlt2 : (j : Int) < wrap64 (2 ^ n) := by rw [hw64]; omega
      have hj10 : j < 1024 := by omega
      have HLT := Lib.hid hlt
      have KK := hM.1
      have q2 := hM.2.2.1
      have HMD := Lib.hid hM
      have h3 := hM.2.2.2.2
      have e7 : wr.cell? ⟨w.heap.size + 1 + 1, 2, none⟩ = some (.slice A j cap) := by
        have h := cell_of_row wr (w.heap.size + 2) 2 _ _ _ q2
        exact h
      have f7 : wr.frozen? ⟨w.heap.size + 1 + 1, 2, none⟩ = false := frozen_of_row wr (w.heap.size + 2) 2 _ _ q2
      have hju : IntKind.u32.wrap (j : Int) = (j : Int) := by rw [IntKind.wrap_u32]; omega
      have hown := Lib.hid hM.2.2.2.1
      have KA := (KK.call (Below.refl _ wr).drew).below
      have KKc := KK
      obtain ⟨e0, e1, e2, e3, e4, e5, e6, l0, hbb⟩ := KKc
      obtain ⟨i0, hi0, hz0, hz1, hz2'⟩ := info_parts info2
      have H47 := Lib.hid (show j + 1 ≤ maxLen ∧ (j + 1) * 8 ≤ 140737488355328 by unfold maxLen; omega)
      clear hM hlt hj q2 hw64 hpow
      go_wp2_with fail
      go_region_law
        (first
          | (refine step_append _ (by rfl) (.tmp 18) (.tmp 23) 22 (by rfl) (w.heap.size + 3) 2 i0 (.int .i64 0) 8 Tryd.underlying22 hi0 hz0 hz1 hz2' (by rfl) (.slice A j cap) j (pricesV (fun s => priceA base off two s n) j) (by rfl) ?_ (w2.heap.size + 1) _ 1 1 [.int .i64 (priceA base off two j n)] (by rfl) ?_ ?_ ?_ ?_ ?_ ?_
             · exact (own_kept (w := wr.drew) hown.out hB2 (Nat.le_refl _)).alloc _
             · exact Src.new w2 _ _
             · intro u hu; obtain rfl := List.mem_singleton.1 hu; rfl
             · have := H47.out.1; omega
             · have := H47.out.2; omega
             · simp; omega
             intro v2 w3 hown2 hg2 hat2
             obtain ⟨A4, c4, rfl⟩ := owns_slice hown2
             have hB5 : Below (w.heap.size + 3) _ w3 := Below.grown (Below.refl _ _) hg2 (by simp; omega) (fun k hk => (hown.out.lt k hk).1)
             have hz5 : w.heap.size + 3 ≤ w3.heap.size := by have h := hB5.size; simp at h; omega
             have e9 : w3.cell? ⟨w.heap.size + 1 + 1, 2, none⟩ = some (.slice A j cap) := (hB5.cell (p := ⟨w.heap.size + 1 + 1, 2, none⟩) (Nat.lt_succ_self _)).trans ((World.cell?_alloc_lt w2 _ ⟨w.heap.size + 1 + 1, 2, none⟩ hz3).trans e8)
             have f9 : w3.frozen? ⟨w.heap.size + 1 + 1, 2, none⟩ = false := (hB5.frozen (p := ⟨w.heap.size + 1 + 1, 2, none⟩) (Nat.lt_succ_self _)).trans ((((Below.refl (w.heap.size + 3) w2).alloc hz2 _).frozen (p := ⟨w.heap.size + 1 + 1, 2, none⟩) (Nat.lt_succ_self _)).trans f8)
             have hB6 : Below (w.heap.size + 3) wr w3 := (((Below.refl _ wr).drew.trans (hB2.mono h3)).alloc hz2 _).trans hB5
             rw [← pricesV_succ] at hown2
             clear hat2 hg2)
          | (go_simp; go_at_call 10; (with_reducible refine Calls.mono (CP.out _ _ ?_ ?_) ?_); omega; exact KA; rintro e w2 ⟨rfl, hB2⟩
             have hz2 : w.heap.size + 3 ≤ w2.heap.size := by have := hB2.size; simp at this; omega
             have e8 : w2.cell? ⟨w.heap.size + 1 + 1, 2, none⟩ = some (.slice A j cap) := (hB2.cell (p := ⟨w.heap.size + 1 + 1, 2, none⟩) (by show w.heap.size + 1 + 1 < wr.heap.size; omega)).trans e7
             have f8 : w2.frozen? ⟨w.heap.size + 1 + 1, 2, none⟩ = false := (hB2.frozen (p := ⟨w.heap.size + 1 + 1, 2, none⟩) (by show w.heap.size + 1 + 1 < wr.heap.size; omega)).trans f7
             have hz3 : w.heap.size + 1 + 1 < w2.heap.size := by omega)
          | fail)
      all_goals
        go_wp2_with fail
        go_roundw
        case rel => exact ⟨j + 1, A4, c4, by have := HLT.out; omega, by go_num, Made.step HMD.out hB6 hown2⟩
        case measure => have := HLT.out; simp [intOf]; omega
    · obtain rfl : j = 2 ^ n := by omega
      obtain ⟨pb, rfl, hrow⟩ := hM.row (Nat.two_pow_pos n)
      have hge : ¬ ((2 ^ n : Nat) : Int) < wrap64 (2 ^ n) := by rw [hw64]; omega
      have hpb : w.heap.size + 3 ≤ pb := (hM.2.2.2.1.lt pb rfl).1
      have q1 := hM.2.1
      have q2 := hM.2.2.1
      have h3 := hM.2.2.2.2
      have c0 : wr.cell? ⟨w.heap.size + 1 + 1, 0, none⟩ = some (.slice a n c) := cell_of_row wr (w.heap.size + 2) 0 _ _ _ q2
      have c1 : wr.cell? ⟨w.heap.size + 1 + 1, 1, none⟩ = some (.int .i64 budget) := cell_of_row wr (w.heap.size + 2) 1 _ _ _ q2
      have c2 : wr.cell? ⟨w.heap.size + 1 + 1, 2, none⟩ = some (.slice (some ⟨pb, 0, none⟩) (2 ^ n) cap) := cell_of_row wr (w.heap.size + 2) 2 _ _ _ q2
      have d0 : wr.cell? ⟨w.heap.size + 1, 0, none⟩ = some (.slice none 0 0) := cell_of_row wr (w.heap.size + 1) 0 _ _ _ q1
      have d1 : wr.cell? ⟨w.heap.size + 1, 1, none⟩ = some (.int .i64 0) := cell_of_row wr (w.heap.size + 1) 1 _ _ _ q1
      have d2 : wr.cell? ⟨w.heap.size + 1, 2, none⟩ = some (.slice none 0 0) := cell_of_row wr (w.heap.size + 1) 2 _ _ _ q1
      have f0 : wr.frozen? ⟨w.heap.size + 1, 0, none⟩ = false := frozen_of_row wr (w.heap.size + 1) 0 _ _ q1
      have f1 : wr.frozen? ⟨w.heap.size + 1, 1, none⟩ = false := frozen_of_row wr (w.heap.size + 1) 1 _ _ q1
      have f2 : wr.frozen? ⟨w.heap.size + 1, 2, none⟩ = false := frozen_of_row wr (w.heap.size + 1) 2 _ _ q1
      have hbb := hM.1.below
      have HROW := Lib.hid hrow
      clear hM q1 q2 hrow hj hlt hw64 hpow HM CP
      go_wp2
      refine bodyPost_ret (v := probV a n c pb (2 ^ n) cap budget) (by simp [results, Tryd.results14, go_sem, d0, d1, d2]) rfl ⟨pb, cap, rfl, fun s hs => ?_, ?_⟩
      · have hne : ∀ i, (⟨w.heap.size + 1, i, none⟩ : Addr) ≠ ⟨pb, s, none⟩ := fun i e => by injection e with e1 _ _; omega
        rw [World.cell?_setCell_other _ _ _ _ (hne _), World.cell?_setCell_other _ _ _ _ (hne _), World.cell?_setCell_other _ _ _ _ (hne _)]
        exact HROW.out s hs
      · exact ((hbb.setCell (p := ⟨w.heap.size + 1, 0, none⟩) (Nat.le_succ _) _).setCell (p := ⟨w.heap.size + 1, 1, none⟩) (Nat.le_succ _) _).setCell (p := ⟨w.heap.size + 1, 2, none⟩) (Nat.le_succ _) _
end Go.Proofs.YteckfakabaiipaaDoor
