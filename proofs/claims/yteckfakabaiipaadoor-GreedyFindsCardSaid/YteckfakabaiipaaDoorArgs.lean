/- The walk of the statement GreedyArgs. -/
import Derived.Test.YteckfakabaiipaaDoorCase
import Derived.Deep.RegionHeld3
import Derived.Laws.MakeOwn
import Derived.OwnWalk
import Derived.Deep.DeepCutAuto
namespace Go.Proofs.YteckfakabaiipaaDoor
open Go.RowKit

theorem info2 : (Tryd.prog.info? 2).map (fun i => (i.zero, i.size, i.bytes)) = some (some (.int .i64 0), 1, 8) := by kernel_rfl
/-- a row of noughts -/
def zerosA (n : Nat) : Array Value := Array.replicate n (.int .i64 0)

theorem make_zeros (n : Nat) (hn : n < 64) (w : World) : (Instr.makeSlice 22 (.int .i64 n) (.int .i64 n)).run Tryd.prog w = .ok (.slice (some ⟨w.heap.size, 0, none⟩) n n) (w.alloc (.cells (zerosA n) 2)) := by
  obtain ⟨i, hi, hz0, hz1, hz2⟩ := info_parts info2
  have h := run_makeSlice (P := Tryd.prog) w 22 2 i (.int .i64 0) Tryd.underlying22 hi hz0 .i64 .i64 n n (by omega) (by omega) (by rw [hz1]; simp; omega) (by rw [hz2]; omega) (by omega)
  rw [h]
  have e : madeCells (Value.cells (.int .i64 0)) ((n : Int).toNat * i.size) = zerosA n := by
    rw [hz1]
    apply Array.ext
    · simp [size_madeCells, zerosA]
    · intro j h1 h2
      simp [madeCells, zerosA, Value.cells, Nat.mod_one]
  rw [e]; simp only [Int.toNat_natCast]

/-- what is known of the world behind the case's box -/
def CaseKept (w w' : World) (sl so st : Value) (budget m k base : Int) : Prop :=
  w'.cell? ⟨w.heap.size, 0, none⟩ = some sl ∧ w'.cell? ⟨w.heap.size, 1, none⟩ = some (.int .i64 budget) ∧ w'.cell? ⟨w.heap.size, 2, none⟩ = some (.int .i64 m) ∧ w'.cell? ⟨w.heap.size, 3, none⟩ = some (.int .i64 k) ∧ w'.cell? ⟨w.heap.size, 4, none⟩ = some (.int .i64 base) ∧ w'.cell? ⟨w.heap.size, 5, none⟩ = some so ∧ w'.cell? ⟨w.heap.size, 6, none⟩ = some st ∧ w.heap.size < w'.heap.size ∧ Below w.heap.size w w'
theorem CaseKept.below {w w' : World} {sl so st : Value} {budget m k base : Int} (h : CaseKept w w' sl so st budget m k base) : Below w.heap.size w w' := h.2.2.2.2.2.2.2.2
theorem CaseKept.call {w w' : World} {sl so st : Value} {budget m k base : Int} {w2 : World} (h : CaseKept w w' sl so st budget m k base) (hB : Below w'.heap.size w' w2) : CaseKept w w2 sl so st budget m k base := by
  obtain ⟨e0, e1, e2, e3, e4, e5, e6, l0, hb⟩ := h
  have hl : ∀ o, w2.cell? ⟨w.heap.size, o, none⟩ = w'.cell? ⟨w.heap.size, o, none⟩ := fun o => hB.cell (p := ⟨w.heap.size, o, none⟩) l0
  have hz := hB.size
  exact ⟨(hl _).trans e0, (hl _).trans e1, (hl _).trans e2, (hl _).trans e3, (hl _).trans e4, (hl _).trans e5, (hl _).trans e6, by omega, hb.trans (hB.mono (by omega))⟩
theorem CaseKept.start (w : World) (sl so st : Value) (budget m k base : Int) : CaseKept w (w.alloc (.cells #[sl, .int .i64 budget, .int .i64 m, .int .i64 k, .int .i64 base, so, st] 25)) sl so st budget m k base := by
  have q := heap_alloc_new w (.cells #[sl, .int .i64 budget, .int .i64 m, .int .i64 k, .int .i64 base, so, st] 25)
  refine ⟨?_, ?_, ?_, ?_, ?_, ?_, ?_, by simp, (Below.refl _ _).alloc (Nat.le_refl _) _⟩
  all_goals (rw [cell_of_row _ _ _ _ _ _ q]; rfl)

set_option maxRecDepth 100000 in
set_option maxHeartbeats 4000000 in
theorem args_any (many : Int) (a ao at2 : Option Addr) (n c no co nt ct : Nat) (budget m k base : Int) (off two : List Int) (w : World) (ho : ShortsAt w ao no off) (ht : ShortsAt w at2 nt two) (hT : TabIn w) (_hn64 : n ≤ 9223372036854775807)
   (hbud : budget ≤ 9223372036854775807) (_hm : -9223372036854775808 ≤ many ∧ many ≤ 9223372036854775807) :
    Calls Tryd.prog 6 #[.int .i64 many, caseV a ao at2 n c no co nt ct budget m k base] w (RetV (.bool true) w) := by
  have KK := CaseKept.start w (.slice a n c) (.slice ao no co) (.slice at2 nt ct) budget m k base
  by_cases hs : smallB n no nt = true
  · obtain ⟨nn, hnn, hnn40⟩ : ∃ nn : Nat, wrap64 ((IntKind.u64.wrap many).tmod 40) = (nn : Int) ∧ nn < 40 := by
      have e1 : IntKind.u64.wrap many = many % 18446744073709551616 := IntKind.wrap_u64 many
      have e2 : (many % 18446744073709551616).tmod 40 = many % 18446744073709551616 % 40 := Int.tmod_eq_emod_of_nonneg (by omega)
      refine ⟨(many % 18446744073709551616 % 40).toNat, ?_, by omega⟩
      rw [e1, e2, IntWalk.wrap64_in _ ⟨by omega, by omega⟩]
      omega
    have hmk := make_zeros nn (by omega)
    go_enter Tryd.func6, Tryd.ntmps6
    go_wp2_with (first
      | (go_at_call 7; (with_reducible refine (lives_any _ ?_).mono ?_); exact hT.keep KK.below; rintro e w1 ⟨rfl, hB⟩; have KK := KK.call hB; clear hB; have KKc := KK; obtain ⟨e0, e1, e2, e3, e4, e5, e6, l0, hbb⟩ := KKc)
      | (go_at_call 8; (with_reducible refine (fits_case a ao at2 n c no co nt ct budget m k base _).mono ?_); rintro e w1 ⟨rfl, hB⟩; have KK := KK.call hB; clear hB; have KKc := KK; obtain ⟨e0, e1, e2, e3, e4, e5, e6, l0, hbb⟩ := KKc))
    have KA := KK.call (Below.refl _ w1).drew
    have hBz : Below w1.heap.size w1 (w1.alloc (.cells (zerosA nn) 2)).drew := ((Below.refl _ w1).alloc (Nat.le_refl _) (.cells (zerosA nn) 2)).drew
    have KB := KK.call hBz
    have hbz := Lib.hid KB.below
    have KC := Lib.hid (fun w2 (h : Below (w1.alloc (.cells (zerosA nn) 2)).drew.heap.size (w1.alloc (.cells (zerosA nn) 2)).drew w2) => KB.call h)
    have hq := heap_alloc_new w1 (.cells (zerosA nn) 2)
    have HI := Lib.hid (show IntsAt (w1.alloc (.cells (zerosA nn) 2)).drew (some ⟨w1.heap.size, 0, none⟩) (List.replicate nn 0) from .inr ⟨w1.heap.size, 0, rfl, fun j hj => by
      have hj' : j < nn := by simpa using hj
      rw [World.cell?_drew, cell_of_row _ _ _ _ _ _ hq]
      simp [zerosA, List.getD, hj']⟩)
    clear hq hBz
    unfold CaseKept at KA KB KC
    clear KK
    clear e0 e1 e2 e3 e4 e5 e6 l0 hbb
    have hsm : n ≤ 10 ∧ no ≤ 20 ∧ nt ≤ 20 := by
      unfold smallB at hs
      simp only [Bool.and_eq_true, decide_eq_true_eq] at hs
      exact ⟨hs.1.1, hs.1.2, hs.2⟩
    have HSM := hsm
    clear hsm
    have hsm := Lib.hid HSM
    clear HSM
    go_cut [5, 7] (fun s5 s7 wc => ∃ e : Int, s5 = .int .i64 nn ∧ s7 = .int .i64 e ∧ Hid (e = if badArgs nn budget m k = true then 1 else 0) ∧ wc.cell? ⟨w.heap.size, 0, none⟩ = some (.slice a n c) ∧ wc.cell? ⟨w.heap.size, 1, none⟩ = some (.int .i64 budget) ∧ wc.cell? ⟨w.heap.size, 2, none⟩ = some (.int .i64 m) ∧ wc.cell? ⟨w.heap.size, 3, none⟩ = some (.int .i64 k) ∧ wc.cell? ⟨w.heap.size, 4, none⟩ = some (.int .i64 base) ∧ wc.cell? ⟨w.heap.size, 5, none⟩ = some (.slice ao no co) ∧ wc.cell? ⟨w.heap.size, 6, none⟩ = some (.slice at2 nt ct) ∧ w.heap.size < wc.heap.size ∧ Below w.heap.size w wc)
    case first =>
      by_cases hk3 : 3 < k
      · have HB0 := Lib.hid (show badArgs nn budget m 3 = badArgs nn budget m k by unfold badArgs; rw [show decide ((3 : Int) < 0) = decide (k < 0) by simp; omega])
        by_cases hbad : badArgs nn budget m (3) = true
        · have HBAD := Lib.hid hbad
          clear hbad hs HI
          go_region_held3 (fun wx => wx.cell? ⟨w.heap.size, 0, none⟩ = some (.slice a n c) ∧ wx.cell? ⟨w.heap.size, 1, none⟩ = some (.int .i64 budget) ∧ wx.cell? ⟨w.heap.size, 2, none⟩ = some (.int .i64 m) ∧ wx.cell? ⟨w.heap.size, 3, none⟩ = some (.int .i64 k) ∧ wx.cell? ⟨w.heap.size, 4, none⟩ = some (.int .i64 base) ∧ wx.cell? ⟨w.heap.size, 5, none⟩ = some (.slice ao no co) ∧ wx.cell? ⟨w.heap.size, 6, none⟩ = some (.slice at2 nt ct) ∧ w.heap.size < wx.heap.size ∧ Below w.heap.size w wx)
            (first
              | (with_reducible exact KA)
              | (with_reducible exact KB)
              | (with_reducible exact KC.out _ hB2)
              | (with_reducible assumption))
            (first
              | (go_at_call 9; (with_reducible refine (search_bad _ _ _ _ _ _ _ _ HBAD.out).mono ?_); rintro e w2 ⟨rfl, rfl⟩))
          all_goals
            rename_i hHeld
            go_wp2_with fail
            go_meet
            exact ⟨1, rfl, rfl, Lib.hid (by rw [if_pos (by rw [← HB0.out]; exact HBAD.out)]), hHeld⟩
        · have HNB := Lib.hid (show (nn ≤ 16 ∧ 0 ≤ m ∧ m ≤ 3 ∧ 0 ≤ k ∧ 0 ≤ budget) by
            unfold badArgs at hbad
            simp only [Bool.or_eq_true, decide_eq_true_eq, not_or] at hbad
            omega)
          have HNBAD := Lib.hid hbad
          clear hbad
          have hP : Prices (w1.alloc (.cells (zerosA nn) 2)).drew 10 #[.agg #[.slice a n c, .int .i64 budget, .int .i64 m, .int .i64 k, .int .i64 base, .slice ao no co, .slice at2 nt ct]] (fun s => priceA base off two s n) :=
            ⟨Go.Proofs.enters_of Tryd.func10 (by kernel_rfl) rfl, fun s W hs hB => price_case a ao at2 n c no co nt ct budget m k base off two s W hsm.out.1 hsm.out.2.1 hsm.out.2.2 hs
              ((ho.keep hbz.out (Nat.le_refl _)).keep hB (Nat.le_refl _)) ((ht.keep hbz.out (Nat.le_refl _)).keep hB (Nat.le_refl _))⟩
          have cok := search_all (some ⟨w1.heap.size, 0, none⟩) nn (List.replicate nn 0) budget 10 _ _ m (3) (w1.alloc (.cells (zerosA nn) 2)).drew (w1.alloc (.cells (zerosA nn) 2)).drew (by have := HNB.out; simp; omega) HNB.out.2.2.2.2 hbud HI.out (hT.keep hbz.out) hP (Below.refl _ _) (Nat.le_refl _) HNB.out.2.1 HNB.out.2.2.1 (by have := HNB.out; omega)
          rw [List.length_replicate] at cok
          generalize growS _ _ _ _ _ = g at cok
          have COK := Lib.hid cok
          clear cok hs HI hP
          go_region_held3 (fun wx => wx.cell? ⟨w.heap.size, 0, none⟩ = some (.slice a n c) ∧ wx.cell? ⟨w.heap.size, 1, none⟩ = some (.int .i64 budget) ∧ wx.cell? ⟨w.heap.size, 2, none⟩ = some (.int .i64 m) ∧ wx.cell? ⟨w.heap.size, 3, none⟩ = some (.int .i64 k) ∧ wx.cell? ⟨w.heap.size, 4, none⟩ = some (.int .i64 base) ∧ wx.cell? ⟨w.heap.size, 5, none⟩ = some (.slice ao no co) ∧ wx.cell? ⟨w.heap.size, 6, none⟩ = some (.slice at2 nt ct) ∧ w.heap.size < wx.heap.size ∧ Below w.heap.size w wx)
            (first
              | (with_reducible exact KA)
              | (with_reducible exact KB)
              | (with_reducible exact KC.out _ hB2)
              | (with_reducible assumption))
            (first
              | (go_at_call 9; (with_reducible refine Calls.mono COK.out ?_); rintro e w2 ⟨rfl, hB2⟩))
          all_goals
            rename_i hHeld
            go_wp2_with fail
            go_meet
            exact ⟨0, rfl, rfl, Lib.hid (by rw [if_neg (by rw [← HB0.out]; exact HNBAD.out)]), hHeld⟩
      · have HB0 := Lib.hid (show badArgs nn budget m k = badArgs nn budget m k from rfl)
        by_cases hbad : badArgs nn budget m (k) = true
        · have HBAD := Lib.hid hbad
          clear hbad hs HI
          go_region_held3 (fun wx => wx.cell? ⟨w.heap.size, 0, none⟩ = some (.slice a n c) ∧ wx.cell? ⟨w.heap.size, 1, none⟩ = some (.int .i64 budget) ∧ wx.cell? ⟨w.heap.size, 2, none⟩ = some (.int .i64 m) ∧ wx.cell? ⟨w.heap.size, 3, none⟩ = some (.int .i64 k) ∧ wx.cell? ⟨w.heap.size, 4, none⟩ = some (.int .i64 base) ∧ wx.cell? ⟨w.heap.size, 5, none⟩ = some (.slice ao no co) ∧ wx.cell? ⟨w.heap.size, 6, none⟩ = some (.slice at2 nt ct) ∧ w.heap.size < wx.heap.size ∧ Below w.heap.size w wx)
            (first
              | (with_reducible exact KA)
              | (with_reducible exact KB)
              | (with_reducible exact KC.out _ hB2)
              | (with_reducible assumption))
            (first
              | (go_at_call 9; (with_reducible refine (search_bad _ _ _ _ _ _ _ _ HBAD.out).mono ?_); rintro e w2 ⟨rfl, rfl⟩))
          all_goals
            rename_i hHeld
            go_wp2_with fail
            go_meet
            exact ⟨1, rfl, rfl, Lib.hid (by rw [if_pos HBAD.out]), hHeld⟩
        · have HNB := Lib.hid (show (nn ≤ 16 ∧ 0 ≤ m ∧ m ≤ 3 ∧ 0 ≤ k ∧ 0 ≤ budget) by
            unfold badArgs at hbad
            simp only [Bool.or_eq_true, decide_eq_true_eq, not_or] at hbad
            omega)
          have HNBAD := Lib.hid hbad
          clear hbad
          have hP : Prices (w1.alloc (.cells (zerosA nn) 2)).drew 10 #[.agg #[.slice a n c, .int .i64 budget, .int .i64 m, .int .i64 k, .int .i64 base, .slice ao no co, .slice at2 nt ct]] (fun s => priceA base off two s n) :=
            ⟨Go.Proofs.enters_of Tryd.func10 (by kernel_rfl) rfl, fun s W hs hB => price_case a ao at2 n c no co nt ct budget m k base off two s W hsm.out.1 hsm.out.2.1 hsm.out.2.2 hs
              ((ho.keep hbz.out (Nat.le_refl _)).keep hB (Nat.le_refl _)) ((ht.keep hbz.out (Nat.le_refl _)).keep hB (Nat.le_refl _))⟩
          have cok := search_all (some ⟨w1.heap.size, 0, none⟩) nn (List.replicate nn 0) budget 10 _ _ m (k) (w1.alloc (.cells (zerosA nn) 2)).drew (w1.alloc (.cells (zerosA nn) 2)).drew (by have := HNB.out; simp; omega) HNB.out.2.2.2.2 hbud HI.out (hT.keep hbz.out) hP (Below.refl _ _) (Nat.le_refl _) HNB.out.2.1 HNB.out.2.2.1 (by have := HNB.out; omega)
          rw [List.length_replicate] at cok
          generalize growS _ _ _ _ _ = g at cok
          have COK := Lib.hid cok
          clear cok hs HI hP
          go_region_held3 (fun wx => wx.cell? ⟨w.heap.size, 0, none⟩ = some (.slice a n c) ∧ wx.cell? ⟨w.heap.size, 1, none⟩ = some (.int .i64 budget) ∧ wx.cell? ⟨w.heap.size, 2, none⟩ = some (.int .i64 m) ∧ wx.cell? ⟨w.heap.size, 3, none⟩ = some (.int .i64 k) ∧ wx.cell? ⟨w.heap.size, 4, none⟩ = some (.int .i64 base) ∧ wx.cell? ⟨w.heap.size, 5, none⟩ = some (.slice ao no co) ∧ wx.cell? ⟨w.heap.size, 6, none⟩ = some (.slice at2 nt ct) ∧ w.heap.size < wx.heap.size ∧ Below w.heap.size w wx)
            (first
              | (with_reducible exact KA)
              | (with_reducible exact KB)
              | (with_reducible exact KC.out _ hB2)
              | (with_reducible assumption))
            (first
              | (go_at_call 9; (with_reducible refine Calls.mono COK.out ?_); rintro e w2 ⟨rfl, hB2⟩))
          all_goals
            rename_i hHeld
            go_wp2_with fail
            go_meet
            exact ⟨0, rfl, rfl, Lib.hid (by rw [if_neg HNBAD.out]), hHeld⟩
    case rest =>
      obtain ⟨e, rfl, rfl, he, e0, e1, e2, e3, e4, e5, e6, l0, hbb⟩ := hcut
      clear hmk KA KB hnn
      by_cases hbad : badArgs nn budget m k = true
      · obtain rfl : e = 1 := by have h := he.out; rw [if_pos hbad] at h; exact h
        unfold badArgs at hbad
        simp only [Bool.or_eq_true, decide_eq_true_eq] at hbad
        by_cases h1 : (16 : Int) < (nn : Int)
        · clear hbad
          go_wp2_with (go_at_call 9; (with_reducible refine (search_nil _ _ _ _ _ _ _).mono ?_); rintro e w3 ⟨rfl, rfl⟩)
          all_goals (go_ret; exact ⟨rfl, hbb⟩)
        · by_cases h2 : m < 0
          · clear hbad
            go_wp2_with (go_at_call 9; (with_reducible refine (search_nil _ _ _ _ _ _ _).mono ?_); rintro e w3 ⟨rfl, rfl⟩)
            all_goals (go_ret; exact ⟨rfl, hbb⟩)
          · by_cases h3 : 3 < m
            · clear hbad
              go_wp2_with (go_at_call 9; (with_reducible refine (search_nil _ _ _ _ _ _ _).mono ?_); rintro e w3 ⟨rfl, rfl⟩)
              all_goals (go_ret; exact ⟨rfl, hbb⟩)
            · by_cases h4 : k < 0
              · clear hbad
                go_wp2_with (go_at_call 9; (with_reducible refine (search_nil _ _ _ _ _ _ _).mono ?_); rintro e w3 ⟨rfl, rfl⟩)
                all_goals (go_ret; exact ⟨rfl, hbb⟩)
              · have h5 : budget < 0 := by omega
                clear hbad
                go_wp2_with (go_at_call 9; (with_reducible refine (search_nil _ _ _ _ _ _ _).mono ?_); rintro e w3 ⟨rfl, rfl⟩)
                all_goals (go_ret; exact ⟨rfl, hbb⟩)
      · obtain rfl : e = 0 := by have h := he.out; rw [if_neg hbad] at h; exact h
        unfold badArgs at hbad
        simp only [Bool.or_eq_true, decide_eq_true_eq, not_or] at hbad
        obtain ⟨⟨⟨⟨h1, h2⟩, h3⟩, h4⟩, h5⟩ := hbad
        have h1' : ¬ (16 : Int) < (nn : Int) := by omega
        go_wp2_with (go_at_call 9; (with_reducible refine (search_nil _ _ _ _ _ _ _).mono ?_); rintro e w3 ⟨rfl, rfl⟩)
        all_goals (go_ret; exact ⟨congrArg (fun b => Ending.returned (Value.bool b)) (show (!decide ((16 : Int) < (nn : Int)) && !decide (m < 0) && !decide (3 < m) && !decide (k < 0) && !decide (budget < 0)) = true by simp [h1', h2, h3, h4, h5]), hbb⟩)
  · have hs' : smallB n no nt = false := by simpa using hs
    clear hs
    go_enter Tryd.func6, Tryd.ntmps6
    go_wp2_with (first
      | (go_at_call 7; (with_reducible refine (lives_any _ ?_).mono ?_); exact hT.keep KK.below; rintro e w1 ⟨rfl, hB⟩; have KK := KK.call hB; clear hB; have KKc := KK; obtain ⟨e0, e1, e2, e3, e4, e5, e6, l0, hbb⟩ := KKc)
      | (go_at_call 8; (with_reducible refine (fits_case a ao at2 n c no co nt ct budget m k base _).mono ?_); rintro e w1 ⟨rfl, hB⟩; have KK := KK.call hB; clear hB; have KKc := KK; obtain ⟨e0, e1, e2, e3, e4, e5, e6, l0, hbb⟩ := KKc))
    go_ret
    exact ⟨rfl, KK.below⟩
end Go.Proofs.YteckfakabaiipaaDoor
