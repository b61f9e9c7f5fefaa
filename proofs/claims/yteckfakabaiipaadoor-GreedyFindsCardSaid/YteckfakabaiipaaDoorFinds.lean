/- The walk of the statement GreedyFinds. -/
import Derived.Test.YteckfakabaiipaaDoorRefSearch
import Derived.Test.YteckfakabaiipaaDoorFitsOpen
namespace Go.Proofs.YteckfakabaiipaaDoor
open Go.RowKit

theorem growR_things (zs : List Int) (left : Int) (P : Nat → Int) (k : Int) (hL : 0 ≤ left) : ∀ d best, Things zs.length best → Things zs.length (growR zs left P k d best) := by
  intro d
  induction d with
  | zero => intro best h; exact h
  | succ d ih =>
    intro best h
    rw [growR]
    split
    · split
      · exact h
      · refine ih _ ?_
        rcases (add_list zs left P best hL h zs.length (Nat.le_refl _)).2 with e | ⟨i, hi, hin, e⟩
        · rw [e]; exact h
        · rw [e]; exact h.snoc i hi hin
    · exact h

set_option maxRecDepth 100000 in
set_option maxHeartbeats 4000000 in
theorem finds_main (a ao at2 : Option Addr) (n c no co nt ct : Nat) (budget m k base : Int) (zs off two : List Int) (w : World) (hn10 : n ≤ 10) (hno : no ≤ 20) (hnt : nt ≤ 20) (hs : smallB n no nt = true) (hw : wrongB budget m k = false)
    (hm0 : 0 ≤ m) (hm3 : m ≤ 3) (hk0 : 0 ≤ k) (hb0 : 0 ≤ budget) (hbud : budget ≤ 9223372036854775807)
    (hz : IntsAt w a zs) (hzn : Hid (zs.length = n)) (ho : ShortsAt w ao no off) (ht : ShortsAt w at2 nt two) (hT : TabIn w) :
    Calls Tryd.prog 3 #[caseV a ao at2 n c no co nt ct budget m k base] w (RetV (.bool true) w) := by
  have KK := CaseKept.start w (.slice a n c) (.slice ao no co) (.slice at2 nt ct) budget m k base
  have hP : Prices w 10 #[.agg #[.slice a n c, .int .i64 budget, .int .i64 m, .int .i64 k, .int .i64 base, .slice ao no co, .slice at2 nt ct]] (fun s => priceA base off two s n) :=
    ⟨Go.Proofs.enters_of Tryd.func10 (by kernel_rfl) rfl, fun s W hs hB => price_case a ao at2 n c no co nt ct budget m k base off two s W hn10 hno hnt hs (ho.keep hB (Nat.le_refl _)) (ht.keep hB (Nat.le_refl _))⟩
  obtain ⟨r, hr⟩ : ∃ r, r = growS zs budget (fun s => priceA base off two s n) k (seedS zs budget (fun s => priceA base off two s n) (min m k) (2 ^ zs.length)) := ⟨_, rfl⟩
  have hlaw := fits_law zs budget (fun s => priceA base off two s n) m k (by rw [hzn.out]; omega) hb0 hm0 hk0 r hr
  obtain ⟨mk, hmk⟩ : ∃ mk : Nat, (mk : Int) = min m k := ⟨(min m k).toNat, by omega⟩
  have hfind := finds_law zs budget (fun s => priceA base off two s n) mk k hb0 (by rw [hzn.out]; omega) n (by rw [hzn.out]; exact Nat.le_refl _)
  rw [hmk, ← hr] at hfind
  have hTR := growR_things zs budget (fun s => priceA base off two s n) k hb0 (n + 1) _ hfind.2
  rw [hzn.out] at hTR
  obtain ⟨R, hR⟩ : ∃ R, R = growR zs budget (fun s => priceA base off two s n) k (n + 1) (firstR zs budget (fun s => priceA base off two s n) mk) := ⟨_, rfl⟩
  rw [← hR] at hTR
  have hset : setL R = r := by rw [hR]; exact hfind.1
  have c12 := fun A c W (h : Src W W.heap.size A R.length c (thingsV R)) => set_any A R.length c _ R W h (things16 hTR (by omega))
  rw [hset] at c12
  have C12 := Lib.hid c12
  have c13 := fun pb cap W (h : Prob W a n pb (2 ^ n) zs budget (fun s => priceA base off two s n)) => searchr_any a n c pb (2 ^ n) cap zs budget m k (fun s => priceA base off two s n) mk W h hm0 hm3 hk0 (Lib.hid hmk)
  rw [← hR] at c13
  have C13 := Lib.hid c13
  have C14 := Lib.hid (fun W (h : Below w.heap.size w W) => problem_any a ao at2 n c no co nt ct budget m k base off two W hn10 hno hnt (ho.keep h (Nat.le_refl _)) (ht.keep h (Nat.le_refl _)))
  have HPR := Lib.hid (fun W pb (h : Below w.heap.size w W) (hrow : PriceRow W pb n (fun s => priceA base off two s n)) => (show Prob W a n pb (2 ^ n) zs budget (fun s => priceA base off two s n) from ⟨hz.keep h, hzn, hn10, hrow, Lib.hid rfl, hb0, hbud⟩))
  clear c12 c13
  have c9 : ∀ W, Below w.heap.size w W → Calls Tryd.prog 9 #[.slice a n c, .int .i64 budget, .int .i64 m, .int .i64 k, .func (.func 10) #[.agg #[.slice a n c, .int .i64 budget, .int .i64 m, .int .i64 k, .int .i64 base, .slice ao no co, .slice at2 nt ct]] #[]] W (RetV (.tuple #[.int .u32 r, .int .i64 0]) W) := by
    intro W hB
    have := search_all a c zs budget 10 _ _ m k w W (by rw [hzn.out]; omega) hb0 hbud (hz.keep hB) (hT.keep hB) hP hB hB.size hm0 hm3 hk0
    rw [hzn.out] at this
    rw [hzn.out] at hr
    rw [hr]
    exact this
  have C9 := Lib.hid c9
  have hr2 : r < 65536 := by
    have h1 := hlaw.1
    rw [hzn.out] at h1
    have h2 : 2 ^ n ≤ 2 ^ 16 := Nat.pow_le_pow_right (by omega) (by omega)
    omega
  have heq : ((r : Int) == (r : Int)) = true := beq_self_eq_true _
  have hwr : IntKind.i64.wrap (r : Int) = (r : Int) := IntWalk.i64_in _ (by omega)
  clear hlaw c9 hP hr hfind hTR hR hset hmk
  go_enter Tryd.func3, Tryd.ntmps3
  go_wp2_with (first
      | (go_at_call 7; (with_reducible refine (lives_any _ ?_).mono ?_); exact hT.keep KK.below; rintro e w1 ⟨rfl, hB⟩; have KK := KK.call hB; clear hB; (try clear e0 e1 e2 e3 e4 e5 e6 l0 hbb); have KKc := KK; obtain ⟨e0, e1, e2, e3, e4, e5, e6, l0, hbb⟩ := KKc)
      | (go_at_call 8; (with_reducible refine (fits_case a ao at2 n c no co nt ct budget m k base _).mono ?_); rintro e w1 ⟨rfl, hB⟩; have KK := KK.call hB; clear hB; (try clear e0 e1 e2 e3 e4 e5 e6 l0 hbb); have KKc := KK; obtain ⟨e0, e1, e2, e3, e4, e5, e6, l0, hbb⟩ := KKc)
      | (go_at_call 11; (with_reducible refine (wrong_any a ao at2 n c no co nt ct budget m k base _).mono ?_); rintro e w1 ⟨rfl, hB⟩; have KK := KK.call hB; clear hB; (try clear e0 e1 e2 e3 e4 e5 e6 l0 hbb); have KKc := KK; obtain ⟨e0, e1, e2, e3, e4, e5, e6, l0, hbb⟩ := KKc)
      | (go_at_call 9; (with_reducible refine Calls.mono (C9.out _ KK.below) ?_); rintro e w1 ⟨rfl, hB⟩; have KK := KK.call hB; clear hB; (try clear e0 e1 e2 e3 e4 e5 e6 l0 hbb); have KKc := KK; obtain ⟨e0, e1, e2, e3, e4, e5, e6, l0, hbb⟩ := KKc))
  have KA := KK.call (Below.refl _ w1).drew
  unfold CaseKept at KA
  go_region_held3 (fun wx => wx.cell? ⟨w.heap.size, 0, none⟩ = some (.slice a n c) ∧ wx.cell? ⟨w.heap.size, 1, none⟩ = some (.int .i64 budget) ∧ wx.cell? ⟨w.heap.size, 2, none⟩ = some (.int .i64 m) ∧ wx.cell? ⟨w.heap.size, 3, none⟩ = some (.int .i64 k) ∧ wx.cell? ⟨w.heap.size, 4, none⟩ = some (.int .i64 base) ∧ wx.cell? ⟨w.heap.size, 5, none⟩ = some (.slice ao no co) ∧ wx.cell? ⟨w.heap.size, 6, none⟩ = some (.slice at2 nt ct) ∧ w.heap.size < wx.heap.size ∧ Below w.heap.size w wx)
    (first
      | (with_reducible exact KA)
      | (with_reducible assumption)
      | exact CaseKept.call (w' := _) (by unfold CaseKept; assumption) hB2
      | fail)
    (first
      | (go_at_call 14; (with_reducible refine Calls.mono (C14.out _ ?_) ?_); exact CaseKept.below (w' := _) (by unfold CaseKept; assumption); rintro e w4 ⟨pb, cap, rfl, hrow, hB2⟩)
      | (go_at_call 13; (with_reducible refine Calls.mono (C13.out pb cap _ ?_) ?_); exact HPR.out _ _ (CaseKept.below (w' := _) (by unfold CaseKept; assumption)) hrow; rintro e w5 ⟨A5, c5, rfl, hS5, hB2⟩)
      | (go_at_call 12; (with_reducible refine Calls.mono (C12.out A5 c5 _ hS5) ?_); rintro e w6 ⟨rfl, rfl⟩)
      | fail)
  all_goals
    rename_i hHeld
    go_wp2_with fail
    go_ret
    exact ⟨rfl, CaseKept.below (w' := _) (by unfold CaseKept; exact hHeld)⟩

set_option maxRecDepth 100000 in
set_option maxHeartbeats 1000000 in
theorem finds_else (a ao at2 : Option Addr) (n c no co nt ct : Nat) (budget m k base : Int) (w : World) (hs : smallB n no nt = false) (hT : TabIn w) :
    Calls Tryd.prog 3 #[caseV a ao at2 n c no co nt ct budget m k base] w (RetV (.bool true) w) := by
  have KK := CaseKept.start w (.slice a n c) (.slice ao no co) (.slice at2 nt ct) budget m k base
  go_enter Tryd.func3, Tryd.ntmps3
  go_wp2_with (first
      | (go_at_call 7; (with_reducible refine (lives_any _ ?_).mono ?_); exact hT.keep KK.below; rintro e w1 ⟨rfl, hB⟩; have KK := KK.call hB; clear hB; (try clear e0 e1 e2 e3 e4 e5 e6 l0 hbb); have KKc := KK; obtain ⟨e0, e1, e2, e3, e4, e5, e6, l0, hbb⟩ := KKc)
      | (go_at_call 8; (with_reducible refine (fits_case a ao at2 n c no co nt ct budget m k base _).mono ?_); rintro e w1 ⟨rfl, hB⟩; have KK := KK.call hB; clear hB; (try clear e0 e1 e2 e3 e4 e5 e6 l0 hbb); have KKc := KK; obtain ⟨e0, e1, e2, e3, e4, e5, e6, l0, hbb⟩ := KKc)
      | (go_at_call 11; (with_reducible refine (wrong_any a ao at2 n c no co nt ct budget m k base _).mono ?_); rintro e w1 ⟨rfl, hB⟩; have KK := KK.call hB; clear hB; (try clear e0 e1 e2 e3 e4 e5 e6 l0 hbb); have KKc := KK; obtain ⟨e0, e1, e2, e3, e4, e5, e6, l0, hbb⟩ := KKc)
      | fail)
  go_ret
  exact ⟨rfl, KK.below⟩

set_option maxRecDepth 100000 in
set_option maxHeartbeats 1000000 in
theorem finds_wrong (a ao at2 : Option Addr) (n c no co nt ct : Nat) (budget m k base : Int) (w : World) (hs : smallB n no nt = true) (hw : wrongB budget m k = true) (hT : TabIn w) :
    Calls Tryd.prog 3 #[caseV a ao at2 n c no co nt ct budget m k base] w (RetV (.bool true) w) := by
  have KK := CaseKept.start w (.slice a n c) (.slice ao no co) (.slice at2 nt ct) budget m k base
  have HB := Lib.hid (show badArgs n budget m k = true by unfold wrongB at hw; unfold badArgs; simp only [Bool.or_eq_true, decide_eq_true_eq] at hw ⊢; omega)
  go_enter Tryd.func3, Tryd.ntmps3
  go_wp2_with (first
      | (go_at_call 7; (with_reducible refine (lives_any _ ?_).mono ?_); exact hT.keep KK.below; rintro e w1 ⟨rfl, hB⟩; have KK := KK.call hB; clear hB; (try clear e0 e1 e2 e3 e4 e5 e6 l0 hbb); have KKc := KK; obtain ⟨e0, e1, e2, e3, e4, e5, e6, l0, hbb⟩ := KKc)
      | (go_at_call 8; (with_reducible refine (fits_case a ao at2 n c no co nt ct budget m k base _).mono ?_); rintro e w1 ⟨rfl, hB⟩; have KK := KK.call hB; clear hB; (try clear e0 e1 e2 e3 e4 e5 e6 l0 hbb); have KKc := KK; obtain ⟨e0, e1, e2, e3, e4, e5, e6, l0, hbb⟩ := KKc)
      | (go_at_call 11; (with_reducible refine (wrong_any a ao at2 n c no co nt ct budget m k base _).mono ?_); rintro e w1 ⟨rfl, hB⟩; have KK := KK.call hB; clear hB; (try clear e0 e1 e2 e3 e4 e5 e6 l0 hbb); have KKc := KK; obtain ⟨e0, e1, e2, e3, e4, e5, e6, l0, hbb⟩ := KKc)
      | (go_at_call 9; (with_reducible refine (search_bad _ _ _ _ _ _ _ _ HB.out).mono ?_); rintro e w1 ⟨rfl, rfl⟩)
      | fail)
  go_ret
  exact ⟨rfl, KK.below⟩

theorem finds_any (a ao at2 : Option Addr) (n c no co nt ct : Nat) (budget m k base : Int) (zs off two : List Int) (w : World) (hbud : budget ≤ 9223372036854775807)
    (hz : IntsAt w a zs) (hzn : zs.length = n) (ho : ShortsAt w ao no off) (ht : ShortsAt w at2 nt two) (hT : TabIn w) :
    Calls Tryd.prog 3 #[caseV a ao at2 n c no co nt ct budget m k base] w (RetV (.bool true) w) := by
  by_cases hs : smallB n no nt = true
  · by_cases hw : wrongB budget m k = true
    · exact finds_wrong a ao at2 n c no co nt ct budget m k base w hs hw hT
    · have hw' : wrongB budget m k = false := by simpa using hw
      have g1 := hs
      have g2 := hw'
      unfold smallB at g1
      unfold wrongB at g2
      simp only [Bool.and_eq_true, decide_eq_true_eq] at g1
      simp only [Bool.or_eq_false_iff, decide_eq_false_iff_not] at g2
      exact finds_main a ao at2 n c no co nt ct budget m k base zs off two w (by omega) (by omega) (by omega) hs hw' (by omega) (by omega) (by omega) (by omega) hbud hz (Lib.hid hzn) ho ht hT
  · exact finds_else a ao at2 n c no co nt ct budget m k base w (by simpa using hs) hT
theorem finds_open {H : Type} {enc : TypeId × Value → H} {W : World} {b0 : Nat} {v1 : Value} {d1 : DataW H} {p1 : List MemPlace}
    (k1 : Value.okWide Tryd.prog W .any b0 25 v1) (h1 : DataW.Trod enc Tryd.prog W 0 (fun _ => true) true 25 v1 d1 p1) (hL : laidMetH Tryd.prog Rows.greedyFindsRow.laid W) :
    Calls Tryd.prog 3 #[v1] W (RetV (.bool true) W) := by
  obtain ⟨aa, ao, at2, n, c, no, co, nt, ct, budget, m, k, base, zs, off, two, rfl, r0, r5, r6, l0, l5, l6, w1, w2, w3, w4⟩ := case_open k1 h1
  exact finds_any aa ao at2 n c no co nt ct budget m k base zs off two W (wf_i64 w1).2 r0.ints r0.1 r5.shorts r6.shorts (table_in hL)
end Go.Proofs.YteckfakabaiipaaDoor
