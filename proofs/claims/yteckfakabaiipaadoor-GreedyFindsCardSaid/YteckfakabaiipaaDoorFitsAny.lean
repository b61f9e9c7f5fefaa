/- The walk of the statement GreedyFits. -/
import Derived.Test.YteckfakabaiipaaDoorFitsWalks
namespace Go.Proofs.YteckfakabaiipaaDoor
open Go.RowKit

/-- a callee that leaves the world alone, in a quiet region -/
theorem quiet_here {P : Program} {f : FuncId} {args : Array Value} {w : World} {n : Nat} {v : Value} (h : Calls P f args (w.drewN n) fun e w' => e = .returned v ∧ w.drewN n = w') : Calls P f args (w.drewN n) fun e w'' => e = .returned v ∧ ∃ m, w'' = w.drewN m :=
  h.mono fun _ _ ⟨he, hm⟩ => ⟨he, n, hm.symm⟩
theorem vbf {p : Prop} [Decidable p] (h : ¬ p) : Value.bool (decide p) = .bool false := by rw [decide_eq_false h]
theorem ok_case {w W : World} {a : Option Addr} {n c : Nat} {so st : Value} {budget m k base : Int} (zs : List Int) (s : Nat) (KK : CaseKept w W (.slice a n c) so st budget m k base) (hn : n ≤ 10) (hs : s < 65536) (h0 : 0 ≤ budget) (h1 : budget ≤ 9223372036854775807) (hz : IntsAt w a zs) (hzn : zs.length = n) (v : Bool) (hv : fitsL zs 0 budget s = v) :
    Calls Tryd.prog 16 #[.int .u32 s, .pointer (some ⟨w.heap.size, 0, none⟩)] W fun e w' => e = .returned (.bool v) ∧ W = w' := by
  subst hv
  have hb := KK.below
  obtain ⟨e0, e1, _⟩ := KK
  subst hzn
  exact ok_any a _ c zs budget s W (by omega) hs h0 h1 e0 e1 (hz.keep hb)
theorem CaseKept.drewN {w w' : World} {sl so st : Value} {budget m k base : Int} (h : CaseKept w w' sl so st budget m k base) (q : Nat) : CaseKept w (w'.drewN q) sl so st budget m k base := h.call (below_drewN (Below.refl _ _) q)

set_option maxRecDepth 100000 in
set_option maxHeartbeats 4000000 in
theorem greedyFits_main (a ao at2 : Option Addr) (n c no co nt ct : Nat) (budget m k base : Int) (zs off two : List Int) (w : World) (hn10 : n ≤ 10) (hno : no ≤ 20) (hnt : nt ≤ 20) (hs : smallB n no nt = true) (hw : wrongB budget m k = false)
    (hm0 : 0 ≤ m) (hm3 : m ≤ 3) (hk0 : 0 ≤ k) (hb0 : 0 ≤ budget) (hbud : budget ≤ 9223372036854775807)
    (hz : IntsAt w a zs) (hzn : Hid (zs.length = n)) (ho : ShortsAt w ao no off) (ht : ShortsAt w at2 nt two) (hT : TabIn w) :
    Calls Tryd.prog 4 #[caseV a ao at2 n c no co nt ct budget m k base] w (RetV (.bool true) w) := by
  have KK := CaseKept.start w (.slice a n c) (.slice ao no co) (.slice at2 nt ct) budget m k base
  have hP : Prices w 10 #[.agg #[.slice a n c, .int .i64 budget, .int .i64 m, .int .i64 k, .int .i64 base, .slice ao no co, .slice at2 nt ct]] (fun s => priceA base off two s n) :=
    ⟨Go.Proofs.enters_of Tryd.func10 (by kernel_rfl) rfl, fun s W hs hB => price_case a ao at2 n c no co nt ct budget m k base off two s W hn10 hno hnt hs (ho.keep hB (Nat.le_refl _)) (ht.keep hB (Nat.le_refl _))⟩
  obtain ⟨r, hr⟩ : ∃ r, r = growS zs budget (fun s => priceA base off two s n) k (seedS zs budget (fun s => priceA base off two s n) (min m k) (2 ^ zs.length)) := ⟨_, rfl⟩
  have hlaw := fits_law zs budget (fun s => priceA base off two s n) m k (by rw [hzn.out]; omega) hb0 hm0 hk0 r hr
  have c9 : ∀ W, Below w.heap.size w W → Calls Tryd.prog 9 #[.slice a n c, .int .i64 budget, .int .i64 m, .int .i64 k, .func (.func 10) #[.agg #[.slice a n c, .int .i64 budget, .int .i64 m, .int .i64 k, .int .i64 base, .slice ao no co, .slice at2 nt ct]] #[]] W (RetV (.tuple #[.int .u32 r, .int .i64 0]) W) := by
    intro W hB
    have := search_all a c zs budget 10 _ _ m k w W (by rw [hzn.out]; omega) hb0 hbud (hz.keep hB) (hT.keep hB) hP hB hB.size hm0 hm3 hk0
    rw [hzn.out] at this
    rw [hzn.out] at hr
    rw [hr]
    exact this
  rw [hzn.out] at hlaw
  have HL := Lib.hid hlaw
  have CP := Lib.hid (fun s W (h1 : s < 65536) (h2 : Below w.heap.size w W) => price_case a ao at2 n c no co nt ct budget m k base off two s W hn10 hno hnt h1 (ho.keep h2 (Nat.le_refl _)) (ht.keep h2 (Nat.le_refl _)))
  have C9 := Lib.hid c9
  clear hlaw c9 hP hr
  have hr2 : r < 65536 := by
    have h1 := HL.out.1
    have h2 : 2 ^ n ≤ 2 ^ 16 := Nat.pow_le_pow_right (by omega) (by omega)
    omega
  have hg : ¬ wrap64 (2 ^ n) ≤ (r : Int) := by
    have h1 := HL.out.1
    have h2 : 2 ^ n ≤ 2 ^ 16 := Nat.pow_le_pow_right (by omega) (by omega)
    have e : (2 : Int) ^ n = ((2 ^ n : Nat) : Int) := by simp
    rw [e, IntWalk.wrap64_in _ ⟨by omega, by omega⟩]
    omega
  have hpk : ¬ k < (pc r : Int) := by have := HL.out.2.2.1; omega
  go_enter Tryd.func4, Tryd.ntmps4
  go_wp2_with (first
      | (go_at_call 7; (with_reducible refine (lives_any _ ?_).mono ?_); exact hT.keep KK.below; rintro e w1 ⟨rfl, hB⟩; have KK := KK.call hB; clear hB; (try clear e0 e1 e2 e3 e4 e5 e6 l0 hbb); have KKc := KK; obtain ⟨e0, e1, e2, e3, e4, e5, e6, l0, hbb⟩ := KKc)
      | (go_at_call 8; (with_reducible refine (fits_case a ao at2 n c no co nt ct budget m k base _).mono ?_); rintro e w1 ⟨rfl, hB⟩; have KK := KK.call hB; clear hB; (try clear e0 e1 e2 e3 e4 e5 e6 l0 hbb); have KKc := KK; obtain ⟨e0, e1, e2, e3, e4, e5, e6, l0, hbb⟩ := KKc)
      | (go_at_call 11; (with_reducible refine (wrong_any a ao at2 n c no co nt ct budget m k base _).mono ?_); rintro e w1 ⟨rfl, hB⟩; have KK := KK.call hB; clear hB; (try clear e0 e1 e2 e3 e4 e5 e6 l0 hbb); have KKc := KK; obtain ⟨e0, e1, e2, e3, e4, e5, e6, l0, hbb⟩ := KKc)
      | (go_at_call 9; (with_reducible refine Calls.mono (C9.out _ KK.below) ?_); rintro e w1 ⟨rfl, hB⟩; have KK := KK.call hB; clear hB; (try clear e0 e1 e2 e3 e4 e5 e6 l0 hbb); have KKc := KK; obtain ⟨e0, e1, e2, e3, e4, e5, e6, l0, hbb⟩ := KKc))
  go_cut [57] (fun s57 wc => s57 = .bool false ∧ CaseKept w wc (.slice a n c) (.slice ao no co) (.slice at2 nt ct) budget m k base)
  case first =>
    go_quiet (first
      | ((with_reducible refine quiet_here (ok_case zs _ (KK.drewN _) hn10 hr2 hb0 hbud hz hzn.out true HL.out.2.1)))
      | ((with_reducible refine quiet_here (many_any _ _ ?_)); omega))
    have KK := KK.drewN nq
    have KKc := KK; obtain ⟨e0, e1, e2, e3, e4, e5, e6, l0, hbb⟩ := KKc
    go_wp2_with fail
    go_meet
    exact ⟨vbf (by omega), KK⟩
  clear e0 e1 e2 e3 e4 e5 e6 l0 hbb KK
  obtain ⟨rfl, KK⟩ := hcut
  go_wp2
  go_loopw [7] (fun i wr => ∃ s : Nat, s ≤ 2 ^ n ∧ i = .int .u32 s ∧ CaseKept w wr (.slice a n c) (.slice ao no co) (.slice at2 nt ct) budget m k base) (fun i _ => 2 ^ n - (intOf i).toNat)
  case atStart => exact ⟨0, Nat.zero_le _, rfl, KK⟩
  case round =>
    clear KK
    obtain ⟨s, hs2, rfl, KK⟩ := hrel
    (try clear e0 e1 e2 e3 e4 e5 e6 l0 hbb); have KKc := KK; obtain ⟨e0, e1, e2, e3, e4, e5, e6, l0, hbb⟩ := KKc
    have hpow : 2 ^ n ≤ 1024 := Nat.pow_le_pow_right (n := 2) (by omega) hn10
    by_cases hlt : s < 2 ^ n
    · have hlt2 : (s : Int) < 2 ^ n % 4294967296 := by
        have e : (2 : Int) ^ n = ((2 ^ n : Nat) : Int) := by simp
        rw [e]; omega
      have hs65 : s < 65536 := by omega
      have HLT := Lib.hid hlt
      clear hlt hpow hs2
      have KA := KK.call (Below.refl _ wr).drew
      unfold CaseKept at KA
      go_wp2_with fail
      go_cut [88] (fun s88 wc => s88 = .bool false ∧ CaseKept w wc (.slice a n c) (.slice ao no co) (.slice at2 nt ct) budget m k base)
      case first =>
        by_cases hmk : k < m
        · by_cases hp : (pc s : Int) ≤ k
          · by_cases hf : fitsL zs 0 budget s = true
            · have hpr : ¬ priceA base off two s n < priceA base off two r n := by
                have := HL.out.2.2.2 s HLT.out hf (by omega)
                omega
              go_region_held3 (fun wx => wx.cell? ⟨w.heap.size, 0, none⟩ = some (.slice a n c) ∧ wx.cell? ⟨w.heap.size, 1, none⟩ = some (.int .i64 budget) ∧ wx.cell? ⟨w.heap.size, 2, none⟩ = some (.int .i64 m) ∧ wx.cell? ⟨w.heap.size, 3, none⟩ = some (.int .i64 k) ∧ wx.cell? ⟨w.heap.size, 4, none⟩ = some (.int .i64 base) ∧ wx.cell? ⟨w.heap.size, 5, none⟩ = some (.slice ao no co) ∧ wx.cell? ⟨w.heap.size, 6, none⟩ = some (.slice at2 nt ct) ∧ w.heap.size < wx.heap.size ∧ Below w.heap.size w wx)
                (first
                  | (with_reducible exact KA)
                  | (with_reducible assumption)
                  | exact CaseKept.call (w' := _) (by unfold CaseKept; assumption) hB2)
                (first
                  | (go_at_call 15; (with_reducible refine (many_any _ _ ?_).mono ?_); omega; rintro e w2 ⟨rfl, rfl⟩)
                  | (go_at_call 16; (with_reducible refine (ok_case (a := a) (n := n) (c := c) (so := .slice ao no co) (st := .slice at2 nt ct) (budget := budget) (m := m) (k := k) (base := base) zs _ ?_ hn10 (by omega) hb0 hbud hz hzn.out true hf).mono ?_); (unfold CaseKept; assumption); rintro e w2 ⟨rfl, rfl⟩)
                  | (go_at_call 10; (with_reducible refine Calls.mono (CP.out _ _ ?_ ?_) ?_); omega; exact CaseKept.below (w' := _) (by unfold CaseKept; assumption); rintro e w2 ⟨rfl, hB2⟩))
              all_goals
                rename_i hHeld
                go_wp2_with fail
                go_meet
                exact ⟨vbf (by omega), by unfold CaseKept; exact hHeld⟩
            · have hf' : fitsL zs 0 budget s = false := by simpa using hf
              clear hf
              go_quiet (first
                | ((with_reducible refine quiet_here (ok_case zs _ (KK.drewN _) hn10 (by omega) hb0 hbud hz hzn.out false hf')))
                | ((with_reducible refine quiet_here (many_any _ _ ?_)); omega))
              have KK := KK.drewN nq
              go_wp2_with fail
              go_meet
              exact ⟨rfl, KK⟩
          · have hp' : decide ((pc s : Int) ≤ k) = false := by simpa using hp
            clear hp
            go_quiet (first
              | ((with_reducible refine quiet_here (ok_case zs _ (KK.drewN _) hn10 (by omega) hb0 hbud hz hzn.out false rfl)))
              | ((with_reducible refine quiet_here (many_any _ _ ?_)); omega))
            have KK := KK.drewN nq
            go_wp2_with fail
            go_meet
            exact ⟨rfl, KK⟩
        · by_cases hp : (pc s : Int) ≤ m
          · by_cases hf : fitsL zs 0 budget s = true
            · have hpr : ¬ priceA base off two s n < priceA base off two r n := by
                have := HL.out.2.2.2 s HLT.out hf (by omega)
                omega
              have hmk3 : (k < m) = False := eq_false hmk
              have hmk4 : decide (k < m) = false := by simp [hmk3]
              go_region_held3 (fun wx => wx.cell? ⟨w.heap.size, 0, none⟩ = some (.slice a n c) ∧ wx.cell? ⟨w.heap.size, 1, none⟩ = some (.int .i64 budget) ∧ wx.cell? ⟨w.heap.size, 2, none⟩ = some (.int .i64 m) ∧ wx.cell? ⟨w.heap.size, 3, none⟩ = some (.int .i64 k) ∧ wx.cell? ⟨w.heap.size, 4, none⟩ = some (.int .i64 base) ∧ wx.cell? ⟨w.heap.size, 5, none⟩ = some (.slice ao no co) ∧ wx.cell? ⟨w.heap.size, 6, none⟩ = some (.slice at2 nt ct) ∧ w.heap.size < wx.heap.size ∧ Below w.heap.size w wx)
                (first
                  | (with_reducible exact KA)
                  | (with_reducible assumption)
                  | exact CaseKept.call (w' := _) (by unfold CaseKept; assumption) hB2)
                (first
                  | (go_at_call 15; (with_reducible refine (many_any _ _ ?_).mono ?_); omega; rintro e w2 ⟨rfl, rfl⟩)
                  | (go_at_call 16; (with_reducible refine (ok_case (a := a) (n := n) (c := c) (so := .slice ao no co) (st := .slice at2 nt ct) (budget := budget) (m := m) (k := k) (base := base) zs _ ?_ hn10 (by omega) hb0 hbud hz hzn.out true hf).mono ?_); (unfold CaseKept; assumption); rintro e w2 ⟨rfl, rfl⟩)
                  | (go_at_call 10; (with_reducible refine Calls.mono (CP.out _ _ ?_ ?_) ?_); omega; exact CaseKept.below (w' := _) (by unfold CaseKept; assumption); rintro e w2 ⟨rfl, hB2⟩))
              all_goals
                rename_i hHeld
                go_wp2_with fail
                go_meet
                exact ⟨vbf (by omega), by unfold CaseKept; exact hHeld⟩
            · have hf' : fitsL zs 0 budget s = false := by simpa using hf
              clear hf
              go_quiet (first
                | ((with_reducible refine quiet_here (ok_case zs _ (KK.drewN _) hn10 (by omega) hb0 hbud hz hzn.out false hf')))
                | ((with_reducible refine quiet_here (many_any _ _ ?_)); omega))
              have KK := KK.drewN nq
              go_wp2_with fail
              go_meet
              exact ⟨rfl, KK⟩
          · have hp' : decide ((pc s : Int) ≤ m) = false := by simpa using hp
            clear hp
            go_quiet (first
              | ((with_reducible refine quiet_here (ok_case zs _ (KK.drewN _) hn10 (by omega) hb0 hbud hz hzn.out false rfl)))
              | ((with_reducible refine quiet_here (many_any _ _ ?_)); omega))
            have KK := KK.drewN nq
            go_wp2_with fail
            go_meet
            exact ⟨rfl, KK⟩
      clear KA KK e0 e1 e2 e3 e4 e5 e6 l0 hbb
      obtain ⟨rfl, KK⟩ := hcut
      go_wp2_with fail
      go_roundw
      case rel => exact ⟨s + 1, by have := HLT.out; omega, by go_num, KK⟩
      case measure => have := HLT.out; simp [intOf]; omega
    · have hge : (2 : Int) ^ n % 4294967296 ≤ s := by
        have e : (2 : Int) ^ n = ((2 ^ n : Nat) : Int) := by simp
        rw [e]; omega
      clear hlt hs2 hpow
      go_wp2
      go_ret
      exact ⟨rfl, KK.below⟩

set_option maxRecDepth 100000 in
set_option maxHeartbeats 1000000 in
theorem greedyFits_else (a ao at2 : Option Addr) (n c no co nt ct : Nat) (budget m k base : Int) (w : World) (hs : smallB n no nt = false ∨ wrongB budget m k = true) (hT : TabIn w) :
    Calls Tryd.prog 4 #[caseV a ao at2 n c no co nt ct budget m k base] w (RetV (.bool true) w) := by
  have KK := CaseKept.start w (.slice a n c) (.slice ao no co) (.slice at2 nt ct) budget m k base
  by_cases hs1 : smallB n no nt = false
  all_goals first
    | (have hs2 : smallB n no nt = true := by simpa using hs1)
    | skip
  all_goals first
    | (have hw : wrongB budget m k = true := hs.resolve_left hs1)
    | skip
  all_goals
    clear hs
    go_enter Tryd.func4, Tryd.ntmps4
    go_wp2_with (first
      | (go_at_call 7; (with_reducible refine (lives_any _ ?_).mono ?_); exact hT.keep KK.below; rintro e w1 ⟨rfl, hB⟩; have KK := KK.call hB; clear hB; (try clear e0 e1 e2 e3 e4 e5 e6 l0 hbb); have KKc := KK; obtain ⟨e0, e1, e2, e3, e4, e5, e6, l0, hbb⟩ := KKc)
      | (go_at_call 8; (with_reducible refine (fits_case a ao at2 n c no co nt ct budget m k base _).mono ?_); rintro e w1 ⟨rfl, hB⟩; have KK := KK.call hB; clear hB; (try clear e0 e1 e2 e3 e4 e5 e6 l0 hbb); have KKc := KK; obtain ⟨e0, e1, e2, e3, e4, e5, e6, l0, hbb⟩ := KKc)
      | (go_at_call 11; (with_reducible refine (wrong_any a ao at2 n c no co nt ct budget m k base _).mono ?_); rintro e w1 ⟨rfl, hB⟩; have KK := KK.call hB; clear hB; (try clear e0 e1 e2 e3 e4 e5 e6 l0 hbb); have KKc := KK; obtain ⟨e0, e1, e2, e3, e4, e5, e6, l0, hbb⟩ := KKc))
    go_ret
    exact ⟨rfl, KK.below⟩

theorem greedyFits_any (a ao at2 : Option Addr) (n c no co nt ct : Nat) (budget m k base : Int) (zs off two : List Int) (w : World) (hbud : budget ≤ 9223372036854775807)
    (hz : IntsAt w a zs) (hzn : zs.length = n) (ho : ShortsAt w ao no off) (ht : ShortsAt w at2 nt two) (hT : TabIn w) :
    Calls Tryd.prog 4 #[caseV a ao at2 n c no co nt ct budget m k base] w (RetV (.bool true) w) := by
  by_cases hs : smallB n no nt = false ∨ wrongB budget m k = true
  · exact greedyFits_else a ao at2 n c no co nt ct budget m k base w hs hT
  · simp only [not_or, Bool.not_eq_false, Bool.not_eq_true] at hs
    obtain ⟨h1, h2⟩ := hs
    have g1 := h1
    have g2 := h2
    unfold smallB at g1
    unfold wrongB at g2
    simp only [Bool.and_eq_true, decide_eq_true_eq] at g1
    simp only [Bool.or_eq_false_iff, decide_eq_false_iff_not] at g2
    exact greedyFits_main a ao at2 n c no co nt ct budget m k base zs off two w (by omega) (by omega) (by omega) h1 h2 (by omega) (by omega) (by omega) (by omega) hbud hz (Lib.hid hzn) ho ht hT
end Go.Proofs.YteckfakabaiipaaDoor
