/- The walk of package value's Arith. -/
import Derived.Test.YtjlpjooaclfnlaaGreatDoorFlo
namespace Go.Proofs.YtjlpjooaclfnlaaGreatDoor
open Go.RowKit

/-- does it fit into 64 bits? -/
def fit64 (n : Int) : Bool := decide (-9223372036854775808 ≤ n) && decide (n ≤ 9223372036854775807)
theorem fit64_in {n : Int} : fit64 n = true ↔ In64 n := by unfold fit64 In64; simp
/-- what two whole numbers come to, by a sign: the number, if it fits -/
def arN (op : List UInt8) (a b : Int) : Option Int := if op = [43] then (if fit64 (a + b) then some (a + b) else none) else if op = [45] then (if fit64 (a - b) then some (a - b) else none) else if op = [42] then (if fit64 (a * b) then some (a * b) else none) else none
def numV : Option Int → Value
  | some n => intV n
  | none => nullV
/-- a float's word; of an operation that gives no number: the one that stands for all of these -/
def flo (o : Option Nat) : Nat := o.getD nanZ
def arF (op : List UInt8) (x y : Nat) : Option Nat := if op = [43] then some (flo (floatBits .add .f64 x y)) else if op = [45] then some (flo (floatBits .sub .f64 x y)) else if op = [42] then some (flo (floatBits .mul .f64 x y)) else none
def realV : Option Nat → Value
  | some f => vV 2 0 (realZ f) ⟨#[]⟩
  | none => nullV
/-- what Arith answers of two clean values -/
def arV (op : List UInt8) (K N : Int) (F : Nat) (K2 N2 : Int) (F2 : Nat) : Value :=
  if K = 1 ∧ K2 = 1 then numV (arN op N N2) else if K = 2 ∧ K2 = 2 then realV (arF op F F2) else nullV

theorem realZ_nan {f : Nat} (h : feq f f = false) : realZ f = nanZ := by unfold realZ; rw [if_pos h]
theorem realV_nan : realV (some (flo none)) = vV 2 0 nanZ ⟨#[]⟩ := by
  show vV 2 0 (realZ nanZ) ⟨#[]⟩ = _
  rw [realZ_nan feq_nan]
theorem ofreal_nan (t : Nat) (w : World) : Calls Tryz.prog 18 #[.float .f64 (nanCut t)] w (RetV (vV 2 0 nanZ ⟨#[]⟩) w) := by
  have := ofreal_any (nanCut t) w
  rwa [realZ_nan (nanCut_nan t)] at this
theorem below_drew {w w2 : World} (h : Below w.drew.heap.size w.drew w2) : Below w.heap.size w w2 := (Below.refl _ w).drew.trans h
theorem wrap64_far (n : Int) : ∃ k : Int, wrap64 n = n + k * 18446744073709551616 := ⟨-((n + 9223372036854775808) / 18446744073709551616), by unfold wrap64; omega⟩
theorem wrap64_rng (n : Int) : In64 (wrap64 n) := by unfold wrap64 In64; omega
theorem add_ok (a b : Int) (ha : In64 a) (hb : In64 b) : (decide (wrap64 (a + b) > a) == decide (b > 0)) = fit64 (a + b) := by
  rw [Bool.eq_iff_iff, fit64_in, beq_iff_eq, Bool.eq_iff_iff, decide_eq_true_iff, decide_eq_true_iff]
  unfold In64 at *
  unfold wrap64
  constructor
  · intro h
    omega
  · intro h
    omega
theorem sub_ok (a b : Int) (ha : In64 a) (hb : In64 b) : (decide (wrap64 (a - b) < a) == decide (b > 0)) = fit64 (a - b) := by
  rw [Bool.eq_iff_iff, fit64_in, beq_iff_eq, Bool.eq_iff_iff, decide_eq_true_iff, decide_eq_true_iff]
  unfold In64 at *
  unfold wrap64
  constructor
  · intro h
    omega
  · intro h
    omega
theorem mul_ok (a b : Int) (ha : In64 a) (hb : In64 b) (_h0 : a ≠ 0) (hb0 : b ≠ 0) : mulOk a b = fit64 (a * b) := by
  rw [Bool.eq_iff_iff, fit64_in]
  unfold mulOk
  simp only [Bool.and_eq_true, Bool.not_eq_true', decide_eq_true_iff, Bool.and_eq_false_iff, decide_eq_false_iff_not]
  constructor
  · rintro ⟨⟨h1, h2⟩, h3⟩
    have hr := wrap64_rng (a * b)
    obtain ⟨k, hk⟩ := wrap64_far (a * b)
    have hm := Int.mul_tdiv_add_tmod (wrap64 (a * b)) b
    have hlt : (Int.tmod (wrap64 (a * b)) b).natAbs < b.natAbs := by
      rw [Int.natAbs_tmod]; exact Nat.mod_lt _ (by omega)
    have hq : In64 ((wrap64 (a * b)).tdiv b) := by
      have h5 : ((wrap64 (a * b)).tdiv b).natAbs ≤ (wrap64 (a * b)).natAbs := by
        rw [Int.natAbs_tdiv]; exact Nat.div_le_self _ _
      unfold In64 at hr ⊢
      refine ⟨by omega, ?_⟩
      by_cases h6 : (wrap64 (a * b)).tdiv b = 9223372036854775808
      · have h7 : a = -9223372036854775808 := by rw [← h1, h6]; unfold wrap64; omega
        have h8 : b = -1 := by
          rw [h6] at hm
          unfold In64 at hb
          omega
        exact absurd h7 (h3.resolve_left (fun h => h h8))
      · omega
    have hqa : (wrap64 (a * b)).tdiv b = a := (wrap64_eq hq).symm.trans h1
    rw [hqa, Int.mul_comm b a] at hm
    have hk0 : k = 0 := by
      unfold In64 at hb
      generalize a * b = p at *
      generalize wrap64 p = v at *
      generalize v.tmod b = r at *
      omega
    rw [hk0] at hk
    rw [show a * b = wrap64 (a * b) by omega]
    exact hr
  · intro h
    have e := wrap64_eq h
    rw [e, Int.mul_tdiv_cancel _ hb0, wrap64_eq ha]
    refine ⟨⟨rfl, ?_⟩, ?_⟩
    · by_cases h1 : a = -1
      · right; intro h2; subst h1; subst h2; unfold In64 at h; omega
      · exact .inl h1
    · by_cases h1 : b = -1
      · right; intro h2; subst h1; subst h2; unfold In64 at h; omega
      · exact .inl h1
/-- whole: a number that fits, or that none does -/
def WholeP (o : Option Int) (w : World) (e : Ending) (w' : World) : Prop :=
  (∃ n ok, e = .returned (.tuple #[.int .i64 n, .bool ok]) ∧ o = if ok = true then some n else none) ∧ w = w'
theorem whole_any (op : ByteArray) (a b : Int) (w : World) (ha : In64 a) (hb : In64 b) : Calls Tryz.prog 46 #[.string op, .int .i64 a, .int .i64 b] w (WholeP (arN op.toList a b) w) := by
  by_cases h1 : op.toList = [43]
  · have e : op = ⟨#[43]⟩ := by
      apply ByteArray.ext; apply Array.toList_inj.1; rw [← ByteArray.toList_eq, h1]
    subst e
    refine (whole_add a b w).mono ?_
    rintro e w' ⟨rfl, rfl⟩
    refine ⟨⟨_, _, rfl, ?_⟩, rfl⟩
    rw [add_ok a b ha hb]
    unfold arN
    rw [if_pos h1]
    by_cases h : fit64 (a + b) = true
    · rw [if_pos h, if_pos h, wrap64_eq (fit64_in.1 h)]
    · rw [if_neg h, if_neg h]
  · by_cases h2 : op.toList = [45]
    · have e : op = ⟨#[45]⟩ := by
        apply ByteArray.ext; apply Array.toList_inj.1; rw [← ByteArray.toList_eq, h2]
      subst e
      refine (whole_sub a b w).mono ?_
      rintro e w' ⟨rfl, rfl⟩
      refine ⟨⟨_, _, rfl, ?_⟩, rfl⟩
      rw [sub_ok a b ha hb]
      unfold arN
      rw [if_neg h1, if_pos h2]
      by_cases h : fit64 (a - b) = true
      · rw [if_pos h, if_pos h, wrap64_eq (fit64_in.1 h)]
      · rw [if_neg h, if_neg h]
    · by_cases h3 : op.toList = [42]
      · have e : op = ⟨#[42]⟩ := by
          apply ByteArray.ext; apply Array.toList_inj.1; rw [← ByteArray.toList_eq, h3]
        subst e
        by_cases h0 : (a == 0 || b == 0) = true
        · refine (whole_mul0 a b w h0).mono ?_
          rintro e w' ⟨rfl, rfl⟩
          refine ⟨⟨_, _, rfl, ?_⟩, rfl⟩
          have hz : a * b = 0 := by
            rw [Bool.or_eq_true, beq_iff_eq, beq_iff_eq] at h0
            rcases h0 with h | h <;> simp [h]
          unfold arN
          rw [if_neg h1, if_neg h2, if_pos h3, hz]
          rfl
        · have ha0 : a ≠ 0 := fun h => h0 (by simp [h])
          have hb0 : b ≠ 0 := fun h => h0 (by simp [h])
          refine (whole_mul a b w (by simpa using ha0) (by simpa using hb0)).mono ?_
          rintro e w' ⟨rfl, rfl⟩
          refine ⟨⟨_, _, rfl, ?_⟩, rfl⟩
          rw [mul_ok a b ha hb ha0 hb0]
          unfold arN
          rw [if_neg h1, if_neg h2, if_pos h3]
          by_cases h : fit64 (a * b) = true
          · rw [if_pos h, if_pos h, wrap64_eq (fit64_in.1 h)]
          · rw [if_neg h, if_neg h]
      · refine (whole_else op a b w h1 h2 h3).mono ?_
        rintro e w' ⟨rfl, rfl⟩
        refine ⟨⟨_, _, rfl, ?_⟩, rfl⟩
        unfold arN
        rw [if_neg h1, if_neg h2, if_neg h3]
        rfl

theorem clN_in (k n : Int) (h : In64 n) : In64 (clN k n) := by
  unfold clN
  unfold In64 at *
  (repeat' split) <;> omega
set_option maxRecDepth 100000 in
set_option maxHeartbeats 8000000 in
theorem arith_any (op : ByteArray) (k n : Int) (f : Nat) (s : ByteArray) (k2 n2 : Int) (f2 : Nat) (s2 : ByteArray) (w : World) (hn : In64 n) (hn2 : In64 n2) : Calls Tryz.prog 15 #[.string op, vV k n f s, vV k2 n2 f2 s2] w (RetV (arV op.toList (clK k) (clN k n) (clF k f) (clK k2) (clN k2 n2) (clF k2 f2)) w) := by
  have sf := store_float
  have TT := Three.start w (.int .i64 k) (.int .i64 n) (.float .f64 f) (.string s) (.int .i64 k2) (.int .i64 n2) (.float .f64 f2) (.string s2)
  obtain ⟨R, hR⟩ : ∃ R, R = arV op.toList (clK k) (clN k n) (clF k f) (clK k2) (clN k2 n2) (clF k2 f2) := ⟨_, rfl⟩
  rw [← hR]
  have HR := Lib.hid hR.symm
  have HI := Lib.hid (And.intro (clN_in k n hn) (clN_in k2 n2 hn2))
  clear hR hn hn2
  go_enter Tryz.func15, Tryz.ntmps15
  go_upto_region 1 with (fail)

  go_cut [] (fun wc => Three w wc (.int .i64 (clK k)) (.int .i64 (clN k n)) (.float .f64 (clF k f)) (.string (clS k s)) (.int .i64 (clK k2)) (.int .i64 (clN k2 n2)) (.float .f64 (clF k2 f2)) (.string (clS k2 s2)))
  case first =>
    have T0 := TT.drew
    obtain ⟨⟨a0, a1, a2, a3⟩, ⟨e0, e1, e2, e3⟩⟩ := T0.cells1
    obtain ⟨⟨b0, b1, b2, b3⟩, ⟨g0, g1, g2, g3⟩⟩ := T0.cells2
    clear TT
    go_region_law (first
      | (go_simp; go_at_call 26; (with_reducible refine (clean_any _ _ _ _ _).mono ?_); rintro e w2 ⟨rfl, hB⟩; (first | (with_reducible have T0 := Three.call T0 hB) | (with_reducible have T0 := Three.call (Three.setA T0 _ _ _ _) hB) | (with_reducible have T0 := Three.call (Three.setB T0 _ _ _ _) hB)); obtain ⟨⟨a0, a1, a2, a3⟩, ⟨e0, e1, e2, e3⟩⟩ := T0.cells1; obtain ⟨⟨b0, b1, b2, b3⟩, ⟨g0, g1, g2, g3⟩⟩ := T0.cells2; clear hB)
      | fail)
    all_goals
      go_wp2_with fail
      go_meet
      first
        | (with_reducible exact Three.setB (Three.setA T0 _ _ _ _) _ _ _ _)
        | (with_reducible exact Three.setA (Three.setB T0 _ _ _ _) _ _ _ _)
        | (with_reducible exact Three.setA T0 _ _ _ _)
        | (with_reducible exact Three.setB T0 _ _ _ _)
        | fail

  case rest =>
  clear TT
  obtain ⟨w3, rfl⟩ : ∃ w3 : World, w3 = wc := ⟨_, rfl⟩
  generalize clK k = K at hcut HR
  generalize clN k n = N at hcut HR HI
  generalize clF k f = F at hcut HR
  generalize clS k s = S at hcut HR
  generalize clK k2 = K2 at hcut HR
  generalize clN k2 n2 = N2 at hcut HR HI
  generalize clF k2 f2 = F2 at hcut HR
  generalize clS k2 s2 = S2 at hcut HR

  obtain ⟨⟨a0, a1, a2, a3⟩, -⟩ := hcut.cells1
  obtain ⟨⟨b0, b1, b2, b3⟩, -⟩ := hcut.cells2
  obtain ⟨⟨d0, d1, d2, d3⟩, ⟨f0, f1, f2', f3⟩⟩ := hcut.2.cells
  have HT := Lib.hid hcut
  clear hcut
  by_cases hk : K = 1 ∧ K2 = 1
  · obtain ⟨rfl, rfl⟩ := hk
    have HW := Lib.hid (fun W => whole_any op N N2 W HI.out.1 HI.out.2)
    have HE := Lib.hid (show arV op.toList 1 N F 1 N2 F2 = numV (arN op.toList N N2) from rfl)
    generalize arN op.toList N N2 = on at HW HE
    go_wp2_with (first
      | (go_at_call 46; (with_reducible refine (HW.out _).mono ?_); rintro e w4 ⟨⟨rn, ok, rfl, hon⟩, rfl⟩; have HON := Lib.hid hon; clear hon; cases ok)
      | (go_at_call 14; (with_reducible refine (ofint_any _ _).mono ?_); rintro e w4 ⟨rfl, hB⟩; have T0 := Three.call HT.out hB; obtain ⟨⟨d0, d1, d2, d3⟩, ⟨f0, f1, f2', f3⟩⟩ := T0.2.cells; clear hB)
      | fail)
    · exact bodyPost_ret (v := nullV) (by simp [results, Tryz.results15, go_sem, d0, d1, d2, d3]) rfl ⟨by rw [← HR.out, HE.out, HON.out]; rfl, below_res HT.out.below _ _ _ _⟩
    · exact bodyPost_ret (v := intV rn) (by simp [results, Tryz.results15, go_sem, d0, d1, d2, d3]) rfl ⟨by rw [← HR.out, HE.out, HON.out]; rfl, below_res T0.below _ _ _ _⟩
  · by_cases hk2 : K = 2 ∧ K2 = 2
    · obtain ⟨rfl, rfl⟩ := hk2
      clear hk
      have HE := Lib.hid (show arV op.toList 2 N F 2 N2 F2 = realV (arF op.toList F F2) from rfl)
      by_cases h0 : op.toList = [43]
      · have HC := Lib.hid (show arF op.toList F F2 = some (flo (floatBits .add .f64 F F2)) by unfold arF; rw [h0]; rfl)
        have e0 : (op.toList == [43]) = true := by rw [h0]; decide
        clear h0
        cases hfb : floatBits .add .f64 F F2 with
        | some r =>
          rw [hfb] at HC
          have hs := fun W => run_float_arith (P := Tryz.prog) W .add 22 .f64 F F2 r hfb
          clear hfb
          go_wp2_with (first
            | (go_at_call 18; (with_reducible refine (ofreal_any _ _).mono ?_); rintro e w4 ⟨rfl, hB⟩; have T0 := Three.call HT.out hB; obtain ⟨⟨d0, d1, d2, d3⟩, ⟨f0, f1, f2', f3⟩⟩ := T0.2.cells; clear hB)
            | fail)
          exact bodyPost_ret (v := vV 2 0 (realZ r) ⟨#[]⟩) (by simp [results, Tryz.results15, go_sem, d0, d1, d2, d3]) rfl ⟨by rw [← HR.out, HE.out, HC.out]; rfl, below_res T0.below _ _ _ _⟩
        | none =>
          rw [hfb] at HC
          have hn := run_float_nan .add (by decide) F F2 hfb
          clear hfb
          go_wp2_with (first
            | (go_at_call 18; (with_reducible refine (ofreal_nan _ _).mono ?_); rintro e w4 ⟨rfl, hB⟩; have T0 := Three.call HT.out (below_drew hB); obtain ⟨⟨d0, d1, d2, d3⟩, ⟨f0, f1, f2', f3⟩⟩ := T0.2.cells; clear hB)
            | fail)
          exact bodyPost_ret (v := vV 2 0 nanZ ⟨#[]⟩) (by simp [results, Tryz.results15, go_sem, d0, d1, d2, d3]) rfl ⟨by rw [← HR.out, HE.out, HC.out]; exact congrArg Ending.returned realV_nan.symm, below_res T0.below _ _ _ _⟩
      · skip
        by_cases h1 : op.toList = [45]
        · have HC := Lib.hid (show arF op.toList F F2 = some (flo (floatBits .sub .f64 F F2)) by unfold arF; rw [h1]; rfl)
          have e1 : (op.toList == [45]) = true := by rw [h1]; decide
          have m0 : (op.toList == [43]) = false := by rw [h1]; decide
          clear h0 h1
          cases hfb : floatBits .sub .f64 F F2 with
          | some r =>
            rw [hfb] at HC
            have hs := fun W => run_float_arith (P := Tryz.prog) W .sub 22 .f64 F F2 r hfb
            clear hfb
            go_wp2_with (first
              | (go_at_call 18; (with_reducible refine (ofreal_any _ _).mono ?_); rintro e w4 ⟨rfl, hB⟩; have T0 := Three.call HT.out hB; obtain ⟨⟨d0, d1, d2, d3⟩, ⟨f0, f1, f2', f3⟩⟩ := T0.2.cells; clear hB)
              | fail)
            exact bodyPost_ret (v := vV 2 0 (realZ r) ⟨#[]⟩) (by simp [results, Tryz.results15, go_sem, d0, d1, d2, d3]) rfl ⟨by rw [← HR.out, HE.out, HC.out]; rfl, below_res T0.below _ _ _ _⟩
          | none =>
            rw [hfb] at HC
            have hn := run_float_nan .sub (by decide) F F2 hfb
            clear hfb
            go_wp2_with (first
              | (go_at_call 18; (with_reducible refine (ofreal_nan _ _).mono ?_); rintro e w4 ⟨rfl, hB⟩; have T0 := Three.call HT.out (below_drew hB); obtain ⟨⟨d0, d1, d2, d3⟩, ⟨f0, f1, f2', f3⟩⟩ := T0.2.cells; clear hB)
              | fail)
            exact bodyPost_ret (v := vV 2 0 nanZ ⟨#[]⟩) (by simp [results, Tryz.results15, go_sem, d0, d1, d2, d3]) rfl ⟨by rw [← HR.out, HE.out, HC.out]; exact congrArg Ending.returned realV_nan.symm, below_res T0.below _ _ _ _⟩
        · skip
          by_cases h2 : op.toList = [42]
          · have HC := Lib.hid (show arF op.toList F F2 = some (flo (floatBits .mul .f64 F F2)) by unfold arF; rw [h2]; rfl)
            have e2 : (op.toList == [42]) = true := by rw [h2]; decide
            have m0 : (op.toList == [43]) = false := by rw [h2]; decide
            have m1 : (op.toList == [45]) = false := by rw [h2]; decide
            clear h0 h1 h2
            cases hfb : floatBits .mul .f64 F F2 with
            | some r =>
              rw [hfb] at HC
              have hs := fun W => run_float_arith (P := Tryz.prog) W .mul 22 .f64 F F2 r hfb
              clear hfb
              go_wp2_with (first
                | (go_at_call 18; (with_reducible refine (ofreal_any _ _).mono ?_); rintro e w4 ⟨rfl, hB⟩; have T0 := Three.call HT.out hB; obtain ⟨⟨d0, d1, d2, d3⟩, ⟨f0, f1, f2', f3⟩⟩ := T0.2.cells; clear hB)
                | fail)
              exact bodyPost_ret (v := vV 2 0 (realZ r) ⟨#[]⟩) (by simp [results, Tryz.results15, go_sem, d0, d1, d2, d3]) rfl ⟨by rw [← HR.out, HE.out, HC.out]; rfl, below_res T0.below _ _ _ _⟩
            | none =>
              rw [hfb] at HC
              have hn := run_float_nan .mul (by decide) F F2 hfb
              clear hfb
              go_wp2_with (first
                | (go_at_call 18; (with_reducible refine (ofreal_nan _ _).mono ?_); rintro e w4 ⟨rfl, hB⟩; have T0 := Three.call HT.out (below_drew hB); obtain ⟨⟨d0, d1, d2, d3⟩, ⟨f0, f1, f2', f3⟩⟩ := T0.2.cells; clear hB)
                | fail)
              exact bodyPost_ret (v := vV 2 0 nanZ ⟨#[]⟩) (by simp [results, Tryz.results15, go_sem, d0, d1, d2, d3]) rfl ⟨by rw [← HR.out, HE.out, HC.out]; exact congrArg Ending.returned realV_nan.symm, below_res T0.below _ _ _ _⟩
          · skip
            have HC := Lib.hid (show arF op.toList F F2 = none by unfold arF; rw [if_neg h0, if_neg h1, if_neg h2])
            have n0 := op_ne h0
            have n1 := op_ne h1
            have n2' := op_ne h2
            clear h0 h1 h2
            go_wp2_with fail
            exact bodyPost_ret (v := nullV) (by simp [results, Tryz.results15, go_sem, d0, d1, d2, d3]) rfl ⟨by rw [← HR.out, HE.out, HC.out]; rfl, below_res HT.out.below _ _ _ _⟩
    · have HE := Lib.hid (show arV op.toList K N F K2 N2 F2 = nullV by unfold arV; rw [if_neg hk, if_neg hk2])
      by_cases h1 : K = 1
      · have c1 : (K2 == 1) = false := by rw [beq_eq_false_iff_ne]; exact fun h => hk ⟨h1, h⟩
        clear hk hk2
        subst h1
        go_wp2_with fail
        exact bodyPost_ret (v := nullV) (by simp [results, Tryz.results15, go_sem, d0, d1, d2, d3]) rfl ⟨by rw [← HR.out, HE.out], below_res HT.out.below _ _ _ _⟩
      · have c1 : (K == 1) = false := by simpa using h1
        by_cases h2 : K = 2
        · have c2 : (K2 == 2) = false := by rw [beq_eq_false_iff_ne]; exact fun h => hk2 ⟨h2, h⟩
          clear hk hk2 h1 c1
          subst h2
          go_wp2_with fail
          exact bodyPost_ret (v := nullV) (by simp [results, Tryz.results15, go_sem, d0, d1, d2, d3]) rfl ⟨by rw [← HR.out, HE.out], below_res HT.out.below _ _ _ _⟩
        · have c2 : (K == 2) = false := by simpa using h2
          clear hk hk2
          go_wp2_with fail
          exact bodyPost_ret (v := nullV) (by simp [results, Tryz.results15, go_sem, d0, d1, d2, d3]) rfl ⟨by rw [← HR.out, HE.out], below_res HT.out.below _ _ _ _⟩
end Go.Proofs.YtjlpjooaclfnlaaGreatDoor
