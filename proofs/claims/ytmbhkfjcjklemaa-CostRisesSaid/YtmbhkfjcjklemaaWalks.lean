/- The walks of package cost and its reference: what each function computes. -/
import Derived.Test.YtmbhkfjcjklemaaRows
import Derived.Test.YtmbhkfjcjklemaaPlain
import Derived.WalkKit
import Derived.WalkSpells
import Derived.WalkLawsBesides
import Derived.Handy
import Derived.Lib.Hide
namespace Go.Proofs.Ytmbhkfjcjklemaa
open Go.RowKit

theorem ret_i64 {a b : Int} (h : a = b) : Ending.returned (.int .i64 a) = .returned (.int .i64 b) := by rw [h]

/-- the call returns this cost and leaves the world alone -/
def RetC (x : Int) (w : World) (e : Ending) (w' : World) : Prop := e = .returned (.int .i64 x) ∧ w = w' ∧ 0 ≤ x ∧ x ≤ 4503599627370496

set_option maxHeartbeats 400000 in
theorem fit_any (n : Int) (w : World) :
    Calls Try.prog 9 #[.int .i64 n] w (RetC (fitZ n) w) := by
  have hb := fitZ_bd n
  have hlo : n < 0 → fitZ n = 0 := fun h => by unfold fitZ; rw [if_pos h]
  have hhi : 4503599627370496 < n → fitZ n = 4503599627370496 := fun h => fitZ_big _ (by omega)
  have hin : 0 ≤ n → n ≤ 4503599627370496 → fitZ n = n := fitZ_of n
  have H := Lib.hid (And.intro hlo (And.intro hhi hin)); clear hlo hhi hin
  by_cases h1 : 4503599627370496 < n
  · have h2 : 0 < n := by omega
    go_enter Try.func9, Try.ntmps9
    go_wp2
    go_ret
    exact ⟨ret_i64 (H.out.2.1 (by omega)).symm, rfl, hb⟩
  · by_cases h2 : 0 < n
    · go_enter Try.func9, Try.ntmps9
      go_wp2
      go_ret
      exact ⟨ret_i64 (H.out.2.2 (by omega) (by omega)).symm, rfl, hb⟩
    · go_enter Try.func9, Try.ntmps9
      go_wp2
      go_ret
      refine ⟨ret_i64 ?_, rfl, by omega, by omega⟩
      by_cases h3 : n < 0
      · exact (H.out.1 h3).symm
      · rw [H.out.2.2 (by omega) (by omega)]; omega

set_option maxHeartbeats 400000 in
theorem rfit_any (n : Int) (w : World) :
    Calls Try.prog 10 #[.int .i64 n] w (RetC (fitZ n) w) := by
  have hb := fitZ_bd n
  by_cases h1 : n < 0
  · go_enter Try.func10, Try.ntmps10
    go_wp2
    go_ret
    exact ⟨ret_i64 (by unfold fitZ; rw [if_pos h1]), rfl, hb⟩
  · by_cases h2 : 4503599627370496 < n
    · go_enter Try.func10, Try.ntmps10
      go_wp2
      go_ret
      exact ⟨ret_i64 (fitZ_big n (by omega)).symm, rfl, hb⟩
    · go_enter Try.func10, Try.ntmps10
      go_wp2
      go_ret
      exact ⟨ret_i64 (fitZ_of n (by omega) (by omega)).symm, rfl, hb⟩

set_option maxHeartbeats 400000 in
theorem radd_any (a b : Int) (w : World) :
    Calls Try.prog 12 #[.int .i64 a, .int .i64 b] w (RetC (addZ a b) w) := by
  have hb := addZ_bd a b
  go_enter Try.func12, Try.ntmps12
  go_wp2_with (go_at_call 10; refine (rfit_any _ _).mono ?_; rintro e w' ⟨rfl, rfl, h1, h2⟩)
  go_ret
  exact ⟨rfl, rfl, hb⟩

set_option maxHeartbeats 400000 in
theorem mul_any (a b : Int) (w : World) :
    Calls Try.prog 13 #[.int .i64 a, .int .i64 b] w (RetC (mulZ a b) w) := by
  have hb := mulZ_bd a b
  have ha := fitZ_bd a
  by_cases h0 : 0 < fitZ a
  · by_cases h1 : 4503599627370496 / fitZ a < fitZ b
    · have H := Lib.hid (mulZ_big a b h0 h1)
      go_enter Try.func13, Try.ntmps13
      go_wp2_with (go_at_call 9; refine (fit_any _ _).mono ?_; rintro e w' ⟨rfl, rfl, h1, h2⟩)
      go_ret
      exact ⟨ret_i64 H.out.symm, rfl, hb⟩
    · obtain ⟨e, e1, e2⟩ := mulZ_small a b h0 (by omega)
      have H := Lib.hid e; clear e
      go_enter Try.func13, Try.ntmps13
      go_wp2_with (go_at_call 9; refine (fit_any _ _).mono ?_; rintro e w' ⟨rfl, rfl, h1, h2⟩)
      go_ret
      exact ⟨ret_i64 H.out.symm, rfl, hb⟩
  · have H := Lib.hid (mulZ_zero a b (by omega))
    have e : fitZ a * fitZ b = 0 := by rw [show fitZ a = 0 by omega, Int.zero_mul]
    have e1 : 0 ≤ fitZ a * fitZ b := by omega
    have e2 : fitZ a * fitZ b ≤ 0 := by omega
    have H2 := Lib.hid e; clear e
    have hd : decide (0 < fitZ a) = false := by simpa using h0
    go_enter Try.func13, Try.ntmps13
    go_wp2_with (go_at_call 9; refine (fit_any _ _).mono ?_; rintro e w' ⟨rfl, rfl, h1, h2⟩)
    go_ret
    exact ⟨ret_i64 (by rw [H.out, H2.out]), rfl, hb⟩


set_option maxHeartbeats 400000 in
theorem add0_any (w : World) :
    Calls Try.prog 11 #[.slice none 0 0] w (RetC 0 w) := by
  go_enter Try.func11, Try.ntmps11
  go_wp2
  refine wp_loop_rounds 1 ?_
  rw [rounds_succ]
  go_wp2
  go_ret
  exact ⟨rfl, rfl, by omega, by omega⟩

set_option maxHeartbeats 400000 in
theorem add2_any (a b : Int) (k : Nat) (w : World) (h0 : w.cell? ⟨k, 0, none⟩ = some (.int .i64 a)) (h1 : w.cell? ⟨k, 1, none⟩ = some (.int .i64 b)) :
    Calls Try.prog 11 #[.slice (some ⟨k, 0, none⟩) 2 2] w (RetC (addZ a b) w) := by
  have hb := addZ_bd a b
  go_enter Try.func11, Try.ntmps11
  go_wp2
  refine wp_loop_rounds 3 ?_
  iterate 3 (rw [rounds_succ]; go_wp2_with (go_at_call 9; refine (fit_any _ _).mono ?_; rintro e w' ⟨rfl, rfl, h1, h2⟩))
  go_ret
  exact ⟨ret_i64 (by simp only [addZ, fitZ_idem]), rfl, hb⟩

set_option maxHeartbeats 400000 in
theorem add3_any (a b c : Int) (k : Nat) (w : World) (h0 : w.cell? ⟨k, 0, none⟩ = some (.int .i64 a)) (h1 : w.cell? ⟨k, 1, none⟩ = some (.int .i64 b)) (h2 : w.cell? ⟨k, 2, none⟩ = some (.int .i64 c)) :
    Calls Try.prog 11 #[.slice (some ⟨k, 0, none⟩) 3 3] w (RetC (addZ (addZ a b) c) w) := by
  have hb := addZ_bd (addZ a b) c
  go_enter Try.func11, Try.ntmps11
  go_wp2
  refine wp_loop_rounds 4 ?_
  iterate 4 (rw [rounds_succ]; go_wp2_with (go_at_call 9; refine (fit_any _ _).mono ?_; rintro e w' ⟨rfl, rfl, h1, h2⟩))
  go_ret
  exact ⟨ret_i64 (by simp only [addZ, fitZ_idem]), rfl, hb⟩

set_option maxHeartbeats 400000 in
theorem rmul_any (a b : Int) (w : World) :
    Calls Try.prog 14 #[.int .i64 a, .int .i64 b] w (RetC (mulZ a b) w) := by
  have hb := mulZ_bd a b
  have ha := fitZ_bd a
  have hB := fitZ_bd b
  have e0 : (0 : Int) + fitZ a * fitZ b = fitZ a * fitZ b := by omega
  have HS : Hid (fitZ (0 + fitZ a * fitZ b) = mulZ a b) := by rw [e0]; exact rfl
  clear e0
  go_enter Try.func14, Try.ntmps14
  go_wp2_with (go_at_call 10; refine (rfit_any _ _).mono ?_; rintro e w' ⟨rfl, rfl, h1, h2⟩)
  go_loop [0, 1, 5] (fun x y n => ∃ X Y N : Int, x = .int .i64 X ∧ y = .int .i64 Y ∧ n = .int .i64 N ∧ 0 ≤ X ∧ X ≤ 4503599627370496 ∧ 0 ≤ Y ∧ Y ≤ 4503599627370496 ∧ 0 ≤ N ∧ N ≤ 4503599627370496 ∧ Hid (fitZ (N + X * Y) = mulZ a b)) (fun _ y _ => (intOf y).toNat)
  case atStart => exact ⟨_, _, _, rfl, rfl, rfl, ha.1, ha.2, hB.1, hB.2, by omega, by omega, HS⟩
  case round =>
    obtain ⟨X, Y, N, rfl, rfl, rfl, hX0, hX1, hY0, hY1, hN0, hN1, HI⟩ := hrel
    by_cases hy : 0 < Y
    · have HM := Lib.hid (mul_step N X Y hN0 hX0 hy hN1 hX1)
      have hA := addZ_bd N X
      have hA2 := addZ_bd X X
      by_cases ho : Y % 2 = 1
      · go_wp2_with (go_at_call 12; refine (radd_any _ _ _).mono ?_; rintro e w' ⟨rfl, rfl, h1, h2⟩)
        go_round
        case rel => exact ⟨_, _, _, rfl, rfl, rfl, hA2.1, hA2.2, by omega, by omega, hA.1, hA.2, Lib.hid (by have := HM.out; rw [if_pos ho] at this; rw [this]; exact HI.out)⟩
        case measure => simp [intOf]; omega
      · go_wp2_with (go_at_call 12; refine (radd_any _ _ _).mono ?_; rintro e w' ⟨rfl, rfl, h1, h2⟩)
        go_round
        case rel => exact ⟨_, _, _, rfl, rfl, rfl, hA2.1, hA2.2, by omega, by omega, hN0, hN1, Lib.hid (by have := HM.out; rw [if_neg ho] at this; rw [this]; exact HI.out)⟩
        case measure => simp [intOf]; omega
    · go_wp2
      go_ret
      refine ⟨ret_i64 ?_, rfl, by omega, by omega⟩
      have hz : Y = 0 := by omega
      have := HI.out
      rw [hz, Int.mul_zero, Int.add_zero, fitZ_of N hN0 hN1] at this
      exact this

set_option maxHeartbeats 400000 in
theorem part_any (n t : Int) (w : World) :
    Calls Try.prog 19 #[.int .i64 n, .int .i64 t] w (RetC (partZ n t) w) := by
  have hb := partZ_bd n t
  have hn := fitZ_bd n
  have H := Lib.hid (part_way n t)
  have b1 := part_bd1 n t
  have b2 := part_bd2 n t
  by_cases h1 : 1000 < t
  · have et : thouZ t = 1000 := by unfold thouZ; split <;> (try split) <;> omega
    rw [et] at b1 b2
    have HE := Lib.hid et; clear et
    have h2 : 0 < t := by omega
    go_enter Try.func19, Try.ntmps19
    go_wp2_with (go_at_call 9; refine (fit_any _ _).mono ?_; rintro e w' ⟨rfl, rfl, h1, h2⟩)
    go_ret
    exact ⟨ret_i64 (by have := H.out; rw [HE.out] at this; omega), rfl, hb⟩
  · by_cases h2 : 0 < t
    · have et : thouZ t = t := by unfold thouZ; split <;> (try split) <;> omega
      rw [et] at b1 b2
      have HE := Lib.hid et; clear et
      go_enter Try.func19, Try.ntmps19
      go_wp2_with (go_at_call 9; refine (fit_any _ _).mono ?_; rintro e w' ⟨rfl, rfl, h1, h2⟩)
      go_ret
      exact ⟨ret_i64 (by have := H.out; rw [HE.out] at this; omega), rfl, hb⟩
    · have et : thouZ t = 0 := by unfold thouZ; split <;> (try split) <;> omega
      rw [et] at b1 b2
      have HE := Lib.hid et; clear et
      go_enter Try.func19, Try.ntmps19
      go_wp2_with (go_at_call 9; refine (fit_any _ _).mono ?_; rintro e w' ⟨rfl, rfl, h1, h2⟩)
      go_ret
      exact ⟨ret_i64 (by have := H.out; rw [HE.out] at this; omega), rfl, hb⟩

set_option maxHeartbeats 400000 in
theorem rpart_any (n t : Int) (w : World) :
    Calls Try.prog 20 #[.int .i64 n, .int .i64 t] w (RetC (partZ n t) w) := by
  have hb := partZ_bd n t
  have hn := fitZ_bd n
  have b1 := part_prod_bd n t
  by_cases h1 : 1000 < t
  · have et : thouZ t = 1000 := by unfold thouZ; split <;> (try split) <;> omega
    have HE := Lib.hid (show partZ n t = fitZ n * 1000 / 1000 by unfold partZ; rw [et])
    rw [et] at b1
    clear et
    have h2 : ¬ t < 0 := by omega
    go_enter Try.func20, Try.ntmps20
    go_wp2_with (go_at_call 10; refine (rfit_any _ _).mono ?_; rintro e w' ⟨rfl, rfl, h1, h2⟩)
    go_ret
    exact ⟨ret_i64 (by have := HE.out; omega), rfl, hb⟩
  · by_cases h2 : t < 0
    · have et : thouZ t = 0 := by unfold thouZ; split <;> (try split) <;> omega
      have HE := Lib.hid (show partZ n t = 0 by unfold partZ; rw [et]; simp)
      rw [et] at b1
      clear et
      go_enter Try.func20, Try.ntmps20
      go_wp2_with (go_at_call 10; refine (rfit_any _ _).mono ?_; rintro e w' ⟨rfl, rfl, h1, h2⟩)
      go_ret
      exact ⟨ret_i64 (by rw [HE.out]), rfl, hb⟩
    · have et : thouZ t = t := by unfold thouZ; split <;> (try split) <;> omega
      have HE := Lib.hid (show partZ n t = fitZ n * t / 1000 by unfold partZ; rw [et])
      rw [et] at b1
      clear et
      go_enter Try.func20, Try.ntmps20
      go_wp2_with (go_at_call 10; refine (rfit_any _ _).mono ?_; rintro e w' ⟨rfl, rfl, h1, h2⟩)
      go_ret
      exact ⟨ret_i64 HE.out.symm, rfl, hb⟩


set_option maxHeartbeats 400000 in
theorem bits_any (n : Int) (w : World) :
    Calls Try.prog 21 #[.int .i64 n] w (RetC (bitsZ n) w) := by
  have hb := bitsZ_bd n
  have hn := fitZ_bd n
  have HB := Lib.hid (show ((0 : Nat) : Int) + bitsN (fitZ n).toNat = bitsZ n by simp [bitsZ])
  go_enter Try.func21, Try.ntmps21
  go_wp2_with (go_at_call 9; refine (fit_any _ _).mono ?_; rintro e w' ⟨rfl, rfl, h1, h2⟩)
  go_loop [0, 3] (fun x k => ∃ X K : Nat, x = .int .i64 X ∧ k = .int .i64 K ∧ Hid (X ≤ 4503599627370496) ∧ Hid ((K : Int) + bitsN X = bitsZ n)) (fun x _ => (intOf x).toNat)
  case atStart => exact ⟨(fitZ n).toNat, 0, by rw [Int.toNat_of_nonneg hn.1], rfl, Lib.hid (by omega), HB⟩
  case round =>
    obtain ⟨X, K, rfl, rfl, HX, HI⟩ := hrel
    have hX := HX.out
    have hK : (K : Int) ≤ 53 := by have := HI.out; omega
    by_cases hx : 0 < X
    · have HP := Lib.hid (bitsN_pos X hx)
      go_wp2
      go_round
      case rel => exact ⟨X / 2, K + 1, by go_num, by go_num, Lib.hid (by omega), Lib.hid (by have := HP.out; have := HI.out; omega)⟩
      case measure => simp [intOf]; omega
    · go_wp2
      go_ret
      refine ⟨ret_i64 ?_, rfl, by omega, by omega⟩
      have hz : X = 0 := by omega
      have := HI.out
      rw [hz, bitsN_zero] at this
      omega

set_option maxHeartbeats 400000 in
theorem rbits_any (n : Int) (w : World) :
    Calls Try.prog 22 #[.int .i64 n] w (RetC (bitsZ n) w) := by
  have hb := bitsZ_bd n
  have hn := fitZ_bd n
  go_enter Try.func22, Try.ntmps22
  go_wp2
  go_loop [3, 4] (fun k p => ∃ K P : Nat, k = .int .i64 K ∧ p = .int .i64 P ∧ K ≤ 53 ∧ P ≤ 9007199254740992 ∧ 0 < P ∧ Hid (P = 2 ^ K) ∧ Hid ((K : Int) ≤ bitsZ n)) (fun k _ => 53 - (intOf k).toNat)
  case atStart => exact ⟨0, 1, rfl, rfl, by omega, by omega, by omega, Lib.hid rfl, Lib.hid (by omega)⟩
  case round =>
    obtain ⟨K, P, rfl, rfl, hK, hP, hP0, HP, HI⟩ := hrel
    by_cases hx : (P : Int) ≤ fitZ n
    · have hle : (P : Int) ≤ 4503599627370496 := by omega
      have HK := Lib.hid (show (K : Int) + 1 ≤ bitsZ n by
        have h : ¬ bitsN (fitZ n).toNat ≤ K := by
          rw [lt_bits, ← HP.out]; omega
        unfold bitsZ; omega)
      have hK3 : K < 53 := by have := HK.out; omega
      go_wp2_with (go_at_call 10; refine (rfit_any _ _).mono ?_; rintro e w' ⟨rfl, rfl, h1, h2⟩)
      go_round
      case rel => exact ⟨K + 1, P * 2, by go_num, by go_num, by omega, by omega, by omega, Lib.hid (by rw [Nat.pow_succ, HP.out]), Lib.hid (by have := HK.out; omega)⟩
      case measure => simp [intOf]; omega
    · go_wp2_with (go_at_call 10; refine (rfit_any _ _).mono ?_; rintro e w' ⟨rfl, rfl, h1, h2⟩)
      go_ret
      refine ⟨ret_i64 ?_, rfl, by omega, by omega⟩
      have h : bitsN (fitZ n).toNat ≤ K := by
        rw [lt_bits, ← HP.out]; omega
      have := HI.out
      unfold bitsZ at this ⊢
      omega

/-- the call returns this cost; of what was there nothing turns -/
def RetB (x : Int) (w : World) (e : Ending) (w' : World) : Prop := e = .returned (.int .i64 x) ∧ 0 ≤ x ∧ x ≤ 4503599627370496 ∧ Below w.heap.size w w'

theorem bcell {W w1 : World} (hb : Below W.heap.size W w1) : (∀ b o, b < W.heap.size → w1.cell? ⟨b, o, none⟩ = W.cell? ⟨b, o, none⟩) ∧ (∀ b o, b < W.heap.size → w1.frozen? ⟨b, o, none⟩ = W.frozen? ⟨b, o, none⟩) :=
  ⟨fun b o h => hb.cell (p := ⟨b, o, none⟩) h, fun b o h => hb.frozen (p := ⟨b, o, none⟩) h⟩

/-- the sum of two, of a new block -/
theorem add2_at (a b : Int) (w : World) :
    Calls Try.prog 11 #[.slice (some ⟨w.heap.size, 0, none⟩) 2 2] (w.alloc (.cells #[.int .i64 a, .int .i64 b] 2)) (RetC (addZ a b) (w.alloc (.cells #[.int .i64 a, .int .i64 b] 2))) :=
  add2_any a b _ _ (by rw [World.cell?_alloc_new]; rfl) (by rw [World.cell?_alloc_new]; rfl)
theorem add3_at (a b c : Int) (w : World) :
    Calls Try.prog 11 #[.slice (some ⟨w.heap.size, 0, none⟩) 3 3] (w.alloc (.cells #[.int .i64 a, .int .i64 b, .int .i64 c] 2)) (RetC (addZ (addZ a b) c) (w.alloc (.cells #[.int .i64 a, .int .i64 b, .int .i64 c] 2))) :=
  add3_any a b c _ _ (by rw [World.cell?_alloc_new]; rfl) (by rw [World.cell?_alloc_new]; rfl) (by rw [World.cell?_alloc_new]; rfl)

set_option maxHeartbeats 400000 in
theorem pages_any (r c : Int) (w : World) :
    Calls Try.prog 15 #[.int .i64 r, .int .i64 c] w (RetB (pagesZ r c) w) := by
  have hb := pagesZ_bd r c
  by_cases h1 : 24 < c
  · have HE := Lib.hid (show colZ c = 24 by unfold colZ; split <;> (try split) <;> omega)
    have h2 : 0 < c := by omega
    go_enter Try.func15, Try.ntmps15
    go_wp2_with (first
      | (go_at_call 13; refine (mul_any _ _ _).mono ?_; rintro e w' ⟨rfl, rfl, h1, h2⟩)
      | (go_at_call 11; refine (add2_at _ _ _).mono ?_; rintro e w' ⟨rfl, rfl, h1, h2⟩))
    go_ret
    exact ⟨ret_i64 (by unfold pagesZ; rw [HE.out]; rfl), hb.1, hb.2, by go_grown⟩
  · by_cases h2 : 0 < c
    · have HE := Lib.hid (show colZ c = c by unfold colZ; split <;> (try split) <;> omega)
      go_enter Try.func15, Try.ntmps15
      go_wp2_with (first
        | (go_at_call 13; refine (mul_any _ _ _).mono ?_; rintro e w' ⟨rfl, rfl, h1, h2⟩)
        | (go_at_call 11; refine (add2_at _ _ _).mono ?_; rintro e w' ⟨rfl, rfl, h1, h2⟩))
      go_ret
      exact ⟨ret_i64 (by unfold pagesZ; rw [HE.out]), hb.1, hb.2, by go_grown⟩
    · have HE := Lib.hid (show colZ c = 0 by unfold colZ; split <;> (try split) <;> omega)
      go_enter Try.func15, Try.ntmps15
      go_wp2_with (first
        | (go_at_call 13; refine (mul_any _ _ _).mono ?_; rintro e w' ⟨rfl, rfl, h1, h2⟩)
        | (go_at_call 11; refine (add2_at _ _ _).mono ?_; rintro e w' ⟨rfl, rfl, h1, h2⟩))
      go_ret
      exact ⟨ret_i64 (by unfold pagesZ; rw [HE.out]; rfl), hb.1, hb.2, by go_grown⟩

set_option maxHeartbeats 400000 in
theorem rpages_any (r c : Int) (w : World) :
    Calls Try.prog 16 #[.int .i64 r, .int .i64 c] w (RetC (pagesZ r c) w) := by
  have hb := pagesZ_bd r c
  by_cases h1 : 24 < c
  · have HE := Lib.hid (show colZ c = 24 by unfold colZ; split <;> (try split) <;> omega)
    have h2 : ¬ c < 0 := by omega
    go_enter Try.func16, Try.ntmps16
    go_wp2_with (first
      | (go_at_call 14; refine (rmul_any _ _ _).mono ?_; rintro e w' ⟨rfl, rfl, h1, h2⟩)
      | (go_at_call 12; refine (radd_any _ _ _).mono ?_; rintro e w' ⟨rfl, rfl, h1, h2⟩))
    go_ret
    exact ⟨ret_i64 (by unfold pagesZ; rw [HE.out]; rfl), rfl, hb⟩
  · by_cases h2 : c < 0
    · have HE := Lib.hid (show colZ c = 0 by unfold colZ; split <;> (try split) <;> omega)
      go_enter Try.func16, Try.ntmps16
      go_wp2_with (first
        | (go_at_call 14; refine (rmul_any _ _ _).mono ?_; rintro e w' ⟨rfl, rfl, h1, h2⟩)
        | (go_at_call 12; refine (radd_any _ _ _).mono ?_; rintro e w' ⟨rfl, rfl, h1, h2⟩))
      go_ret
      exact ⟨ret_i64 (by unfold pagesZ; rw [HE.out]; rfl), rfl, hb⟩
    · have HE := Lib.hid (show colZ c = c by unfold colZ; split <;> (try split) <;> omega)
      go_enter Try.func16, Try.ntmps16
      go_wp2_with (first
        | (go_at_call 14; refine (rmul_any _ _ _).mono ?_; rintro e w' ⟨rfl, rfl, h1, h2⟩)
        | (go_at_call 12; refine (radd_any _ _ _).mono ?_; rintro e w' ⟨rfl, rfl, h1, h2⟩))
      go_ret
      exact ⟨ret_i64 (by unfold pagesZ; rw [HE.out]), rfl, hb⟩

set_option maxHeartbeats 400000 in
theorem seq_any (r c : Int) (w : World) :
    Calls Try.prog 17 #[.int .i64 r, .int .i64 c] w (RetB (seqZ r c) w) := by
  have hb := seqZ_bd r c
  go_enter Try.func17, Try.ntmps17
  go_wp2_with (first
    | (go_at_call 15; refine (pages_any _ _ _).mono ?_; rintro e w' ⟨rfl, h1, h2, hB⟩)
    | (go_at_call 13; refine (mul_any _ _ _).mono ?_; rintro e w' ⟨rfl, rfl, h1, h2⟩)
    | (go_at_call 11; refine (add2_at _ _ _).mono ?_; rintro e w' ⟨rfl, rfl, h1, h2⟩))
  go_ret
  have hs := hB.size
  exact ⟨rfl, hb.1, hb.2, by go_grown⟩

set_option maxHeartbeats 400000 in
theorem rseq_any (r c : Int) (w : World) :
    Calls Try.prog 18 #[.int .i64 r, .int .i64 c] w (RetC (seqZ r c) w) := by
  have hb := seqZ_bd r c
  go_enter Try.func18, Try.ntmps18
  go_wp2_with (first
    | (go_at_call 16; refine (rpages_any _ _ _).mono ?_; rintro e w' ⟨rfl, rfl, h1, h2⟩)
    | (go_at_call 14; refine (rmul_any _ _ _).mono ?_; rintro e w' ⟨rfl, rfl, h1, h2⟩)
    | (go_at_call 12; refine (radd_any _ _ _).mono ?_; rintro e w' ⟨rfl, rfl, h1, h2⟩))
  go_ret
  exact ⟨rfl, rfl, hb⟩

set_option maxHeartbeats 400000 in
theorem range_any (r : Int) (w : World) :
    Calls Try.prog 29 #[.int .i64 r] w (RetB (rangeZ r) w) := by
  have hb := rangeZ_bd r
  go_enter Try.func29, Try.ntmps29
  go_wp2_with (first
    | (go_at_call 13; refine (mul_any _ _ _).mono ?_; rintro e w' ⟨rfl, rfl, h1, h2⟩)
    | (go_at_call 11; refine (add2_at _ _ _).mono ?_; rintro e w' ⟨rfl, rfl, h1, h2⟩))
  go_ret
  exact ⟨rfl, hb.1, hb.2, by go_grown⟩

set_option maxHeartbeats 400000 in
theorem rrange_any (r : Int) (w : World) :
    Calls Try.prog 30 #[.int .i64 r] w (RetC (rangeZ r) w) := by
  have hb := rangeZ_bd r
  go_enter Try.func30, Try.ntmps30
  go_wp2_with (first
    | (go_at_call 14; refine (rmul_any _ _ _).mono ?_; rintro e w' ⟨rfl, rfl, h1, h2⟩)
    | (go_at_call 12; refine (radd_any _ _ _).mono ?_; rintro e w' ⟨rfl, rfl, h1, h2⟩))
  go_ret
  exact ⟨rfl, rfl, hb⟩

set_option maxHeartbeats 400000 in
theorem loop_any (l r x : Int) (w : World) :
    Calls Try.prog 23 #[.int .i64 l, .int .i64 r, .int .i64 x] w (RetB (loopZ l r x) w) := by
  have hb := loopZ_bd l r x
  by_cases h1 : 1 < r
  · have HE := Lib.hid (show oneZ r = r by unfold oneZ; split <;> omega)
    go_enter Try.func23, Try.ntmps23
    go_wp2_with (first
      | (go_at_call 13; refine (mul_any _ _ _).mono ?_; rintro e w' ⟨rfl, rfl, h1, h2⟩)
      | (go_at_call 11; refine (add2_at _ _ _).mono ?_; rintro e w' ⟨rfl, rfl, h1, h2⟩))
    go_ret
    exact ⟨ret_i64 (by unfold loopZ; rw [HE.out]), hb.1, hb.2, by go_grown⟩
  · have HE := Lib.hid (show oneZ r = 1 by unfold oneZ; split <;> omega)
    go_enter Try.func23, Try.ntmps23
    go_wp2_with (first
      | (go_at_call 13; refine (mul_any _ _ _).mono ?_; rintro e w' ⟨rfl, rfl, h1, h2⟩)
      | (go_at_call 11; refine (add2_at _ _ _).mono ?_; rintro e w' ⟨rfl, rfl, h1, h2⟩))
    go_ret
    exact ⟨ret_i64 (by unfold loopZ; rw [HE.out]), hb.1, hb.2, by go_grown⟩

set_option maxHeartbeats 400000 in
theorem rloop_any (l r x : Int) (w : World) :
    Calls Try.prog 24 #[.int .i64 l, .int .i64 r, .int .i64 x] w (RetC (loopZ l r x) w) := by
  have hb := loopZ_bd l r x
  by_cases h1 : r < 1
  · have HE := Lib.hid (show oneZ r = 1 by unfold oneZ; split <;> omega)
    go_enter Try.func24, Try.ntmps24
    go_wp2_with (first
      | (go_at_call 14; refine (rmul_any _ _ _).mono ?_; rintro e w' ⟨rfl, rfl, h1, h2⟩)
      | (go_at_call 12; refine (radd_any _ _ _).mono ?_; rintro e w' ⟨rfl, rfl, h1, h2⟩))
    go_ret
    exact ⟨ret_i64 (by unfold loopZ; rw [HE.out]), rfl, hb⟩
  · have HE := Lib.hid (show oneZ r = r by unfold oneZ; split <;> omega)
    go_enter Try.func24, Try.ntmps24
    go_wp2_with (first
      | (go_at_call 14; refine (rmul_any _ _ _).mono ?_; rintro e w' ⟨rfl, rfl, h1, h2⟩)
      | (go_at_call 12; refine (radd_any _ _ _).mono ?_; rintro e w' ⟨rfl, rfl, h1, h2⟩))
    go_ret
    exact ⟨ret_i64 (by unfold loopZ; rw [HE.out]), rfl, hb⟩

set_option maxHeartbeats 400000 in
theorem look_any (l r x : Int) (w : World) :
    Calls Try.prog 25 #[.int .i64 l, .int .i64 r, .int .i64 x] w (RetB (lookZ l r x) w) := by
  have hb := lookZ_bd l r x
  go_enter Try.func25, Try.ntmps25
  go_wp2_with (first
    | (go_at_call 29; refine (range_any _ _).mono ?_; rintro e w' ⟨rfl, h1, h2, hB⟩)
    | (go_at_call 23; refine (loop_any _ _ _ _).mono ?_; rintro e w' ⟨rfl, h1, h2, hB2⟩))
  go_ret
  exact ⟨rfl, hb.1, hb.2, hB.trans (hB2.mono hB.size)⟩

set_option maxHeartbeats 400000 in
theorem rlook_any (l r x : Int) (w : World) :
    Calls Try.prog 26 #[.int .i64 l, .int .i64 r, .int .i64 x] w (RetC (lookZ l r x) w) := by
  have hb := lookZ_bd l r x
  go_enter Try.func26, Try.ntmps26
  go_wp2_with (first
    | (go_at_call 30; refine (rrange_any _ _).mono ?_; rintro e w' ⟨rfl, rfl, h1, h2⟩)
    | (go_at_call 24; refine (rloop_any _ _ _ _).mono ?_; rintro e w' ⟨rfl, rfl, h1, h2⟩))
  go_ret
  exact ⟨rfl, rfl, hb⟩

set_option maxHeartbeats 400000 in
theorem sort_any (l r : Int) (w : World) :
    Calls Try.prog 27 #[.int .i64 l, .int .i64 r] w (RetB (sortZ l r) w) := by
  have hb := sortZ_bd l r
  go_enter Try.func27, Try.ntmps27
  go_wp2_with (first
    | (go_at_call 21; refine (bits_any _ _).mono ?_; rintro e w' ⟨rfl, rfl, h1, h2⟩)
    | (go_at_call 13; refine (mul_any _ _ _).mono ?_; rintro e w' ⟨rfl, rfl, h1, h2⟩)
    | (go_at_call 11; refine (add2_at _ _ _).mono ?_; rintro e w' ⟨rfl, rfl, h1, h2⟩))
  go_ret
  exact ⟨rfl, hb.1, hb.2, by go_grown⟩

set_option maxHeartbeats 400000 in
theorem rsort_any (l r : Int) (w : World) :
    Calls Try.prog 28 #[.int .i64 l, .int .i64 r] w (RetC (sortZ l r) w) := by
  have hb := sortZ_bd l r
  go_enter Try.func28, Try.ntmps28
  go_wp2_with (first
    | (go_at_call 22; refine (rbits_any _ _).mono ?_; rintro e w' ⟨rfl, rfl, h1, h2⟩)
    | (go_at_call 14; refine (rmul_any _ _ _).mono ?_; rintro e w' ⟨rfl, rfl, h1, h2⟩)
    | (go_at_call 12; refine (radd_any _ _ _).mono ?_; rintro e w' ⟨rfl, rfl, h1, h2⟩))
  go_ret
  exact ⟨rfl, rfl, hb⟩

/-- the call returns true; of what was there nothing turns -/
def RetT (w : World) (e : Ending) (w' : World) : Prop := e = .returned (.bool true) ∧ Below w.heap.size w w'

set_option maxHeartbeats 400000 in
theorem lives_any (w : World) : Calls Try.prog 8 #[] w (RetT w) := by
  have h1 : (seqZ 100 2 == 160) = true := by decide
  have h2 : (mulZ 1099511627776 1099511627776 == 4503599627370496) = true := by decide
  go_enter Try.func8, Try.ntmps8
  go_wp2_with (first
    | (go_at_call 17; refine (seq_any _ _ _).mono ?_; rintro e w' ⟨rfl, _, _, hB⟩)
    | (go_at_call 13; refine (mul_any _ _ _).mono ?_; rintro e w' ⟨rfl, rfl, _, _⟩))
  go_ret
  exact ⟨rfl, hB⟩

end Go.Proofs.Ytmbhkfjcjklemaa
