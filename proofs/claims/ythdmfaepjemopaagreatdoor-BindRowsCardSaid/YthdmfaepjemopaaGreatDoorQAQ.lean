/- The walk of a scope's fold. -/
import Derived.Test.YthdmfaepjemopaaGreatDoorQAM
namespace Go.Proofs.YthdmfaepjemopaaGreatDoor
open Go.RowKit

set_option maxRecDepth 100000 in
set_option maxHeartbeats 16000000 in
theorem fold_noa (n : Nat) (s : Sc) (x : Ex) (w : World) : Calls Tryz.prog 43 #[scV s false false, exV x] w (ExprO n w (.error 132)) := by
  obtain ⟨k, op, ⟨lk, ln, lf, ls⟩, tn, nm, ng, xa, xc, xs⟩ := x
  obtain ⟨sa, sc, ta, tc, ba, bc, rows⟩ := s
  unfold scV exV
  dsimp only [Ex.kind, Ex.op, Ex.lit, Ex.table, Ex.name, Ex.neg, Ex.A, Ex.c, Ex.args]
  generalize xs.length = q
  generalize rows.length = rn
  have HCK0 := fun w => check_no 132 w
  have sf := store_float
  go_enter Tryz.func43, Tryz.ntmps43
  go_wp2_with (first
    | (go_at_call 24; (with_reducible refine (HCK0 _).mono ?_); rintro e w' ⟨rfl, rfl⟩)
    | fail)
  exact ⟨rfl, by go_grown, rfl⟩
set_option maxRecDepth 100000 in
set_option maxHeartbeats 16000000 in
theorem fold_nob (n : Nat) (s : Sc) (x : Ex) (w : World) : Calls Tryz.prog 43 #[scV s true false, exV x] w (ExprO n w (.error 132)) := by
  obtain ⟨k, op, ⟨lk, ln, lf, ls⟩, tn, nm, ng, xa, xc, xs⟩ := x
  obtain ⟨sa, sc, ta, tc, ba, bc, rows⟩ := s
  unfold scV exV
  dsimp only [Ex.kind, Ex.op, Ex.lit, Ex.table, Ex.name, Ex.neg, Ex.A, Ex.c, Ex.args]
  generalize xs.length = q
  generalize rows.length = rn
  have HCK0 := fun w => check_no 132 w
  have sf := store_float
  go_enter Tryz.func43, Tryz.ntmps43
  go_wp2_with (first
    | (go_at_call 24; (with_reducible refine (HCK0 _).mono ?_); rintro e w' ⟨rfl, rfl⟩)
    | fail)
  exact ⟨rfl, by go_grown, rfl⟩
set_option maxRecDepth 100000 in
set_option maxHeartbeats 16000000 in
theorem fold_noc (n : Nat) (s : Sc) (x : Ex) (w : World) : Calls Tryz.prog 43 #[scV s true true, exV x] w (ExprO n w (.error 132)) := by
  obtain ⟨k, op, ⟨lk, ln, lf, ls⟩, tn, nm, ng, xa, xc, xs⟩ := x
  obtain ⟨sa, sc, ta, tc, ba, bc, rows⟩ := s
  unfold scV exV
  dsimp only [Ex.kind, Ex.op, Ex.lit, Ex.table, Ex.name, Ex.neg, Ex.A, Ex.c, Ex.args]
  generalize xs.length = q
  generalize rows.length = rn
  have HCK0 := fun w => check_no 132 w
  have sf := store_float
  go_enter Tryz.func43, Tryz.ntmps43
  go_wp2_with (first
    | (go_at_call 24; (with_reducible refine (HCK0 _).mono ?_); rintro e w' ⟨rfl, rfl⟩)
    | fail)
  exact ⟨rfl, by go_grown, rfl⟩
set_option maxRecDepth 100000 in
set_option maxHeartbeats 16000000 in
theorem fold10_args (n : Nat) (s : Sc) (x : Ex) (w : World) (hk : x.kind = 10) (er : Int)
    (HAR : ∀ W, Below w.heap.size w W → Calls Tryz.prog 41 #[scV s true true, exV x, .int .i64 0] W (ArgsO n W (.error er))) :
    Calls Tryz.prog 43 #[scV s false true, exV x] w (ExprO (n + 1) w (.error er)) := by
  obtain ⟨k, op, ⟨lk, ln, lf, ls⟩, tn, nm, ng, xa, xc, xs⟩ := x
  obtain ⟨sa, sc, ta, tc, ba, bc, rows⟩ := s
  obtain rfl : k = 10 := hk
  unfold scV exV at HAR ⊢
  dsimp only [Ex.kind, Ex.op, Ex.lit, Ex.table, Ex.name, Ex.neg, Ex.A, Ex.c, Ex.args] at HAR ⊢
  generalize xs.length = q at HAR ⊢
  generalize rows.length = rn at HAR ⊢
  have HA := Lib.hid HAR
  have HBK0 := Lib.hid (BK.start w #[.slice sa rn sc, .slice ta rn tc, .slice ba rn bc, .bool true, .bool true] #[.int .i64 10, .string op, .int .i64 lk, .int .i64 ln, .float .f64 lf, .string ls, .string tn, .string nm, .bool ng, .slice xa q xc] (ndR 10 0 1))
  have HCK0 := fun w => check_yes 132 w
  clear HAR
  have sf := store_float
  go_enter Tryz.func43, Tryz.ntmps43
  go_wp2_with (first
    | (go_at_call 24; (with_reducible refine (HCK0 _).mono ?_); rintro e w' ⟨rfl, rfl⟩)
    | (go_at_call 41; (with_reducible refine (HA.out _ HBK0.out.below).mono ?_); rintro e w5 hO
       obtain ⟨rfl, hB5⟩ := argso_no hO)
    | fail)
  exact ⟨rfl, (HBK0.out.keep hB5).below, rfl⟩
set_option maxRecDepth 100000 in
set_option maxHeartbeats 16000000 in
theorem fold10_ok (n : Nat) (s : Sc) (x : Ex) (w : World) (hk : x.kind = 10)
    (HAR : ∀ W, Below w.heap.size w W → Calls Tryz.prog 41 #[scV s true true, exV x, .int .i64 0] W (ArgsO n W (.ok []))) :
    Calls Tryz.prog 43 #[scV s false true, exV x] w (ExprO (n + 1) w (.ok (.mk 10 ⟨#[]⟩ zeroV 0 false 1 []))) := by
  obtain ⟨k, op, ⟨lk, ln, lf, ls⟩, tn, nm, ng, xa, xc, xs⟩ := x
  obtain ⟨sa, sc, ta, tc, ba, bc, rows⟩ := s
  obtain rfl : k = 10 := hk
  unfold scV exV at HAR ⊢
  dsimp only [Ex.kind, Ex.op, Ex.lit, Ex.table, Ex.name, Ex.neg, Ex.A, Ex.c, Ex.args] at HAR ⊢
  generalize xs.length = q at HAR ⊢
  generalize rows.length = rn at HAR ⊢
  have HA := Lib.hid HAR
  have HBK0 := Lib.hid (BK.start w #[.slice sa rn sc, .slice ta rn tc, .slice ba rn bc, .bool true, .bool true] #[.int .i64 10, .string op, .int .i64 lk, .int .i64 ln, .float .f64 lf, .string ls, .string tn, .string nm, .bool ng, .slice xa q xc] (ndR 10 0 1))
  have HCK0 := fun w => check_yes 132 w
  clear HAR
  have sf := store_float
  go_enter Tryz.func43, Tryz.ntmps43
  go_upto_region 6 with (first
    | (go_at_call 24; (with_reducible refine (HCK0 _).mono ?_); rintro e w' ⟨rfl, rfl⟩)
    | (go_at_call 41; (with_reducible refine (HA.out _ HBK0.out.below).mono ?_); rintro e w5 hO
       obtain ⟨A5, c5, vs, rfl, hB5, hC5, hA5, hN5⟩ := argso_ok hO
       have HE5 := Lib.hid (EK.of HBK0.out hB5 hC5 hA5 hN5)
       have hvl : vs.length = 0 := hN5.1
       have HE6 := Lib.hid (show EK n w _ _ #[.int .i64 10, .string ⟨#[]⟩, .int .i64 0, .int .i64 0, .float .f64 0, .string ⟨#[]⟩, .int .i64 0, .bool false, .int .i64 1, .slice A5 0 c5] A5 vs [] (w5.setCell ⟨w.heap.size + 3, 9, none⟩ (.slice A5 0 c5)) from HE5.out.set 9 _)
       have HVL := Lib.hid hvl
       have z9 := cell_of_row _ _ 9 _ _ _ HE5.out.bk.nd
       have y9 := frozen_of_row _ _ 9 _ _ HE5.out.bk.nd
       have hz5 := heap_lt HE5.out.bk.nd
       rw [hvl]
       clear hO hB5 hC5 hA5 hN5 hvl)
    | fail)
  clear z9 y9 hz5
  generalize (w5.setCell ⟨w.heap.size + 3, 9, none⟩ (.slice A5 0 c5)) = w8 at HE6 ⊢
  obtain ⟨a0, a1, a2, a3, a4, a5, a6, a7, a8, a9⟩ := row10 HE6.out.bk.nd
  obtain ⟨b0, b1, b2, b3, b4, b5, b6, b7, b8, b9⟩ := row10 HE6.out.bk.ans
  obtain ⟨f0, f1, f2, f3, f4, f5, f6, f7, f8, f9⟩ := free10 HE6.out.bk.ans
  have hlz := heap_lt HE6.out.bk.ans
  go_wp2_with fail
  have HD := Lib.hid (HE6.out.done (p := .mk 10 ⟨#[]⟩ zeroV 0 false 1 []) c5 (.int .i64 10) (.string ⟨#[]⟩) (.int .i64 0) (.int .i64 0) (.float .f64 0) (.string ⟨#[]⟩) (.int .i64 0) (.bool false) (.int .i64 1) (.slice A5 0 c5))
  refine bodyPost_ret (v := .agg #[.int .i64 10, .string ⟨#[]⟩, .int .i64 0, .int .i64 0, .float .f64 0, .string ⟨#[]⟩, .int .i64 0, .bool false, .int .i64 1, .slice A5 0 c5]) (by simp [results, Tryz.results43, go_sem, b0, b1, b2, b3, b4, b5, b6, b7, b8, b9]) rfl ⟨HD.out.1, A5, c5, vs.length, ?_, HD.out.2⟩
  rw [show clP (Nd.mk 10 ⟨#[]⟩ zeroV 0 false 1 []).lit = zeroV from clP_zero, HVL.out]
  rfl
set_option maxRecDepth 100000 in
set_option maxHeartbeats 16000000 in
theorem fold11_args (n : Nat) (s : Sc) (x : Ex) (w : World) (hk : x.kind = 11) (er : Int)
    (HAR : ∀ W, Below w.heap.size w W → Calls Tryz.prog 41 #[scV s true true, exV x, .int .i64 1] W (ArgsO n W (.error er))) :
    Calls Tryz.prog 43 #[scV s false true, exV x] w (ExprO (n + 1) w (.error er)) := by
  obtain ⟨k, op, ⟨lk, ln, lf, ls⟩, tn, nm, ng, xa, xc, xs⟩ := x
  obtain ⟨sa, sc, ta, tc, ba, bc, rows⟩ := s
  obtain rfl : k = 11 := hk
  unfold scV exV at HAR ⊢
  dsimp only [Ex.kind, Ex.op, Ex.lit, Ex.table, Ex.name, Ex.neg, Ex.A, Ex.c, Ex.args] at HAR ⊢
  generalize xs.length = q at HAR ⊢
  generalize rows.length = rn at HAR ⊢
  have HA := Lib.hid HAR
  have HBK0 := Lib.hid (BK.start w #[.slice sa rn sc, .slice ta rn tc, .slice ba rn bc, .bool true, .bool true] #[.int .i64 11, .string op, .int .i64 lk, .int .i64 ln, .float .f64 lf, .string ls, .string tn, .string nm, .bool ng, .slice xa q xc] (ndR 11 0 1))
  have HCK0 := fun w => check_yes 132 w
  clear HAR
  have sf := store_float
  go_enter Tryz.func43, Tryz.ntmps43
  go_wp2_with (first
    | (go_at_call 24; (with_reducible refine (HCK0 _).mono ?_); rintro e w' ⟨rfl, rfl⟩)
    | (go_at_call 41; (with_reducible refine (HA.out _ HBK0.out.below).mono ?_); rintro e w5 hO
       obtain ⟨rfl, hB5⟩ := argso_no hO)
    | fail)
  exact ⟨rfl, (HBK0.out.keep hB5).below, rfl⟩
set_option maxRecDepth 100000 in
set_option maxHeartbeats 16000000 in
theorem fold11_ok (n : Nat) (s : Sc) (x : Ex) (w : World) (hk : x.kind = 11) (p0 : Nd) (hl0 : likeT p0.ty [1] = true)
    (HAR : ∀ W, Below w.heap.size w W → Calls Tryz.prog 41 #[scV s true true, exV x, .int .i64 1] W (ArgsO n W (.ok [p0]))) :
    Calls Tryz.prog 43 #[scV s false true, exV x] w (ExprO (n + 1) w (.ok (.mk 11 ⟨#[]⟩ zeroV 0 false 1 [p0]))) := by
  obtain ⟨k, op, ⟨lk, ln, lf, ls⟩, tn, nm, ng, xa, xc, xs⟩ := x
  obtain ⟨sa, sc, ta, tc, ba, bc, rows⟩ := s
  obtain rfl : k = 11 := hk
  unfold scV exV at HAR ⊢
  dsimp only [Ex.kind, Ex.op, Ex.lit, Ex.table, Ex.name, Ex.neg, Ex.A, Ex.c, Ex.args] at HAR ⊢
  generalize xs.length = q at HAR ⊢
  generalize rows.length = rn at HAR ⊢
  have HA := Lib.hid HAR
  have HBK0 := Lib.hid (BK.start w #[.slice sa rn sc, .slice ta rn tc, .slice ba rn bc, .bool true, .bool true] #[.int .i64 11, .string op, .int .i64 lk, .int .i64 ln, .float .f64 lf, .string ls, .string tn, .string nm, .bool ng, .slice xa q xc] (ndR 11 0 1))
  have HCK0 := fun w => check_yes 132 w
  clear HAR
  obtain ⟨t0, ht0⟩ : ∃ t, t = p0.ty := ⟨_, rfl⟩
  have HT0 := Lib.hid ht0
  have hl : likeT t0 [1] = true := by rw [ht0]; exact hl0
  have HLK := Lib.hid (show ∀ (b : Nat) (W : World), W.heap.size = b → Calls Tryz.prog 26 #[.int .i64 t0, .slice (some ⟨b, 0, none⟩) 1 1] (W.alloc (.cells #[.int .i64 1] 3)) (RetV (.bool true) (W.alloc (.cells #[.int .i64 1] 3))) from fun b W h => by
    have := like_any t0 (some ⟨b, 0, none⟩) 1 [1] _ (ints_at W b [1] (by show 1 ≤ 1000; omega) h)
    rwa [hl] at this)
  have HCK := fun w => check_yes 70 w
  clear hl hl0 ht0
  have sf := store_float
  go_enter Tryz.func43, Tryz.ntmps43
  go_upto_region 9 with (first
    | (go_at_call 24; (with_reducible refine (HCK0 _).mono ?_); rintro e w' ⟨rfl, rfl⟩)
    | (go_at_call 41; (with_reducible refine (HA.out _ HBK0.out.below).mono ?_); rintro e w5 hO
       obtain ⟨A5, c5, vs, rfl, hB5, hC5, hA5, hN5⟩ := argso_ok hO
       have HE5 := Lib.hid (EK.of HBK0.out hB5 hC5 hA5 hN5)
       have hvl : vs.length = 1 := hN5.1
       obtain ⟨ab, ao, rfl⟩ := HE5.out.addr (by show 0 < 1; omega)
       have HE6 := Lib.hid (show EK n w _ _ #[.int .i64 11, .string ⟨#[]⟩, .int .i64 0, .int .i64 0, .float .f64 0, .string ⟨#[]⟩, .int .i64 0, .bool false, .int .i64 1, .slice (some ⟨ab, ao, none⟩) 1 c5] (some ⟨ab, ao, none⟩) vs [p0] (w5.setCell ⟨w.heap.size + 3, 9, none⟩ (.slice (some ⟨ab, ao, none⟩) 1 c5)) from HE5.out.set 9 _)
       have z9 := cell_of_row _ _ 9 _ _ _ HE5.out.bk.nd
       have y9 := frozen_of_row _ _ 9 _ _ HE5.out.bk.nd
       have z9b := cell_of_row _ _ 9 _ _ _ HE6.out.bk.nd
       have x0b := cell_of_row _ _ 0 _ _ _ HE6.out.bk.ex
       have htyb : (w5.setCell ⟨w.heap.size + 3, 9, none⟩ (.slice (some ⟨ab, ao, none⟩) 1 c5)).cell? ⟨ab, ao + 8, none⟩ = some (.int .i64 t0) := by
         have := HE6.out.tyA (i := 0) (p := p0) rfl
         rwa [← HT0.out, Nat.zero_mul, Nat.add_zero] at this
       have hz5 := heap_lt HE5.out.bk.nd
       have HVL := Lib.hid hvl
       rw [hvl]
       clear hO hB5 hC5 hA5 hN5 hvl)
    | fail)
  clear z9 y9 z9b x0b htyb hz5
  generalize (w5.setCell ⟨w.heap.size + 3, 9, none⟩ (.slice (some ⟨ab, ao, none⟩) 1 c5)) = w6 at HE6 ⊢
  obtain ⟨x0, x1, x2, x3, x4, x5, x6, x7, x8, x9⟩ := row10 HE6.out.bk.ex
  go_upto_region 11 with (first
    | (go_at_call 26; (with_reducible refine (HLK.out _ _ (by simp)).mono ?_); rintro e w8 ⟨rfl, hB8⟩
       have HE8 := Lib.hid ((HE6.out.keep (below1 _ _)).keep hB8)
       clear hB8)
    | (go_at_call 24; (with_reducible refine (HCK _).mono ?_); rintro e w' ⟨rfl, rfl⟩)
    | fail)
  clear x0 x1 x2 x3 x4 x5 x6 x7 x8 x9
  obtain ⟨a0, a1, a2, a3, a4, a5, a6, a7, a8, a9⟩ := row10 HE8.out.bk.nd
  obtain ⟨b0, b1, b2, b3, b4, b5, b6, b7, b8, b9⟩ := row10 HE8.out.bk.ans
  obtain ⟨f0, f1, f2, f3, f4, f5, f6, f7, f8, f9⟩ := free10 HE8.out.bk.ans
  have hlz := heap_lt HE8.out.bk.ans
  go_wp2_with fail
  have HD := Lib.hid (HE8.out.done (p := .mk 11 ⟨#[]⟩ zeroV 0 false 1 [p0]) c5 (.int .i64 11) (.string ⟨#[]⟩) (.int .i64 0) (.int .i64 0) (.float .f64 0) (.string ⟨#[]⟩) (.int .i64 0) (.bool false) (.int .i64 1) (.slice (some ⟨ab, ao, none⟩) 1 c5))
  refine bodyPost_ret (v := .agg #[.int .i64 11, .string ⟨#[]⟩, .int .i64 0, .int .i64 0, .float .f64 0, .string ⟨#[]⟩, .int .i64 0, .bool false, .int .i64 1, .slice (some ⟨ab, ao, none⟩) 1 c5]) (by simp [results, Tryz.results43, go_sem, b0, b1, b2, b3, b4, b5, b6, b7, b8, b9]) rfl ⟨HD.out.1, some ⟨ab, ao, none⟩, c5, vs.length, ?_, HD.out.2⟩
  rw [show clP (Nd.mk 11 ⟨#[]⟩ zeroV 0 false 1 [p0]).lit = zeroV from clP_zero, HVL.out]
  rfl
set_option maxRecDepth 100000 in
set_option maxHeartbeats 16000000 in
theorem fold11_ty (n : Nat) (s : Sc) (x : Ex) (w : World) (hk : x.kind = 11) (p0 : Nd) (hl0 : likeT p0.ty [1] = false)
    (HAR : ∀ W, Below w.heap.size w W → Calls Tryz.prog 41 #[scV s true true, exV x, .int .i64 1] W (ArgsO n W (.ok [p0]))) :
    Calls Tryz.prog 43 #[scV s false true, exV x] w (ExprO (n + 1) w (.error 70)) := by
  obtain ⟨k, op, ⟨lk, ln, lf, ls⟩, tn, nm, ng, xa, xc, xs⟩ := x
  obtain ⟨sa, sc, ta, tc, ba, bc, rows⟩ := s
  obtain rfl : k = 11 := hk
  unfold scV exV at HAR ⊢
  dsimp only [Ex.kind, Ex.op, Ex.lit, Ex.table, Ex.name, Ex.neg, Ex.A, Ex.c, Ex.args] at HAR ⊢
  generalize xs.length = q at HAR ⊢
  generalize rows.length = rn at HAR ⊢
  have HA := Lib.hid HAR
  have HBK0 := Lib.hid (BK.start w #[.slice sa rn sc, .slice ta rn tc, .slice ba rn bc, .bool true, .bool true] #[.int .i64 11, .string op, .int .i64 lk, .int .i64 ln, .float .f64 lf, .string ls, .string tn, .string nm, .bool ng, .slice xa q xc] (ndR 11 0 1))
  have HCK0 := fun w => check_yes 132 w
  clear HAR
  obtain ⟨t0, ht0⟩ : ∃ t, t = p0.ty := ⟨_, rfl⟩
  have HT0 := Lib.hid ht0
  have hl : likeT t0 [1] = false := by rw [ht0]; exact hl0
  have HLK := Lib.hid (show ∀ (b : Nat) (W : World), W.heap.size = b → Calls Tryz.prog 26 #[.int .i64 t0, .slice (some ⟨b, 0, none⟩) 1 1] (W.alloc (.cells #[.int .i64 1] 3)) (RetV (.bool false) (W.alloc (.cells #[.int .i64 1] 3))) from fun b W h => by
    have := like_any t0 (some ⟨b, 0, none⟩) 1 [1] _ (ints_at W b [1] (by show 1 ≤ 1000; omega) h)
    rwa [hl] at this)
  have HCK := fun w => check_no 70 w
  clear hl hl0 ht0
  have sf := store_float
  go_enter Tryz.func43, Tryz.ntmps43
  go_upto_region 9 with (first
    | (go_at_call 24; (with_reducible refine (HCK0 _).mono ?_); rintro e w' ⟨rfl, rfl⟩)
    | (go_at_call 41; (with_reducible refine (HA.out _ HBK0.out.below).mono ?_); rintro e w5 hO
       obtain ⟨A5, c5, vs, rfl, hB5, hC5, hA5, hN5⟩ := argso_ok hO
       have HE5 := Lib.hid (EK.of HBK0.out hB5 hC5 hA5 hN5)
       have hvl : vs.length = 1 := hN5.1
       obtain ⟨ab, ao, rfl⟩ := HE5.out.addr (by show 0 < 1; omega)
       have HE6 := Lib.hid (show EK n w _ _ #[.int .i64 11, .string ⟨#[]⟩, .int .i64 0, .int .i64 0, .float .f64 0, .string ⟨#[]⟩, .int .i64 0, .bool false, .int .i64 1, .slice (some ⟨ab, ao, none⟩) 1 c5] (some ⟨ab, ao, none⟩) vs [p0] (w5.setCell ⟨w.heap.size + 3, 9, none⟩ (.slice (some ⟨ab, ao, none⟩) 1 c5)) from HE5.out.set 9 _)
       have z9 := cell_of_row _ _ 9 _ _ _ HE5.out.bk.nd
       have y9 := frozen_of_row _ _ 9 _ _ HE5.out.bk.nd
       have z9b := cell_of_row _ _ 9 _ _ _ HE6.out.bk.nd
       have x0b := cell_of_row _ _ 0 _ _ _ HE6.out.bk.ex
       have htyb : (w5.setCell ⟨w.heap.size + 3, 9, none⟩ (.slice (some ⟨ab, ao, none⟩) 1 c5)).cell? ⟨ab, ao + 8, none⟩ = some (.int .i64 t0) := by
         have := HE6.out.tyA (i := 0) (p := p0) rfl
         rwa [← HT0.out, Nat.zero_mul, Nat.add_zero] at this
       have hz5 := heap_lt HE5.out.bk.nd
       have HVL := Lib.hid hvl
       rw [hvl]
       clear hO hB5 hC5 hA5 hN5 hvl)
    | fail)
  clear z9 y9 z9b x0b htyb hz5
  generalize (w5.setCell ⟨w.heap.size + 3, 9, none⟩ (.slice (some ⟨ab, ao, none⟩) 1 c5)) = w6 at HE6 ⊢
  obtain ⟨x0, x1, x2, x3, x4, x5, x6, x7, x8, x9⟩ := row10 HE6.out.bk.ex
  go_wp2_with (first
    | (go_at_call 26; (with_reducible refine (HLK.out _ _ (by simp)).mono ?_); rintro e w8 ⟨rfl, hB8⟩
       have HE8 := Lib.hid ((HE6.out.keep (below1 _ _)).keep hB8)
       clear hB8)
    | (go_at_call 24; (with_reducible refine (HCK _).mono ?_); rintro e w' ⟨rfl, rfl⟩)
    | fail)
  exact ⟨rfl, HE8.out.bk.below, rfl⟩
set_option maxRecDepth 100000 in
set_option maxHeartbeats 16000000 in
theorem fold12_args (n : Nat) (s : Sc) (x : Ex) (w : World) (hk : x.kind = 12) (er : Int)
    (HAR : ∀ W, Below w.heap.size w W → Calls Tryz.prog 41 #[scV s true true, exV x, .int .i64 1] W (ArgsO n W (.error er))) :
    Calls Tryz.prog 43 #[scV s false true, exV x] w (ExprO (n + 1) w (.error er)) := by
  obtain ⟨k, op, ⟨lk, ln, lf, ls⟩, tn, nm, ng, xa, xc, xs⟩ := x
  obtain ⟨sa, sc, ta, tc, ba, bc, rows⟩ := s
  obtain rfl : k = 12 := hk
  unfold scV exV at HAR ⊢
  dsimp only [Ex.kind, Ex.op, Ex.lit, Ex.table, Ex.name, Ex.neg, Ex.A, Ex.c, Ex.args] at HAR ⊢
  generalize xs.length = q at HAR ⊢
  generalize rows.length = rn at HAR ⊢
  have HA := Lib.hid HAR
  have HBK0 := Lib.hid (BK.start w #[.slice sa rn sc, .slice ta rn tc, .slice ba rn bc, .bool true, .bool true] #[.int .i64 12, .string op, .int .i64 lk, .int .i64 ln, .float .f64 lf, .string ls, .string tn, .string nm, .bool ng, .slice xa q xc] (ndR 12 0 1))
  have HCK0 := fun w => check_yes 132 w
  clear HAR
  have sf := store_float
  go_enter Tryz.func43, Tryz.ntmps43
  go_wp2_with (first
    | (go_at_call 24; (with_reducible refine (HCK0 _).mono ?_); rintro e w' ⟨rfl, rfl⟩)
    | (go_at_call 41; (with_reducible refine (HA.out _ HBK0.out.below).mono ?_); rintro e w5 hO
       obtain ⟨rfl, hB5⟩ := argso_no hO)
    | fail)
  exact ⟨rfl, (HBK0.out.keep hB5).below, rfl⟩
set_option maxRecDepth 100000 in
set_option maxHeartbeats 16000000 in
theorem fold12_ok (n : Nat) (s : Sc) (x : Ex) (w : World) (hk : x.kind = 12) (p0 : Nd) (hl0 : likeT p0.ty [1, 2, 3] = true)
    (HAR : ∀ W, Below w.heap.size w W → Calls Tryz.prog 41 #[scV s true true, exV x, .int .i64 1] W (ArgsO n W (.ok [p0]))) :
    Calls Tryz.prog 43 #[scV s false true, exV x] w (ExprO (n + 1) w (.ok (.mk 12 ⟨#[]⟩ zeroV 0 false p0.ty [p0]))) := by
  obtain ⟨k, op, ⟨lk, ln, lf, ls⟩, tn, nm, ng, xa, xc, xs⟩ := x
  obtain ⟨sa, sc, ta, tc, ba, bc, rows⟩ := s
  obtain rfl : k = 12 := hk
  unfold scV exV at HAR ⊢
  dsimp only [Ex.kind, Ex.op, Ex.lit, Ex.table, Ex.name, Ex.neg, Ex.A, Ex.c, Ex.args] at HAR ⊢
  generalize xs.length = q at HAR ⊢
  generalize rows.length = rn at HAR ⊢
  have HA := Lib.hid HAR
  have HBK0 := Lib.hid (BK.start w #[.slice sa rn sc, .slice ta rn tc, .slice ba rn bc, .bool true, .bool true] #[.int .i64 12, .string op, .int .i64 lk, .int .i64 ln, .float .f64 lf, .string ls, .string tn, .string nm, .bool ng, .slice xa q xc] (ndR 12 0 1))
  have HCK0 := fun w => check_yes 132 w
  clear HAR
  obtain ⟨t0, ht0⟩ : ∃ t, t = p0.ty := ⟨_, rfl⟩
  have HT0 := Lib.hid ht0
  have hl : likeT t0 [1, 2, 3] = true := by rw [ht0]; exact hl0
  have HLK := Lib.hid (show ∀ (b : Nat) (W : World), W.heap.size = b → Calls Tryz.prog 26 #[.int .i64 t0, .slice (some ⟨b, 0, none⟩) 3 3] (W.alloc (.cells #[.int .i64 1, .int .i64 2, .int .i64 3] 3)) (RetV (.bool true) (W.alloc (.cells #[.int .i64 1, .int .i64 2, .int .i64 3] 3))) from fun b W h => by
    have := like_any t0 (some ⟨b, 0, none⟩) 3 [1, 2, 3] _ (ints_at W b [1, 2, 3] (by show 3 ≤ 1000; omega) h)
    rwa [hl] at this)
  have HCK := fun w => check_yes 70 w
  clear hl hl0 ht0
  have sf := store_float
  go_enter Tryz.func43, Tryz.ntmps43
  go_upto_region 9 with (first
    | (go_at_call 24; (with_reducible refine (HCK0 _).mono ?_); rintro e w' ⟨rfl, rfl⟩)
    | (go_at_call 41; (with_reducible refine (HA.out _ HBK0.out.below).mono ?_); rintro e w5 hO
       obtain ⟨A5, c5, vs, rfl, hB5, hC5, hA5, hN5⟩ := argso_ok hO
       have HE5 := Lib.hid (EK.of HBK0.out hB5 hC5 hA5 hN5)
       have hvl : vs.length = 1 := hN5.1
       obtain ⟨ab, ao, rfl⟩ := HE5.out.addr (by show 0 < 1; omega)
       have HE6 := Lib.hid (show EK n w _ _ #[.int .i64 12, .string ⟨#[]⟩, .int .i64 0, .int .i64 0, .float .f64 0, .string ⟨#[]⟩, .int .i64 0, .bool false, .int .i64 1, .slice (some ⟨ab, ao, none⟩) 1 c5] (some ⟨ab, ao, none⟩) vs [p0] (w5.setCell ⟨w.heap.size + 3, 9, none⟩ (.slice (some ⟨ab, ao, none⟩) 1 c5)) from HE5.out.set 9 _)
       have z9 := cell_of_row _ _ 9 _ _ _ HE5.out.bk.nd
       have y9 := frozen_of_row _ _ 9 _ _ HE5.out.bk.nd
       have z9b := cell_of_row _ _ 9 _ _ _ HE6.out.bk.nd
       have x0b := cell_of_row _ _ 0 _ _ _ HE6.out.bk.ex
       have htyb : (w5.setCell ⟨w.heap.size + 3, 9, none⟩ (.slice (some ⟨ab, ao, none⟩) 1 c5)).cell? ⟨ab, ao + 8, none⟩ = some (.int .i64 t0) := by
         have := HE6.out.tyA (i := 0) (p := p0) rfl
         rwa [← HT0.out, Nat.zero_mul, Nat.add_zero] at this
       have hz5 := heap_lt HE5.out.bk.nd
       have HVL := Lib.hid hvl
       rw [hvl]
       clear hO hB5 hC5 hA5 hN5 hvl)
    | fail)
  clear z9 y9 z9b x0b htyb hz5
  generalize (w5.setCell ⟨w.heap.size + 3, 9, none⟩ (.slice (some ⟨ab, ao, none⟩) 1 c5)) = w6 at HE6 ⊢
  obtain ⟨x0, x1, x2, x3, x4, x5, x6, x7, x8, x9⟩ := row10 HE6.out.bk.ex
  go_upto_region 14 with (first
    | (go_at_call 26; (with_reducible refine (HLK.out _ _ (by simp)).mono ?_); rintro e w8 ⟨rfl, hB8⟩
       have HE8 := Lib.hid ((HE6.out.keep (below1 _ _)).keep hB8)
       clear hB8
       have y8 := frozen_of_row _ _ 8 _ _ HE8.out.bk.nd
       obtain ⟨a0, a1, a2, a3, a4, a5, a6, a7, a8, a9⟩ := row10 HE8.out.bk.nd
       have hz8 := heap_lt HE8.out.bk.nd)
    | (go_at_call 24; (with_reducible refine (HCK _).mono ?_); rintro e w' ⟨rfl, rfl⟩)
    | fail)
  have HE9 := Lib.hid (show EK n w _ _ #[.int .i64 12, .string ⟨#[]⟩, .int .i64 0, .int .i64 0, .float .f64 0, .string ⟨#[]⟩, .int .i64 0, .bool false, .int .i64 t0, .slice (some ⟨ab, ao, none⟩) 1 c5] (some ⟨ab, ao, none⟩) vs [p0] (w8.setCell ⟨w.heap.size + 3, 8, none⟩ (.int .i64 t0)) from HE8.out.set 8 _)
  clear y8 a0 a1 a2 a3 a4 a5 a6 a7 a8 a9 hz8
  generalize (w8.setCell ⟨w.heap.size + 3, 8, none⟩ (.int .i64 t0)) = w9 at HE9 ⊢
  clear x0 x1 x2 x3 x4 x5 x6 x7 x8 x9
  obtain ⟨a0, a1, a2, a3, a4, a5, a6, a7, a8, a9⟩ := row10 HE9.out.bk.nd
  obtain ⟨b0, b1, b2, b3, b4, b5, b6, b7, b8, b9⟩ := row10 HE9.out.bk.ans
  obtain ⟨f0, f1, f2, f3, f4, f5, f6, f7, f8, f9⟩ := free10 HE9.out.bk.ans
  have hlz := heap_lt HE9.out.bk.ans
  go_wp2_with fail
  have HD := Lib.hid (HE9.out.done (p := .mk 12 ⟨#[]⟩ zeroV 0 false p0.ty [p0]) c5 (.int .i64 12) (.string ⟨#[]⟩) (.int .i64 0) (.int .i64 0) (.float .f64 0) (.string ⟨#[]⟩) (.int .i64 0) (.bool false) (.int .i64 t0) (.slice (some ⟨ab, ao, none⟩) 1 c5))
  refine bodyPost_ret (v := .agg #[.int .i64 12, .string ⟨#[]⟩, .int .i64 0, .int .i64 0, .float .f64 0, .string ⟨#[]⟩, .int .i64 0, .bool false, .int .i64 t0, .slice (some ⟨ab, ao, none⟩) 1 c5]) (by simp [results, Tryz.results43, go_sem, b0, b1, b2, b3, b4, b5, b6, b7, b8, b9]) rfl ⟨HD.out.1, some ⟨ab, ao, none⟩, c5, vs.length, ?_, HD.out.2⟩
  rw [show clP (Nd.mk 12 ⟨#[]⟩ zeroV 0 false p0.ty [p0]).lit = zeroV from clP_zero, HVL.out, HT0.out]
  rfl
set_option maxRecDepth 100000 in
set_option maxHeartbeats 16000000 in
theorem fold12_ty (n : Nat) (s : Sc) (x : Ex) (w : World) (hk : x.kind = 12) (p0 : Nd) (hl0 : likeT p0.ty [1, 2, 3] = false)
    (HAR : ∀ W, Below w.heap.size w W → Calls Tryz.prog 41 #[scV s true true, exV x, .int .i64 1] W (ArgsO n W (.ok [p0]))) :
    Calls Tryz.prog 43 #[scV s false true, exV x] w (ExprO (n + 1) w (.error 70)) := by
  obtain ⟨k, op, ⟨lk, ln, lf, ls⟩, tn, nm, ng, xa, xc, xs⟩ := x
  obtain ⟨sa, sc, ta, tc, ba, bc, rows⟩ := s
  obtain rfl : k = 12 := hk
  unfold scV exV at HAR ⊢
  dsimp only [Ex.kind, Ex.op, Ex.lit, Ex.table, Ex.name, Ex.neg, Ex.A, Ex.c, Ex.args] at HAR ⊢
  generalize xs.length = q at HAR ⊢
  generalize rows.length = rn at HAR ⊢
  have HA := Lib.hid HAR
  have HBK0 := Lib.hid (BK.start w #[.slice sa rn sc, .slice ta rn tc, .slice ba rn bc, .bool true, .bool true] #[.int .i64 12, .string op, .int .i64 lk, .int .i64 ln, .float .f64 lf, .string ls, .string tn, .string nm, .bool ng, .slice xa q xc] (ndR 12 0 1))
  have HCK0 := fun w => check_yes 132 w
  clear HAR
  obtain ⟨t0, ht0⟩ : ∃ t, t = p0.ty := ⟨_, rfl⟩
  have HT0 := Lib.hid ht0
  have hl : likeT t0 [1, 2, 3] = false := by rw [ht0]; exact hl0
  have HLK := Lib.hid (show ∀ (b : Nat) (W : World), W.heap.size = b → Calls Tryz.prog 26 #[.int .i64 t0, .slice (some ⟨b, 0, none⟩) 3 3] (W.alloc (.cells #[.int .i64 1, .int .i64 2, .int .i64 3] 3)) (RetV (.bool false) (W.alloc (.cells #[.int .i64 1, .int .i64 2, .int .i64 3] 3))) from fun b W h => by
    have := like_any t0 (some ⟨b, 0, none⟩) 3 [1, 2, 3] _ (ints_at W b [1, 2, 3] (by show 3 ≤ 1000; omega) h)
    rwa [hl] at this)
  have HCK := fun w => check_no 70 w
  clear hl hl0 ht0
  have sf := store_float
  go_enter Tryz.func43, Tryz.ntmps43
  go_upto_region 9 with (first
    | (go_at_call 24; (with_reducible refine (HCK0 _).mono ?_); rintro e w' ⟨rfl, rfl⟩)
    | (go_at_call 41; (with_reducible refine (HA.out _ HBK0.out.below).mono ?_); rintro e w5 hO
       obtain ⟨A5, c5, vs, rfl, hB5, hC5, hA5, hN5⟩ := argso_ok hO
       have HE5 := Lib.hid (EK.of HBK0.out hB5 hC5 hA5 hN5)
       have hvl : vs.length = 1 := hN5.1
       obtain ⟨ab, ao, rfl⟩ := HE5.out.addr (by show 0 < 1; omega)
       have HE6 := Lib.hid (show EK n w _ _ #[.int .i64 12, .string ⟨#[]⟩, .int .i64 0, .int .i64 0, .float .f64 0, .string ⟨#[]⟩, .int .i64 0, .bool false, .int .i64 1, .slice (some ⟨ab, ao, none⟩) 1 c5] (some ⟨ab, ao, none⟩) vs [p0] (w5.setCell ⟨w.heap.size + 3, 9, none⟩ (.slice (some ⟨ab, ao, none⟩) 1 c5)) from HE5.out.set 9 _)
       have z9 := cell_of_row _ _ 9 _ _ _ HE5.out.bk.nd
       have y9 := frozen_of_row _ _ 9 _ _ HE5.out.bk.nd
       have z9b := cell_of_row _ _ 9 _ _ _ HE6.out.bk.nd
       have x0b := cell_of_row _ _ 0 _ _ _ HE6.out.bk.ex
       have htyb : (w5.setCell ⟨w.heap.size + 3, 9, none⟩ (.slice (some ⟨ab, ao, none⟩) 1 c5)).cell? ⟨ab, ao + 8, none⟩ = some (.int .i64 t0) := by
         have := HE6.out.tyA (i := 0) (p := p0) rfl
         rwa [← HT0.out, Nat.zero_mul, Nat.add_zero] at this
       have hz5 := heap_lt HE5.out.bk.nd
       have HVL := Lib.hid hvl
       rw [hvl]
       clear hO hB5 hC5 hA5 hN5 hvl)
    | fail)
  clear z9 y9 z9b x0b htyb hz5
  generalize (w5.setCell ⟨w.heap.size + 3, 9, none⟩ (.slice (some ⟨ab, ao, none⟩) 1 c5)) = w6 at HE6 ⊢
  obtain ⟨x0, x1, x2, x3, x4, x5, x6, x7, x8, x9⟩ := row10 HE6.out.bk.ex
  go_wp2_with (first
    | (go_at_call 26; (with_reducible refine (HLK.out _ _ (by simp)).mono ?_); rintro e w8 ⟨rfl, hB8⟩
       have HE8 := Lib.hid ((HE6.out.keep (below1 _ _)).keep hB8)
       clear hB8
       have y8 := frozen_of_row _ _ 8 _ _ HE8.out.bk.nd
       obtain ⟨a0, a1, a2, a3, a4, a5, a6, a7, a8, a9⟩ := row10 HE8.out.bk.nd
       have hz8 := heap_lt HE8.out.bk.nd)
    | (go_at_call 24; (with_reducible refine (HCK _).mono ?_); rintro e w' ⟨rfl, rfl⟩)
    | fail)
  exact ⟨rfl, HE8.out.bk.below, rfl⟩
set_option maxRecDepth 100000 in
set_option maxHeartbeats 16000000 in
theorem fold13_args (n : Nat) (s : Sc) (x : Ex) (w : World) (hk : x.kind = 13) (er : Int)
    (HAR : ∀ W, Below w.heap.size w W → Calls Tryz.prog 41 #[scV s true true, exV x, .int .i64 1] W (ArgsO n W (.error er))) :
    Calls Tryz.prog 43 #[scV s false true, exV x] w (ExprO (n + 1) w (.error er)) := by
  obtain ⟨k, op, ⟨lk, ln, lf, ls⟩, tn, nm, ng, xa, xc, xs⟩ := x
  obtain ⟨sa, sc, ta, tc, ba, bc, rows⟩ := s
  obtain rfl : k = 13 := hk
  unfold scV exV at HAR ⊢
  dsimp only [Ex.kind, Ex.op, Ex.lit, Ex.table, Ex.name, Ex.neg, Ex.A, Ex.c, Ex.args] at HAR ⊢
  generalize xs.length = q at HAR ⊢
  generalize rows.length = rn at HAR ⊢
  have HA := Lib.hid HAR
  have HBK0 := Lib.hid (BK.start w #[.slice sa rn sc, .slice ta rn tc, .slice ba rn bc, .bool true, .bool true] #[.int .i64 13, .string op, .int .i64 lk, .int .i64 ln, .float .f64 lf, .string ls, .string tn, .string nm, .bool ng, .slice xa q xc] (ndR 13 0 1))
  have HCK0 := fun w => check_yes 132 w
  clear HAR
  have sf := store_float
  go_enter Tryz.func43, Tryz.ntmps43
  go_wp2_with (first
    | (go_at_call 24; (with_reducible refine (HCK0 _).mono ?_); rintro e w' ⟨rfl, rfl⟩)
    | (go_at_call 41; (with_reducible refine (HA.out _ HBK0.out.below).mono ?_); rintro e w5 hO
       obtain ⟨rfl, hB5⟩ := argso_no hO)
    | fail)
  exact ⟨rfl, (HBK0.out.keep hB5).below, rfl⟩
set_option maxRecDepth 100000 in
set_option maxHeartbeats 16000000 in
theorem fold13_ok (n : Nat) (s : Sc) (x : Ex) (w : World) (hk : x.kind = 13) (p0 : Nd) (hl0 : likeT p0.ty [1, 2, 3] = true)
    (HAR : ∀ W, Below w.heap.size w W → Calls Tryz.prog 41 #[scV s true true, exV x, .int .i64 1] W (ArgsO n W (.ok [p0]))) :
    Calls Tryz.prog 43 #[scV s false true, exV x] w (ExprO (n + 1) w (.ok (.mk 13 ⟨#[]⟩ zeroV 0 false p0.ty [p0]))) := by
  obtain ⟨k, op, ⟨lk, ln, lf, ls⟩, tn, nm, ng, xa, xc, xs⟩ := x
  obtain ⟨sa, sc, ta, tc, ba, bc, rows⟩ := s
  obtain rfl : k = 13 := hk
  unfold scV exV at HAR ⊢
  dsimp only [Ex.kind, Ex.op, Ex.lit, Ex.table, Ex.name, Ex.neg, Ex.A, Ex.c, Ex.args] at HAR ⊢
  generalize xs.length = q at HAR ⊢
  generalize rows.length = rn at HAR ⊢
  have HA := Lib.hid HAR
  have HBK0 := Lib.hid (BK.start w #[.slice sa rn sc, .slice ta rn tc, .slice ba rn bc, .bool true, .bool true] #[.int .i64 13, .string op, .int .i64 lk, .int .i64 ln, .float .f64 lf, .string ls, .string tn, .string nm, .bool ng, .slice xa q xc] (ndR 13 0 1))
  have HCK0 := fun w => check_yes 132 w
  clear HAR
  obtain ⟨t0, ht0⟩ : ∃ t, t = p0.ty := ⟨_, rfl⟩
  have HT0 := Lib.hid ht0
  have hl : likeT t0 [1, 2, 3] = true := by rw [ht0]; exact hl0
  have HLK := Lib.hid (show ∀ (b : Nat) (W : World), W.heap.size = b → Calls Tryz.prog 26 #[.int .i64 t0, .slice (some ⟨b, 0, none⟩) 3 3] (W.alloc (.cells #[.int .i64 1, .int .i64 2, .int .i64 3] 3)) (RetV (.bool true) (W.alloc (.cells #[.int .i64 1, .int .i64 2, .int .i64 3] 3))) from fun b W h => by
    have := like_any t0 (some ⟨b, 0, none⟩) 3 [1, 2, 3] _ (ints_at W b [1, 2, 3] (by show 3 ≤ 1000; omega) h)
    rwa [hl] at this)
  have HCK := fun w => check_yes 70 w
  clear hl hl0 ht0
  have sf := store_float
  go_enter Tryz.func43, Tryz.ntmps43
  go_upto_region 9 with (first
    | (go_at_call 24; (with_reducible refine (HCK0 _).mono ?_); rintro e w' ⟨rfl, rfl⟩)
    | (go_at_call 41; (with_reducible refine (HA.out _ HBK0.out.below).mono ?_); rintro e w5 hO
       obtain ⟨A5, c5, vs, rfl, hB5, hC5, hA5, hN5⟩ := argso_ok hO
       have HE5 := Lib.hid (EK.of HBK0.out hB5 hC5 hA5 hN5)
       have hvl : vs.length = 1 := hN5.1
       obtain ⟨ab, ao, rfl⟩ := HE5.out.addr (by show 0 < 1; omega)
       have HE6 := Lib.hid (show EK n w _ _ #[.int .i64 13, .string ⟨#[]⟩, .int .i64 0, .int .i64 0, .float .f64 0, .string ⟨#[]⟩, .int .i64 0, .bool false, .int .i64 1, .slice (some ⟨ab, ao, none⟩) 1 c5] (some ⟨ab, ao, none⟩) vs [p0] (w5.setCell ⟨w.heap.size + 3, 9, none⟩ (.slice (some ⟨ab, ao, none⟩) 1 c5)) from HE5.out.set 9 _)
       have z9 := cell_of_row _ _ 9 _ _ _ HE5.out.bk.nd
       have y9 := frozen_of_row _ _ 9 _ _ HE5.out.bk.nd
       have z9b := cell_of_row _ _ 9 _ _ _ HE6.out.bk.nd
       have x0b := cell_of_row _ _ 0 _ _ _ HE6.out.bk.ex
       have htyb : (w5.setCell ⟨w.heap.size + 3, 9, none⟩ (.slice (some ⟨ab, ao, none⟩) 1 c5)).cell? ⟨ab, ao + 8, none⟩ = some (.int .i64 t0) := by
         have := HE6.out.tyA (i := 0) (p := p0) rfl
         rwa [← HT0.out, Nat.zero_mul, Nat.add_zero] at this
       have hz5 := heap_lt HE5.out.bk.nd
       have HVL := Lib.hid hvl
       rw [hvl]
       clear hO hB5 hC5 hA5 hN5 hvl)
    | fail)
  clear z9 y9 z9b x0b htyb hz5
  generalize (w5.setCell ⟨w.heap.size + 3, 9, none⟩ (.slice (some ⟨ab, ao, none⟩) 1 c5)) = w6 at HE6 ⊢
  obtain ⟨x0, x1, x2, x3, x4, x5, x6, x7, x8, x9⟩ := row10 HE6.out.bk.ex
  go_upto_region 14 with (first
    | (go_at_call 26; (with_reducible refine (HLK.out _ _ (by simp)).mono ?_); rintro e w8 ⟨rfl, hB8⟩
       have HE8 := Lib.hid ((HE6.out.keep (below1 _ _)).keep hB8)
       clear hB8
       have y8 := frozen_of_row _ _ 8 _ _ HE8.out.bk.nd
       obtain ⟨a0, a1, a2, a3, a4, a5, a6, a7, a8, a9⟩ := row10 HE8.out.bk.nd
       have hz8 := heap_lt HE8.out.bk.nd)
    | (go_at_call 24; (with_reducible refine (HCK _).mono ?_); rintro e w' ⟨rfl, rfl⟩)
    | fail)
  have HE9 := Lib.hid (show EK n w _ _ #[.int .i64 13, .string ⟨#[]⟩, .int .i64 0, .int .i64 0, .float .f64 0, .string ⟨#[]⟩, .int .i64 0, .bool false, .int .i64 t0, .slice (some ⟨ab, ao, none⟩) 1 c5] (some ⟨ab, ao, none⟩) vs [p0] (w8.setCell ⟨w.heap.size + 3, 8, none⟩ (.int .i64 t0)) from HE8.out.set 8 _)
  clear y8 a0 a1 a2 a3 a4 a5 a6 a7 a8 a9 hz8
  generalize (w8.setCell ⟨w.heap.size + 3, 8, none⟩ (.int .i64 t0)) = w9 at HE9 ⊢
  clear x0 x1 x2 x3 x4 x5 x6 x7 x8 x9
  obtain ⟨a0, a1, a2, a3, a4, a5, a6, a7, a8, a9⟩ := row10 HE9.out.bk.nd
  obtain ⟨b0, b1, b2, b3, b4, b5, b6, b7, b8, b9⟩ := row10 HE9.out.bk.ans
  obtain ⟨f0, f1, f2, f3, f4, f5, f6, f7, f8, f9⟩ := free10 HE9.out.bk.ans
  have hlz := heap_lt HE9.out.bk.ans
  go_wp2_with fail
  have HD := Lib.hid (HE9.out.done (p := .mk 13 ⟨#[]⟩ zeroV 0 false p0.ty [p0]) c5 (.int .i64 13) (.string ⟨#[]⟩) (.int .i64 0) (.int .i64 0) (.float .f64 0) (.string ⟨#[]⟩) (.int .i64 0) (.bool false) (.int .i64 t0) (.slice (some ⟨ab, ao, none⟩) 1 c5))
  refine bodyPost_ret (v := .agg #[.int .i64 13, .string ⟨#[]⟩, .int .i64 0, .int .i64 0, .float .f64 0, .string ⟨#[]⟩, .int .i64 0, .bool false, .int .i64 t0, .slice (some ⟨ab, ao, none⟩) 1 c5]) (by simp [results, Tryz.results43, go_sem, b0, b1, b2, b3, b4, b5, b6, b7, b8, b9]) rfl ⟨HD.out.1, some ⟨ab, ao, none⟩, c5, vs.length, ?_, HD.out.2⟩
  rw [show clP (Nd.mk 13 ⟨#[]⟩ zeroV 0 false p0.ty [p0]).lit = zeroV from clP_zero, HVL.out, HT0.out]
  rfl
set_option maxRecDepth 100000 in
set_option maxHeartbeats 16000000 in
theorem fold13_ty (n : Nat) (s : Sc) (x : Ex) (w : World) (hk : x.kind = 13) (p0 : Nd) (hl0 : likeT p0.ty [1, 2, 3] = false)
    (HAR : ∀ W, Below w.heap.size w W → Calls Tryz.prog 41 #[scV s true true, exV x, .int .i64 1] W (ArgsO n W (.ok [p0]))) :
    Calls Tryz.prog 43 #[scV s false true, exV x] w (ExprO (n + 1) w (.error 70)) := by
  obtain ⟨k, op, ⟨lk, ln, lf, ls⟩, tn, nm, ng, xa, xc, xs⟩ := x
  obtain ⟨sa, sc, ta, tc, ba, bc, rows⟩ := s
  obtain rfl : k = 13 := hk
  unfold scV exV at HAR ⊢
  dsimp only [Ex.kind, Ex.op, Ex.lit, Ex.table, Ex.name, Ex.neg, Ex.A, Ex.c, Ex.args] at HAR ⊢
  generalize xs.length = q at HAR ⊢
  generalize rows.length = rn at HAR ⊢
  have HA := Lib.hid HAR
  have HBK0 := Lib.hid (BK.start w #[.slice sa rn sc, .slice ta rn tc, .slice ba rn bc, .bool true, .bool true] #[.int .i64 13, .string op, .int .i64 lk, .int .i64 ln, .float .f64 lf, .string ls, .string tn, .string nm, .bool ng, .slice xa q xc] (ndR 13 0 1))
  have HCK0 := fun w => check_yes 132 w
  clear HAR
  obtain ⟨t0, ht0⟩ : ∃ t, t = p0.ty := ⟨_, rfl⟩
  have HT0 := Lib.hid ht0
  have hl : likeT t0 [1, 2, 3] = false := by rw [ht0]; exact hl0
  have HLK := Lib.hid (show ∀ (b : Nat) (W : World), W.heap.size = b → Calls Tryz.prog 26 #[.int .i64 t0, .slice (some ⟨b, 0, none⟩) 3 3] (W.alloc (.cells #[.int .i64 1, .int .i64 2, .int .i64 3] 3)) (RetV (.bool false) (W.alloc (.cells #[.int .i64 1, .int .i64 2, .int .i64 3] 3))) from fun b W h => by
    have := like_any t0 (some ⟨b, 0, none⟩) 3 [1, 2, 3] _ (ints_at W b [1, 2, 3] (by show 3 ≤ 1000; omega) h)
    rwa [hl] at this)
  have HCK := fun w => check_no 70 w
  clear hl hl0 ht0
  have sf := store_float
  go_enter Tryz.func43, Tryz.ntmps43
  go_upto_region 9 with (first
    | (go_at_call 24; (with_reducible refine (HCK0 _).mono ?_); rintro e w' ⟨rfl, rfl⟩)
    | (go_at_call 41; (with_reducible refine (HA.out _ HBK0.out.below).mono ?_); rintro e w5 hO
       obtain ⟨A5, c5, vs, rfl, hB5, hC5, hA5, hN5⟩ := argso_ok hO
       have HE5 := Lib.hid (EK.of HBK0.out hB5 hC5 hA5 hN5)
       have hvl : vs.length = 1 := hN5.1
       obtain ⟨ab, ao, rfl⟩ := HE5.out.addr (by show 0 < 1; omega)
       have HE6 := Lib.hid (show EK n w _ _ #[.int .i64 13, .string ⟨#[]⟩, .int .i64 0, .int .i64 0, .float .f64 0, .string ⟨#[]⟩, .int .i64 0, .bool false, .int .i64 1, .slice (some ⟨ab, ao, none⟩) 1 c5] (some ⟨ab, ao, none⟩) vs [p0] (w5.setCell ⟨w.heap.size + 3, 9, none⟩ (.slice (some ⟨ab, ao, none⟩) 1 c5)) from HE5.out.set 9 _)
       have z9 := cell_of_row _ _ 9 _ _ _ HE5.out.bk.nd
       have y9 := frozen_of_row _ _ 9 _ _ HE5.out.bk.nd
       have z9b := cell_of_row _ _ 9 _ _ _ HE6.out.bk.nd
       have x0b := cell_of_row _ _ 0 _ _ _ HE6.out.bk.ex
       have htyb : (w5.setCell ⟨w.heap.size + 3, 9, none⟩ (.slice (some ⟨ab, ao, none⟩) 1 c5)).cell? ⟨ab, ao + 8, none⟩ = some (.int .i64 t0) := by
         have := HE6.out.tyA (i := 0) (p := p0) rfl
         rwa [← HT0.out, Nat.zero_mul, Nat.add_zero] at this
       have hz5 := heap_lt HE5.out.bk.nd
       have HVL := Lib.hid hvl
       rw [hvl]
       clear hO hB5 hC5 hA5 hN5 hvl)
    | fail)
  clear z9 y9 z9b x0b htyb hz5
  generalize (w5.setCell ⟨w.heap.size + 3, 9, none⟩ (.slice (some ⟨ab, ao, none⟩) 1 c5)) = w6 at HE6 ⊢
  obtain ⟨x0, x1, x2, x3, x4, x5, x6, x7, x8, x9⟩ := row10 HE6.out.bk.ex
  go_wp2_with (first
    | (go_at_call 26; (with_reducible refine (HLK.out _ _ (by simp)).mono ?_); rintro e w8 ⟨rfl, hB8⟩
       have HE8 := Lib.hid ((HE6.out.keep (below1 _ _)).keep hB8)
       clear hB8
       have y8 := frozen_of_row _ _ 8 _ _ HE8.out.bk.nd
       obtain ⟨a0, a1, a2, a3, a4, a5, a6, a7, a8, a9⟩ := row10 HE8.out.bk.nd
       have hz8 := heap_lt HE8.out.bk.nd)
    | (go_at_call 24; (with_reducible refine (HCK _).mono ?_); rintro e w' ⟨rfl, rfl⟩)
    | fail)
  exact ⟨rfl, HE8.out.bk.below, rfl⟩
end Go.Proofs.YthdmfaepjemopaaGreatDoor
