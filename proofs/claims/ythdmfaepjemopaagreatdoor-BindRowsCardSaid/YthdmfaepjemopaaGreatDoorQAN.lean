/- The walk of a scope's expr at a value, a column, a fold, and at what is none. The walk of a scope's expr at NOT, AND, OR. -/
import Derived.Test.YthdmfaepjemopaaGreatDoorQAM
namespace Go.Proofs.YthdmfaepjemopaaGreatDoor
open Go.RowKit

set_option maxRecDepth 100000 in
set_option maxHeartbeats 16000000 in
theorem expr_lit (n : Nat) (s : Sc) (ins fol : Bool) (x : Ex) (w : World) (hk : x.kind = 1) :
    Calls Tryz.prog 25 #[scV s ins fol, exV x] w (ExprO (n + 1) w (.ok (.mk 1 ⟨#[]⟩ x.lit 0 false (clK x.lit.k) []))) := by
  obtain ⟨k, op, ⟨lk, ln, lf, ls⟩, tn, nm, ng, xa, xc, xs⟩ := x
  obtain ⟨sa, sc, ta, tc, ba, bc, rows⟩ := s
  obtain rfl : k = 1 := hk
  unfold scV exV
  dsimp only [Ex.kind, Ex.op, Ex.lit, Ex.table, Ex.name, Ex.neg, Ex.A, Ex.c, Ex.args]
  generalize xs.length = q
  generalize rows.length = rn
  have HBK0 := Lib.hid (BK.start w #[.slice sa rn sc, .slice ta rn tc, .slice ba rn bc, .bool ins, .bool fol] #[.int .i64 1, .string op, .int .i64 lk, .int .i64 ln, .float .f64 lf, .string ls, .string tn, .string nm, .bool ng, .slice xa q xc] (ndR 1 0 0))
  obtain ⟨vk, hvk⟩ : ∃ v, v = clK lk := ⟨_, rfl⟩
  obtain ⟨vn, hvn⟩ : ∃ v, v = clN lk ln := ⟨_, rfl⟩
  obtain ⟨vf, hvf⟩ : ∃ v, v = clF lk lf := ⟨_, rfl⟩
  obtain ⟨vs, hvs⟩ : ∃ v, v = clS lk ls := ⟨_, rfl⟩
  have HCL := Lib.hid (show ∀ W, Calls Tryz.prog 40 #[.agg #[.int .i64 lk, .int .i64 ln, .float .f64 lf, .string ls]] W (RetV (.agg #[.int .i64 vk, .int .i64 vn, .float .f64 vf, .string vs]) W) from fun W => by rw [hvk, hvn, hvf, hvs]; exact clean_any lk ln lf ls W)
  have HV := Lib.hid (show clP ⟨lk, ln, lf, ls⟩ = ⟨vk, vn, vf, vs⟩ from by rw [hvk, hvn, hvf, hvs]; rfl)
  have HK := Lib.hid hvk
  clear hvk hvn hvf hvs
  have sf := store_float
  go_enter Tryz.func25, Tryz.ntmps25
  go_upto_region 43 with (first
    | (go_at_call 40; (with_reducible refine (HCL.out _).mono ?_); rintro e w5 ⟨rfl, hB5⟩
       have HB5 := Lib.hid (HBK0.out.keep hB5)
       obtain ⟨x0, x1, x2, x3, x4, x5, x6, x7, x8, x9⟩ := row10 HB5.out.nd
       obtain ⟨y0, y1, y2, y3, y4, y5, y6, y7, y8, y9⟩ := free10 HB5.out.nd
       have hlz := heap_lt HB5.out.nd
       have HB6 := Lib.hid (show BK w _ _ #[.int .i64 1, .string ⟨#[]⟩, .int .i64 vk, .int .i64 vn, .float .f64 vf, .string vs, .int .i64 0, .bool false, .int .i64 vk, .slice none 0 0] (((((w5.setCell ⟨w.heap.size + 3, 2, none⟩ (.int .i64 vk)).setCell ⟨w.heap.size + 3, 3, none⟩ (.int .i64 vn)).setCell ⟨w.heap.size + 3, 4, none⟩ (.float .f64 vf)).setCell ⟨w.heap.size + 3, 5, none⟩ (.string vs)).setCell ⟨w.heap.size + 3, 8, none⟩ (.int .i64 vk)) from ((((HB5.out.set 2 _).set 3 _).set 4 _).set 5 _).set 8 _)
       clear hB5)
    | fail)
  clear x0 x1 x2 x3 x4 x5 x6 x7 x8 x9 y0 y1 y2 y3 y4 y5 y6 y7 y8 y9 hlz
  generalize (((((w5.setCell ⟨w.heap.size + 3, 2, none⟩ (.int .i64 vk)).setCell ⟨w.heap.size + 3, 3, none⟩ (.int .i64 vn)).setCell ⟨w.heap.size + 3, 4, none⟩ (.float .f64 vf)).setCell ⟨w.heap.size + 3, 5, none⟩ (.string vs)).setCell ⟨w.heap.size + 3, 8, none⟩ (.int .i64 vk)) = w8 at HB6 ⊢
  obtain ⟨a0, a1, a2, a3, a4, a5, a6, a7, a8, a9⟩ := row10 HB6.out.nd
  obtain ⟨b0, b1, b2, b3, b4, b5, b6, b7, b8, b9⟩ := row10 HB6.out.ans
  obtain ⟨f0, f1, f2, f3, f4, f5, f6, f7, f8, f9⟩ := free10 HB6.out.ans
  have hlz8 := heap_lt HB6.out.nd
  go_wp2_with fail
  have HD := Lib.hid ((EK.leaf (n := n) HB6.out).done (p := .mk 1 ⟨#[]⟩ ⟨lk, ln, lf, ls⟩ 0 false (clK lk) []) 0 (.int .i64 1) (.string ⟨#[]⟩) (.int .i64 vk) (.int .i64 vn) (.float .f64 vf) (.string vs) (.int .i64 0) (.bool false) (.int .i64 vk) (.slice none 0 0))
  refine bodyPost_ret (v := .agg #[.int .i64 1, .string ⟨#[]⟩, .int .i64 vk, .int .i64 vn, .float .f64 vf, .string vs, .int .i64 0, .bool false, .int .i64 vk, .slice none 0 0]) (by simp [results, Tryz.results25, go_sem, b0, b1, b2, b3, b4, b5, b6, b7, b8, b9]) rfl ⟨HD.out.1, none, 0, 0, ?_, HD.out.2⟩
  rw [show clP (Nd.mk 1 ⟨#[]⟩ ⟨lk, ln, lf, ls⟩ 0 false (clK lk) []).lit = ⟨vk, vn, vf, vs⟩ from HV.out, HK.out]
  rfl
set_option maxRecDepth 100000 in
set_option maxHeartbeats 16000000 in
theorem expr_sub2 (n : Nat) (s : Sc) (ins fol : Bool) (x : Ex) (w : World) (hk : x.kind = 2) (r : Except Int Nd)
    (HS : ∀ W, Below w.heap.size w W → Calls Tryz.prog 36 #[scV s ins fol, exV x] W (ExprO n W r)) : Calls Tryz.prog 25 #[scV s ins fol, exV x] w (ExprO n w r) := by
  obtain ⟨k, op, ⟨lk, ln, lf, ls⟩, tn, nm, ng, xa, xc, xs⟩ := x
  obtain ⟨sa, sc, ta, tc, ba, bc, rows⟩ := s
  obtain rfl : k = 2 := hk
  unfold scV exV at HS ⊢
  dsimp only [Ex.kind, Ex.op, Ex.lit, Ex.table, Ex.name, Ex.neg, Ex.A, Ex.c, Ex.args] at HS ⊢
  generalize xs.length = q at HS ⊢
  generalize rows.length = rn at HS ⊢
  have HA := Lib.hid HS
  have HBK0 := Lib.hid (BK.start w #[.slice sa rn sc, .slice ta rn tc, .slice ba rn bc, .bool ins, .bool fol] #[.int .i64 2, .string op, .int .i64 lk, .int .i64 ln, .float .f64 lf, .string ls, .string tn, .string nm, .bool ng, .slice xa q xc] (ndR 2 0 0))
  clear HS
  cases r with
  | error er =>
    have sf := store_float
    go_enter Tryz.func25, Tryz.ntmps25
    go_wp2_with (first
      | (go_at_call 36; (with_reducible refine (HA.out _ HBK0.out.below).mono ?_); rintro e w5 ⟨hB5, rfl⟩)
      | fail)
    exact ⟨rfl, (HBK0.out.keep hB5).below, rfl⟩
  | ok p =>
    have sf := store_float
    go_enter Tryz.func25, Tryz.ntmps25
    go_wp2_with (first
      | (go_at_call 36; (with_reducible refine (HA.out _ HBK0.out.below).mono ?_); rintro e w5 ⟨hB5, A5, c5, q5, rfl, hN5⟩
         have HB5 := Lib.hid (HBK0.out.keep hB5)
         have HD := Lib.hid (sub_done HBK0.out hB5 hN5 (.int .i64 p.kind) (.string p.op) (.int .i64 (clP p.lit).k) (.int .i64 (clP p.lit).n) (.float .f64 (clP p.lit).f) (.string (clP p.lit).s) (.int .i64 p.pos) (.bool p.neg) (.int .i64 p.ty) (.slice A5 q5 c5))
         obtain ⟨b0, b1, b2, b3, b4, b5, b6, b7, b8, b9⟩ := row10 HB5.out.ans
         obtain ⟨f0, f1, f2, f3, f4, f5, f6, f7, f8, f9⟩ := free10 HB5.out.ans
         have hlz := heap_lt HB5.out.nd
         clear hB5 hN5)
      | fail)
    refine bodyPost_ret (v := ndV p (clP p.lit) A5 q5 c5) (by simp [results, Tryz.results25, go_sem, b0, b1, b2, b3, b4, b5, b6, b7, b8, b9]) rfl ⟨HD.out.1, A5, c5, q5, rfl, HD.out.2⟩
set_option maxRecDepth 100000 in
set_option maxHeartbeats 16000000 in
theorem expr_sub10 (n : Nat) (s : Sc) (ins fol : Bool) (x : Ex) (w : World) (hk : x.kind = 10) (r : Except Int Nd)
    (HS : ∀ W, Below w.heap.size w W → Calls Tryz.prog 43 #[scV s ins fol, exV x] W (ExprO n W r)) : Calls Tryz.prog 25 #[scV s ins fol, exV x] w (ExprO n w r) := by
  obtain ⟨k, op, ⟨lk, ln, lf, ls⟩, tn, nm, ng, xa, xc, xs⟩ := x
  obtain ⟨sa, sc, ta, tc, ba, bc, rows⟩ := s
  obtain rfl : k = 10 := hk
  unfold scV exV at HS ⊢
  dsimp only [Ex.kind, Ex.op, Ex.lit, Ex.table, Ex.name, Ex.neg, Ex.A, Ex.c, Ex.args] at HS ⊢
  generalize xs.length = q at HS ⊢
  generalize rows.length = rn at HS ⊢
  have HA := Lib.hid HS
  have HBK0 := Lib.hid (BK.start w #[.slice sa rn sc, .slice ta rn tc, .slice ba rn bc, .bool ins, .bool fol] #[.int .i64 10, .string op, .int .i64 lk, .int .i64 ln, .float .f64 lf, .string ls, .string tn, .string nm, .bool ng, .slice xa q xc] (ndR 10 0 0))
  clear HS
  cases r with
  | error er =>
    have sf := store_float
    go_enter Tryz.func25, Tryz.ntmps25
    go_wp2_with (first
      | (go_at_call 43; (with_reducible refine (HA.out _ HBK0.out.below).mono ?_); rintro e w5 ⟨hB5, rfl⟩)
      | fail)
    exact ⟨rfl, (HBK0.out.keep hB5).below, rfl⟩
  | ok p =>
    have sf := store_float
    go_enter Tryz.func25, Tryz.ntmps25
    go_wp2_with (first
      | (go_at_call 43; (with_reducible refine (HA.out _ HBK0.out.below).mono ?_); rintro e w5 ⟨hB5, A5, c5, q5, rfl, hN5⟩
         have HB5 := Lib.hid (HBK0.out.keep hB5)
         have HD := Lib.hid (sub_done HBK0.out hB5 hN5 (.int .i64 p.kind) (.string p.op) (.int .i64 (clP p.lit).k) (.int .i64 (clP p.lit).n) (.float .f64 (clP p.lit).f) (.string (clP p.lit).s) (.int .i64 p.pos) (.bool p.neg) (.int .i64 p.ty) (.slice A5 q5 c5))
         obtain ⟨b0, b1, b2, b3, b4, b5, b6, b7, b8, b9⟩ := row10 HB5.out.ans
         obtain ⟨f0, f1, f2, f3, f4, f5, f6, f7, f8, f9⟩ := free10 HB5.out.ans
         have hlz := heap_lt HB5.out.nd
         clear hB5 hN5)
      | fail)
    refine bodyPost_ret (v := ndV p (clP p.lit) A5 q5 c5) (by simp [results, Tryz.results25, go_sem, b0, b1, b2, b3, b4, b5, b6, b7, b8, b9]) rfl ⟨HD.out.1, A5, c5, q5, rfl, HD.out.2⟩
set_option maxRecDepth 100000 in
set_option maxHeartbeats 16000000 in
theorem expr_sub11 (n : Nat) (s : Sc) (ins fol : Bool) (x : Ex) (w : World) (hk : x.kind = 11) (r : Except Int Nd)
    (HS : ∀ W, Below w.heap.size w W → Calls Tryz.prog 43 #[scV s ins fol, exV x] W (ExprO n W r)) : Calls Tryz.prog 25 #[scV s ins fol, exV x] w (ExprO n w r) := by
  obtain ⟨k, op, ⟨lk, ln, lf, ls⟩, tn, nm, ng, xa, xc, xs⟩ := x
  obtain ⟨sa, sc, ta, tc, ba, bc, rows⟩ := s
  obtain rfl : k = 11 := hk
  unfold scV exV at HS ⊢
  dsimp only [Ex.kind, Ex.op, Ex.lit, Ex.table, Ex.name, Ex.neg, Ex.A, Ex.c, Ex.args] at HS ⊢
  generalize xs.length = q at HS ⊢
  generalize rows.length = rn at HS ⊢
  have HA := Lib.hid HS
  have HBK0 := Lib.hid (BK.start w #[.slice sa rn sc, .slice ta rn tc, .slice ba rn bc, .bool ins, .bool fol] #[.int .i64 11, .string op, .int .i64 lk, .int .i64 ln, .float .f64 lf, .string ls, .string tn, .string nm, .bool ng, .slice xa q xc] (ndR 11 0 0))
  clear HS
  cases r with
  | error er =>
    have sf := store_float
    go_enter Tryz.func25, Tryz.ntmps25
    go_wp2_with (first
      | (go_at_call 43; (with_reducible refine (HA.out _ HBK0.out.below).mono ?_); rintro e w5 ⟨hB5, rfl⟩)
      | fail)
    exact ⟨rfl, (HBK0.out.keep hB5).below, rfl⟩
  | ok p =>
    have sf := store_float
    go_enter Tryz.func25, Tryz.ntmps25
    go_wp2_with (first
      | (go_at_call 43; (with_reducible refine (HA.out _ HBK0.out.below).mono ?_); rintro e w5 ⟨hB5, A5, c5, q5, rfl, hN5⟩
         have HB5 := Lib.hid (HBK0.out.keep hB5)
         have HD := Lib.hid (sub_done HBK0.out hB5 hN5 (.int .i64 p.kind) (.string p.op) (.int .i64 (clP p.lit).k) (.int .i64 (clP p.lit).n) (.float .f64 (clP p.lit).f) (.string (clP p.lit).s) (.int .i64 p.pos) (.bool p.neg) (.int .i64 p.ty) (.slice A5 q5 c5))
         obtain ⟨b0, b1, b2, b3, b4, b5, b6, b7, b8, b9⟩ := row10 HB5.out.ans
         obtain ⟨f0, f1, f2, f3, f4, f5, f6, f7, f8, f9⟩ := free10 HB5.out.ans
         have hlz := heap_lt HB5.out.nd
         clear hB5 hN5)
      | fail)
    refine bodyPost_ret (v := ndV p (clP p.lit) A5 q5 c5) (by simp [results, Tryz.results25, go_sem, b0, b1, b2, b3, b4, b5, b6, b7, b8, b9]) rfl ⟨HD.out.1, A5, c5, q5, rfl, HD.out.2⟩
set_option maxRecDepth 100000 in
set_option maxHeartbeats 16000000 in
theorem expr_sub12 (n : Nat) (s : Sc) (ins fol : Bool) (x : Ex) (w : World) (hk : x.kind = 12) (r : Except Int Nd)
    (HS : ∀ W, Below w.heap.size w W → Calls Tryz.prog 43 #[scV s ins fol, exV x] W (ExprO n W r)) : Calls Tryz.prog 25 #[scV s ins fol, exV x] w (ExprO n w r) := by
  obtain ⟨k, op, ⟨lk, ln, lf, ls⟩, tn, nm, ng, xa, xc, xs⟩ := x
  obtain ⟨sa, sc, ta, tc, ba, bc, rows⟩ := s
  obtain rfl : k = 12 := hk
  unfold scV exV at HS ⊢
  dsimp only [Ex.kind, Ex.op, Ex.lit, Ex.table, Ex.name, Ex.neg, Ex.A, Ex.c, Ex.args] at HS ⊢
  generalize xs.length = q at HS ⊢
  generalize rows.length = rn at HS ⊢
  have HA := Lib.hid HS
  have HBK0 := Lib.hid (BK.start w #[.slice sa rn sc, .slice ta rn tc, .slice ba rn bc, .bool ins, .bool fol] #[.int .i64 12, .string op, .int .i64 lk, .int .i64 ln, .float .f64 lf, .string ls, .string tn, .string nm, .bool ng, .slice xa q xc] (ndR 12 0 0))
  clear HS
  cases r with
  | error er =>
    have sf := store_float
    go_enter Tryz.func25, Tryz.ntmps25
    go_wp2_with (first
      | (go_at_call 43; (with_reducible refine (HA.out _ HBK0.out.below).mono ?_); rintro e w5 ⟨hB5, rfl⟩)
      | fail)
    exact ⟨rfl, (HBK0.out.keep hB5).below, rfl⟩
  | ok p =>
    have sf := store_float
    go_enter Tryz.func25, Tryz.ntmps25
    go_wp2_with (first
      | (go_at_call 43; (with_reducible refine (HA.out _ HBK0.out.below).mono ?_); rintro e w5 ⟨hB5, A5, c5, q5, rfl, hN5⟩
         have HB5 := Lib.hid (HBK0.out.keep hB5)
         have HD := Lib.hid (sub_done HBK0.out hB5 hN5 (.int .i64 p.kind) (.string p.op) (.int .i64 (clP p.lit).k) (.int .i64 (clP p.lit).n) (.float .f64 (clP p.lit).f) (.string (clP p.lit).s) (.int .i64 p.pos) (.bool p.neg) (.int .i64 p.ty) (.slice A5 q5 c5))
         obtain ⟨b0, b1, b2, b3, b4, b5, b6, b7, b8, b9⟩ := row10 HB5.out.ans
         obtain ⟨f0, f1, f2, f3, f4, f5, f6, f7, f8, f9⟩ := free10 HB5.out.ans
         have hlz := heap_lt HB5.out.nd
         clear hB5 hN5)
      | fail)
    refine bodyPost_ret (v := ndV p (clP p.lit) A5 q5 c5) (by simp [results, Tryz.results25, go_sem, b0, b1, b2, b3, b4, b5, b6, b7, b8, b9]) rfl ⟨HD.out.1, A5, c5, q5, rfl, HD.out.2⟩
set_option maxRecDepth 100000 in
set_option maxHeartbeats 16000000 in
theorem expr_sub13 (n : Nat) (s : Sc) (ins fol : Bool) (x : Ex) (w : World) (hk : x.kind = 13) (r : Except Int Nd)
    (HS : ∀ W, Below w.heap.size w W → Calls Tryz.prog 43 #[scV s ins fol, exV x] W (ExprO n W r)) : Calls Tryz.prog 25 #[scV s ins fol, exV x] w (ExprO n w r) := by
  obtain ⟨k, op, ⟨lk, ln, lf, ls⟩, tn, nm, ng, xa, xc, xs⟩ := x
  obtain ⟨sa, sc, ta, tc, ba, bc, rows⟩ := s
  obtain rfl : k = 13 := hk
  unfold scV exV at HS ⊢
  dsimp only [Ex.kind, Ex.op, Ex.lit, Ex.table, Ex.name, Ex.neg, Ex.A, Ex.c, Ex.args] at HS ⊢
  generalize xs.length = q at HS ⊢
  generalize rows.length = rn at HS ⊢
  have HA := Lib.hid HS
  have HBK0 := Lib.hid (BK.start w #[.slice sa rn sc, .slice ta rn tc, .slice ba rn bc, .bool ins, .bool fol] #[.int .i64 13, .string op, .int .i64 lk, .int .i64 ln, .float .f64 lf, .string ls, .string tn, .string nm, .bool ng, .slice xa q xc] (ndR 13 0 0))
  clear HS
  cases r with
  | error er =>
    have sf := store_float
    go_enter Tryz.func25, Tryz.ntmps25
    go_wp2_with (first
      | (go_at_call 43; (with_reducible refine (HA.out _ HBK0.out.below).mono ?_); rintro e w5 ⟨hB5, rfl⟩)
      | fail)
    exact ⟨rfl, (HBK0.out.keep hB5).below, rfl⟩
  | ok p =>
    have sf := store_float
    go_enter Tryz.func25, Tryz.ntmps25
    go_wp2_with (first
      | (go_at_call 43; (with_reducible refine (HA.out _ HBK0.out.below).mono ?_); rintro e w5 ⟨hB5, A5, c5, q5, rfl, hN5⟩
         have HB5 := Lib.hid (HBK0.out.keep hB5)
         have HD := Lib.hid (sub_done HBK0.out hB5 hN5 (.int .i64 p.kind) (.string p.op) (.int .i64 (clP p.lit).k) (.int .i64 (clP p.lit).n) (.float .f64 (clP p.lit).f) (.string (clP p.lit).s) (.int .i64 p.pos) (.bool p.neg) (.int .i64 p.ty) (.slice A5 q5 c5))
         obtain ⟨b0, b1, b2, b3, b4, b5, b6, b7, b8, b9⟩ := row10 HB5.out.ans
         obtain ⟨f0, f1, f2, f3, f4, f5, f6, f7, f8, f9⟩ := free10 HB5.out.ans
         have hlz := heap_lt HB5.out.nd
         clear hB5 hN5)
      | fail)
    refine bodyPost_ret (v := ndV p (clP p.lit) A5 q5 c5) (by simp [results, Tryz.results25, go_sem, b0, b1, b2, b3, b4, b5, b6, b7, b8, b9]) rfl ⟨HD.out.1, A5, c5, q5, rfl, HD.out.2⟩
set_option maxRecDepth 100000 in
set_option maxHeartbeats 16000000 in
theorem expr_none (n : Nat) (s : Sc) (ins fol : Bool) (x : Ex) (w : World) (hk : arity x.kind = none) : Calls Tryz.prog 25 #[scV s ins fol, exV x] w (ExprO n w (.error 7)) := by
  obtain ⟨k, op, ⟨lk, ln, lf, ls⟩, tn, nm, ng, xa, xc, xs⟩ := x
  obtain ⟨sa, sc, ta, tc, ba, bc, rows⟩ := s
  have hk : arity k = none := hk
  unfold scV exV
  dsimp only [Ex.kind, Ex.op, Ex.lit, Ex.table, Ex.name, Ex.neg, Ex.A, Ex.c, Ex.args]
  generalize xs.length = q
  generalize rows.length = rn
  have HBK0 := Lib.hid (BK.start w #[.slice sa rn sc, .slice ta rn tc, .slice ba rn bc, .bool ins, .bool fol] #[.int .i64 k, .string op, .int .i64 lk, .int .i64 ln, .float .f64 lf, .string ls, .string tn, .string nm, .bool ng, .slice xa q xc] (ndR k 0 0))
  obtain ⟨h1, h2, h3, h4, h5, h6, h7, h8, h9, h10, h11, h12, h13⟩ := arity_none hk
  clear hk
  have sf := store_float
  go_enter Tryz.func25, Tryz.ntmps25
  go_wp2_with fail
  exact ⟨rfl, HBK0.out.below, rfl⟩
end Go.Proofs.YthdmfaepjemopaaGreatDoor
namespace Go.Proofs.YthdmfaepjemopaaGreatDoor
open Go.RowKit

set_option maxRecDepth 100000 in
set_option maxHeartbeats 16000000 in
theorem expr_bool4 (n : Nat) (s : Sc) (ins fol : Bool) (x : Ex) (w : World) (hk : x.kind = 4) (ps : List Nd) (hm : ps.length = 1)
    (HAR : ∀ W, Below w.heap.size w W → Calls Tryz.prog 41 #[scV s ins fol, exV x, .int .i64 1] W (ArgsO n W (.ok ps))) :
    Calls Tryz.prog 25 #[scV s ins fol, exV x] w (ExprO (n + 1) w (if ps.all (fun p => likeT p.ty [4]) then .ok (.mk 4 ⟨#[]⟩ zeroV 0 false 4 ps) else .error 70)) := by
  obtain ⟨k, op, ⟨lk, ln, lf, ls⟩, tn, nm, ng, xa, xc, xs⟩ := x
  obtain ⟨sa, sc, ta, tc, ba, bc, rows⟩ := s
  obtain rfl : k = 4 := hk
  unfold scV exV at HAR ⊢
  dsimp only [Ex.kind, Ex.op, Ex.lit, Ex.table, Ex.name, Ex.neg, Ex.A, Ex.c, Ex.args] at HAR ⊢
  generalize xs.length = q at HAR ⊢
  generalize rows.length = rn at HAR ⊢
  have HA := Lib.hid HAR
  have HBK0 := Lib.hid (BK.start w #[.slice sa rn sc, .slice ta rn tc, .slice ba rn bc, .bool ins, .bool fol] #[.int .i64 4, .string op, .int .i64 lk, .int .i64 ln, .float .f64 lf, .string ls, .string tn, .string nm, .bool ng, .slice xa q xc] (ndR 4 0 0))
  clear HAR
  obtain ⟨R, hR⟩ : ∃ R, R = (if ps.all (fun p => likeT p.ty [4]) then Except.ok (Nd.mk 4 ⟨#[]⟩ zeroV 0 false 4 ps) else Except.error (70 : Int)) := ⟨_, rfl⟩
  rw [← hR]
  have HRY := Lib.hid (show TruthsTo ps ps.length → R = .ok (.mk 4 ⟨#[]⟩ zeroV 0 false 4 ps) from fun h => by rw [hR, if_pos (truths_all h)])
  have HRN := Lib.hid (show ∀ (i : Nat) (p : Nd), ps[i]? = some p → likeT p.ty [4] = false → R = .error 70 from fun (i : Nat) (p : Nd) h1 h2 => by rw [hR, if_neg (truths_not h1 h2)])
  obtain ⟨qn, hqn⟩ : ∃ q, q = ps.length := ⟨_, rfl⟩
  have HQN := Lib.hid hqn
  rw [← hqn] at hm
  have HM := Lib.hid hm
  have hq9 : qn ≤ 2 := by omega
  clear hR hqn hm
  have HLK := Lib.hid (show ∀ (t : Int) (b : Nat) (W : World), W.heap.size = b → Calls Tryz.prog 26 #[.int .i64 t, .slice (some ⟨b, 0, none⟩) 1 1] (W.alloc (.cells #[.int .i64 4] 3)) (RetV (.bool (likeT t [4])) (W.alloc (.cells #[.int .i64 4] 3))) from fun t b W h => like_any t (some ⟨b, 0, none⟩) 1 [4] _ (ints_at W b [4] (by show 1 ≤ 1000; omega) h))
  have HCY := fun w => check_yes 70 w
  have HCN := fun w => check_no 70 w
  have sf := store_float
  go_enter Tryz.func25, Tryz.ntmps25
  go_upto_region 21 with (first
    | (go_at_call 41; (with_reducible refine (HA.out _ HBK0.out.below).mono ?_); rintro e w5 hO
       obtain ⟨A5, c5, vs, rfl, hB5, hC5, hA5, hN5⟩ := argso_ok hO
       have HE5 := Lib.hid (EK.of HBK0.out hB5 hC5 hA5 hN5)
       have hvl : vs.length = qn := hN5.1.trans HQN.out.symm
       obtain ⟨ab, ao, rfl⟩ := HE5.out.addr (by rw [← HQN.out, HM.out]; omega)
       have z9 := cell_of_row _ _ 9 _ _ _ HE5.out.bk.nd
       have y9 := frozen_of_row _ _ 9 _ _ HE5.out.bk.nd
       have HVL := Lib.hid hvl
       rw [hvl]
       have HE6 := Lib.hid (show EK n w _ _ #[.int .i64 4, .string ⟨#[]⟩, .int .i64 0, .int .i64 0, .float .f64 0, .string ⟨#[]⟩, .int .i64 0, .bool false, .int .i64 0, .slice (some ⟨ab, ao, none⟩) qn c5] (some ⟨ab, ao, none⟩) vs ps (w5.setCell ⟨w.heap.size + 3, 9, none⟩ (.slice (some ⟨ab, ao, none⟩) qn c5)) from HE5.out.set 9 _)
       have z9b := cell_of_row _ _ 9 _ _ _ HE6.out.bk.nd
       have hz5 := heap_lt HE5.out.bk.nd
       clear hO hB5 hC5 hA5 hN5 hvl)
    | fail)
  clear z9 y9 z9b hz5
  generalize (w5.setCell ⟨w.heap.size + 3, 9, none⟩ (.slice (some ⟨ab, ao, none⟩) qn c5)) = w6 at HE6 ⊢
  go_loopw [62] (fun i wr => ∃ j : Nat, j ≤ qn ∧ i = .int .i64 j ∧ Hid (EK n w #[.slice sa rn sc, .slice ta rn tc, .slice ba rn bc, .bool ins, .bool fol] #[.int .i64 4, .string op, .int .i64 lk, .int .i64 ln, .float .f64 lf, .string ls, .string tn, .string nm, .bool ng, .slice xa q xc] #[.int .i64 4, .string ⟨#[]⟩, .int .i64 0, .int .i64 0, .float .f64 0, .string ⟨#[]⟩, .int .i64 0, .bool false, .int .i64 0, .slice (some ⟨ab, ao, none⟩) qn c5] (some ⟨ab, ao, none⟩) vs ps wr) ∧ Hid (TruthsTo ps j)) (fun i _ => qn - (intOf i).toNat)
  case atStart => exact ⟨0, Nat.zero_le _, rfl, HE6, Lib.hid (fun i p h => absurd h (Nat.not_lt_zero _))⟩
  case round =>
    clear HE6 HE5
    obtain ⟨j, hj, rfl, HE, HT⟩ := hrel
    obtain ⟨wo, rfl⟩ : ∃ wo : World, wo = wr := ⟨_, rfl⟩
    by_cases hjq : j < qn
    · have hjn : ((j : Int) < (qn : Int)) = True := eq_true (by omega)
      obtain ⟨y, hy⟩ : ∃ y, ps[j]? = some y := ⟨_, List.getElem?_eq_getElem (by rw [← HQN.out]; exact hjq)⟩
      obtain ⟨⟨pk, pn, pf, pz⟩, pA, pm, pc, hcell⟩ := HE.out.part hy
      have HY := Lib.hid hy
      have t0 : wo.cell? ⟨ab, ao + j * 10, none⟩ = some (.int .i64 y.kind) := hcell 0 _ rfl
      have t1 : wo.cell? ⟨ab, ao + j * 10 + 1, none⟩ = some (.string y.op) := hcell 1 _ rfl
      have t2 : wo.cell? ⟨ab, ao + j * 10 + 2, none⟩ = some (.int .i64 pk) := hcell 2 _ rfl
      have t3 : wo.cell? ⟨ab, ao + j * 10 + 3, none⟩ = some (.int .i64 pn) := hcell 3 _ rfl
      have t4 : wo.cell? ⟨ab, ao + j * 10 + 4, none⟩ = some (.float .f64 pf) := hcell 4 _ rfl
      have t5 : wo.cell? ⟨ab, ao + j * 10 + 5, none⟩ = some (.string pz) := hcell 5 _ rfl
      have t6 : wo.cell? ⟨ab, ao + j * 10 + 6, none⟩ = some (.int .i64 y.pos) := hcell 6 _ rfl
      have t7 : wo.cell? ⟨ab, ao + j * 10 + 7, none⟩ = some (.bool y.neg) := hcell 7 _ rfl
      have t8 : wo.cell? ⟨ab, ao + j * 10 + 8, none⟩ = some (.int .i64 y.ty) := hcell 8 _ rfl
      have t9 : wo.cell? ⟨ab, ao + j * 10 + 9, none⟩ = some (.slice pA pm pc) := hcell 9 _ rfl
      clear hcell hy
      cases hl : likeT y.ty [4] with
      | false =>
        obtain rfl : R = .error 70 := HRN.out j y HY.out hl
        have HLF := Lib.hid (show ∀ (b : Nat) (W : World), W.heap.size = b → Calls Tryz.prog 26 #[.int .i64 y.ty, .slice (some ⟨b, 0, none⟩) 1 1] (W.alloc (.cells #[.int .i64 4] 3)) (RetV (.bool false) (W.alloc (.cells #[.int .i64 4] 3))) from fun b W h => by
          have := HLK.out y.ty b W h
          rwa [hl] at this)
        clear hl
        generalize y.kind = yk at t0
        generalize y.op = yo at t1
        generalize y.pos = yp at t6
        generalize y.neg = yg at t7
        generalize y.ty = yt at t8 HLF
        go_wp2_with (first
          | (go_at_call 26; (with_reducible refine (HLF.out _ _ (by simp)).mono ?_); rintro e w8 ⟨rfl, hB8⟩
             have HE8 := Lib.hid (((HE.out.keep (below1 _ _)).keep (below1 _ _)).keep hB8)
             clear hB8)
          | (go_at_call 24; (with_reducible refine (HCN _).mono ?_); rintro e w' ⟨rfl, rfl⟩)
          | fail)
        exact ⟨rfl, HE8.out.bk.below, rfl⟩
      | true =>
        have HLF := Lib.hid (show ∀ (b : Nat) (W : World), W.heap.size = b → Calls Tryz.prog 26 #[.int .i64 y.ty, .slice (some ⟨b, 0, none⟩) 1 1] (W.alloc (.cells #[.int .i64 4] 3)) (RetV (.bool true) (W.alloc (.cells #[.int .i64 4] 3))) from fun b W h => by
          have := HLK.out y.ty b W h
          rwa [hl] at this)
        have HT2 := Lib.hid (HT.out.more HY.out hl)
        clear hl
        generalize y.kind = yk at t0
        generalize y.op = yo at t1
        generalize y.pos = yp at t6
        generalize y.neg = yg at t7
        generalize y.ty = yt at t8 HLF
        go_wp2_with (first
          | (go_at_call 26; (with_reducible refine (HLF.out _ _ (by simp)).mono ?_); rintro e w8 ⟨rfl, hB8⟩
             have HE8 := Lib.hid (((HE.out.keep (below1 _ _)).keep (below1 _ _)).keep hB8)
             clear hB8)
          | (go_at_call 24; (with_reducible refine (HCY _).mono ?_); rintro e w' ⟨rfl, rfl⟩)
          | fail)
        go_roundw
        case rel => exact ⟨j + 1, by omega, by go_num, HE8, HT2⟩
        case measure => simp [intOf] <;> omega
    · obtain rfl : j = qn := by omega
      have hjn : ((j : Int) < (j : Int)) = False := eq_false (by omega)
      obtain rfl : R = .ok (.mk 4 ⟨#[]⟩ zeroV 0 false 4 ps) := HRY.out (by rw [← HQN.out]; exact HT.out)
      have HE7 := Lib.hid (show EK n w _ _ #[.int .i64 4, .string ⟨#[]⟩, .int .i64 0, .int .i64 0, .float .f64 0, .string ⟨#[]⟩, .int .i64 0, .bool false, .int .i64 4, .slice (some ⟨ab, ao, none⟩) j c5] (some ⟨ab, ao, none⟩) vs ps (wo.setCell ⟨w.heap.size + 3, 8, none⟩ (.int .i64 4)) from HE.out.set 8 _)
      have z8 := cell_of_row _ _ 8 _ _ _ HE.out.bk.nd
      have y8 := frozen_of_row _ _ 8 _ _ HE.out.bk.nd
      have hz8 := heap_lt HE.out.bk.nd
      go_upto_region 43 with (fail)
      clear z8 y8 hz8
      generalize (wo.setCell ⟨w.heap.size + 3, 8, none⟩ (.int .i64 4)) = w8 at HE7 ⊢
      obtain ⟨a0, a1, a2, a3, a4, a5, a6, a7, a8, a9⟩ := row10 HE7.out.bk.nd
      obtain ⟨b0, b1, b2, b3, b4, b5, b6, b7, b8, b9⟩ := row10 HE7.out.bk.ans
      obtain ⟨f0, f1, f2, f3, f4, f5, f6, f7, f8, f9⟩ := free10 HE7.out.bk.ans
      have hlz := heap_lt HE7.out.bk.ans
      go_wp2_with fail
      have HD := Lib.hid (HE7.out.done (p := .mk 4 ⟨#[]⟩ zeroV 0 false 4 ps) c5 (.int .i64 4) (.string ⟨#[]⟩) (.int .i64 0) (.int .i64 0) (.float .f64 0) (.string ⟨#[]⟩) (.int .i64 0) (.bool false) (.int .i64 4) (.slice (some ⟨ab, ao, none⟩) j c5))
      refine bodyPost_ret (v := .agg #[.int .i64 4, .string ⟨#[]⟩, .int .i64 0, .int .i64 0, .float .f64 0, .string ⟨#[]⟩, .int .i64 0, .bool false, .int .i64 4, .slice (some ⟨ab, ao, none⟩) j c5]) (by simp [results, Tryz.results25, go_sem, b0, b1, b2, b3, b4, b5, b6, b7, b8, b9]) rfl ⟨HD.out.1, some ⟨ab, ao, none⟩, c5, vs.length, ?_, HD.out.2⟩
      rw [show clP (Nd.mk 4 ⟨#[]⟩ zeroV 0 false 4 ps).lit = zeroV from clP_zero, HVL.out]
      rfl
set_option maxRecDepth 100000 in
set_option maxHeartbeats 16000000 in
theorem expr_bool4_args (n : Nat) (s : Sc) (ins fol : Bool) (x : Ex) (w : World) (hk : x.kind = 4) (er : Int)
    (HAR : ∀ W, Below w.heap.size w W → Calls Tryz.prog 41 #[scV s ins fol, exV x, .int .i64 1] W (ArgsO n W (.error er))) :
    Calls Tryz.prog 25 #[scV s ins fol, exV x] w (ExprO (n + 1) w (.error er)) := by
  obtain ⟨k, op, ⟨lk, ln, lf, ls⟩, tn, nm, ng, xa, xc, xs⟩ := x
  obtain ⟨sa, sc, ta, tc, ba, bc, rows⟩ := s
  obtain rfl : k = 4 := hk
  unfold scV exV at HAR ⊢
  dsimp only [Ex.kind, Ex.op, Ex.lit, Ex.table, Ex.name, Ex.neg, Ex.A, Ex.c, Ex.args] at HAR ⊢
  generalize xs.length = q at HAR ⊢
  generalize rows.length = rn at HAR ⊢
  have HA := Lib.hid HAR
  have HBK0 := Lib.hid (BK.start w #[.slice sa rn sc, .slice ta rn tc, .slice ba rn bc, .bool ins, .bool fol] #[.int .i64 4, .string op, .int .i64 lk, .int .i64 ln, .float .f64 lf, .string ls, .string tn, .string nm, .bool ng, .slice xa q xc] (ndR 4 0 0))
  clear HAR
  have sf := store_float
  go_enter Tryz.func25, Tryz.ntmps25
  go_wp2_with (first
    | (go_at_call 41; (with_reducible refine (HA.out _ HBK0.out.below).mono ?_); rintro e w5 hO
       obtain ⟨rfl, hB5⟩ := argso_no hO)
    | fail)
  exact ⟨rfl, (HBK0.out.keep hB5).below, rfl⟩
set_option maxRecDepth 100000 in
set_option maxHeartbeats 16000000 in
theorem expr_bool5 (n : Nat) (s : Sc) (ins fol : Bool) (x : Ex) (w : World) (hk : x.kind = 5) (ps : List Nd) (hm : ps.length = 2)
    (HAR : ∀ W, Below w.heap.size w W → Calls Tryz.prog 41 #[scV s ins fol, exV x, .int .i64 2] W (ArgsO n W (.ok ps))) :
    Calls Tryz.prog 25 #[scV s ins fol, exV x] w (ExprO (n + 1) w (if ps.all (fun p => likeT p.ty [4]) then .ok (.mk 5 ⟨#[]⟩ zeroV 0 false 4 ps) else .error 70)) := by
  obtain ⟨k, op, ⟨lk, ln, lf, ls⟩, tn, nm, ng, xa, xc, xs⟩ := x
  obtain ⟨sa, sc, ta, tc, ba, bc, rows⟩ := s
  obtain rfl : k = 5 := hk
  unfold scV exV at HAR ⊢
  dsimp only [Ex.kind, Ex.op, Ex.lit, Ex.table, Ex.name, Ex.neg, Ex.A, Ex.c, Ex.args] at HAR ⊢
  generalize xs.length = q at HAR ⊢
  generalize rows.length = rn at HAR ⊢
  have HA := Lib.hid HAR
  have HBK0 := Lib.hid (BK.start w #[.slice sa rn sc, .slice ta rn tc, .slice ba rn bc, .bool ins, .bool fol] #[.int .i64 5, .string op, .int .i64 lk, .int .i64 ln, .float .f64 lf, .string ls, .string tn, .string nm, .bool ng, .slice xa q xc] (ndR 5 0 0))
  clear HAR
  obtain ⟨R, hR⟩ : ∃ R, R = (if ps.all (fun p => likeT p.ty [4]) then Except.ok (Nd.mk 5 ⟨#[]⟩ zeroV 0 false 4 ps) else Except.error (70 : Int)) := ⟨_, rfl⟩
  rw [← hR]
  have HRY := Lib.hid (show TruthsTo ps ps.length → R = .ok (.mk 5 ⟨#[]⟩ zeroV 0 false 4 ps) from fun h => by rw [hR, if_pos (truths_all h)])
  have HRN := Lib.hid (show ∀ (i : Nat) (p : Nd), ps[i]? = some p → likeT p.ty [4] = false → R = .error 70 from fun (i : Nat) (p : Nd) h1 h2 => by rw [hR, if_neg (truths_not h1 h2)])
  obtain ⟨qn, hqn⟩ : ∃ q, q = ps.length := ⟨_, rfl⟩
  have HQN := Lib.hid hqn
  rw [← hqn] at hm
  have HM := Lib.hid hm
  have hq9 : qn ≤ 2 := by omega
  clear hR hqn hm
  have HLK := Lib.hid (show ∀ (t : Int) (b : Nat) (W : World), W.heap.size = b → Calls Tryz.prog 26 #[.int .i64 t, .slice (some ⟨b, 0, none⟩) 1 1] (W.alloc (.cells #[.int .i64 4] 3)) (RetV (.bool (likeT t [4])) (W.alloc (.cells #[.int .i64 4] 3))) from fun t b W h => like_any t (some ⟨b, 0, none⟩) 1 [4] _ (ints_at W b [4] (by show 1 ≤ 1000; omega) h))
  have HCY := fun w => check_yes 70 w
  have HCN := fun w => check_no 70 w
  have sf := store_float
  go_enter Tryz.func25, Tryz.ntmps25
  go_upto_region 21 with (first
    | (go_at_call 41; (with_reducible refine (HA.out _ HBK0.out.below).mono ?_); rintro e w5 hO
       obtain ⟨A5, c5, vs, rfl, hB5, hC5, hA5, hN5⟩ := argso_ok hO
       have HE5 := Lib.hid (EK.of HBK0.out hB5 hC5 hA5 hN5)
       have hvl : vs.length = qn := hN5.1.trans HQN.out.symm
       obtain ⟨ab, ao, rfl⟩ := HE5.out.addr (by rw [← HQN.out, HM.out]; omega)
       have z9 := cell_of_row _ _ 9 _ _ _ HE5.out.bk.nd
       have y9 := frozen_of_row _ _ 9 _ _ HE5.out.bk.nd
       have HVL := Lib.hid hvl
       rw [hvl]
       have HE6 := Lib.hid (show EK n w _ _ #[.int .i64 5, .string ⟨#[]⟩, .int .i64 0, .int .i64 0, .float .f64 0, .string ⟨#[]⟩, .int .i64 0, .bool false, .int .i64 0, .slice (some ⟨ab, ao, none⟩) qn c5] (some ⟨ab, ao, none⟩) vs ps (w5.setCell ⟨w.heap.size + 3, 9, none⟩ (.slice (some ⟨ab, ao, none⟩) qn c5)) from HE5.out.set 9 _)
       have z9b := cell_of_row _ _ 9 _ _ _ HE6.out.bk.nd
       have hz5 := heap_lt HE5.out.bk.nd
       clear hO hB5 hC5 hA5 hN5 hvl)
    | fail)
  clear z9 y9 z9b hz5
  generalize (w5.setCell ⟨w.heap.size + 3, 9, none⟩ (.slice (some ⟨ab, ao, none⟩) qn c5)) = w6 at HE6 ⊢
  go_loopw [62] (fun i wr => ∃ j : Nat, j ≤ qn ∧ i = .int .i64 j ∧ Hid (EK n w #[.slice sa rn sc, .slice ta rn tc, .slice ba rn bc, .bool ins, .bool fol] #[.int .i64 5, .string op, .int .i64 lk, .int .i64 ln, .float .f64 lf, .string ls, .string tn, .string nm, .bool ng, .slice xa q xc] #[.int .i64 5, .string ⟨#[]⟩, .int .i64 0, .int .i64 0, .float .f64 0, .string ⟨#[]⟩, .int .i64 0, .bool false, .int .i64 0, .slice (some ⟨ab, ao, none⟩) qn c5] (some ⟨ab, ao, none⟩) vs ps wr) ∧ Hid (TruthsTo ps j)) (fun i _ => qn - (intOf i).toNat)
  case atStart => exact ⟨0, Nat.zero_le _, rfl, HE6, Lib.hid (fun i p h => absurd h (Nat.not_lt_zero _))⟩
  case round =>
    clear HE6 HE5
    obtain ⟨j, hj, rfl, HE, HT⟩ := hrel
    obtain ⟨wo, rfl⟩ : ∃ wo : World, wo = wr := ⟨_, rfl⟩
    by_cases hjq : j < qn
    · have hjn : ((j : Int) < (qn : Int)) = True := eq_true (by omega)
      obtain ⟨y, hy⟩ : ∃ y, ps[j]? = some y := ⟨_, List.getElem?_eq_getElem (by rw [← HQN.out]; exact hjq)⟩
      obtain ⟨⟨pk, pn, pf, pz⟩, pA, pm, pc, hcell⟩ := HE.out.part hy
      have HY := Lib.hid hy
      have t0 : wo.cell? ⟨ab, ao + j * 10, none⟩ = some (.int .i64 y.kind) := hcell 0 _ rfl
      have t1 : wo.cell? ⟨ab, ao + j * 10 + 1, none⟩ = some (.string y.op) := hcell 1 _ rfl
      have t2 : wo.cell? ⟨ab, ao + j * 10 + 2, none⟩ = some (.int .i64 pk) := hcell 2 _ rfl
      have t3 : wo.cell? ⟨ab, ao + j * 10 + 3, none⟩ = some (.int .i64 pn) := hcell 3 _ rfl
      have t4 : wo.cell? ⟨ab, ao + j * 10 + 4, none⟩ = some (.float .f64 pf) := hcell 4 _ rfl
      have t5 : wo.cell? ⟨ab, ao + j * 10 + 5, none⟩ = some (.string pz) := hcell 5 _ rfl
      have t6 : wo.cell? ⟨ab, ao + j * 10 + 6, none⟩ = some (.int .i64 y.pos) := hcell 6 _ rfl
      have t7 : wo.cell? ⟨ab, ao + j * 10 + 7, none⟩ = some (.bool y.neg) := hcell 7 _ rfl
      have t8 : wo.cell? ⟨ab, ao + j * 10 + 8, none⟩ = some (.int .i64 y.ty) := hcell 8 _ rfl
      have t9 : wo.cell? ⟨ab, ao + j * 10 + 9, none⟩ = some (.slice pA pm pc) := hcell 9 _ rfl
      clear hcell hy
      cases hl : likeT y.ty [4] with
      | false =>
        obtain rfl : R = .error 70 := HRN.out j y HY.out hl
        have HLF := Lib.hid (show ∀ (b : Nat) (W : World), W.heap.size = b → Calls Tryz.prog 26 #[.int .i64 y.ty, .slice (some ⟨b, 0, none⟩) 1 1] (W.alloc (.cells #[.int .i64 4] 3)) (RetV (.bool false) (W.alloc (.cells #[.int .i64 4] 3))) from fun b W h => by
          have := HLK.out y.ty b W h
          rwa [hl] at this)
        clear hl
        generalize y.kind = yk at t0
        generalize y.op = yo at t1
        generalize y.pos = yp at t6
        generalize y.neg = yg at t7
        generalize y.ty = yt at t8 HLF
        go_wp2_with (first
          | (go_at_call 26; (with_reducible refine (HLF.out _ _ (by simp)).mono ?_); rintro e w8 ⟨rfl, hB8⟩
             have HE8 := Lib.hid (((HE.out.keep (below1 _ _)).keep (below1 _ _)).keep hB8)
             clear hB8)
          | (go_at_call 24; (with_reducible refine (HCN _).mono ?_); rintro e w' ⟨rfl, rfl⟩)
          | fail)
        exact ⟨rfl, HE8.out.bk.below, rfl⟩
      | true =>
        have HLF := Lib.hid (show ∀ (b : Nat) (W : World), W.heap.size = b → Calls Tryz.prog 26 #[.int .i64 y.ty, .slice (some ⟨b, 0, none⟩) 1 1] (W.alloc (.cells #[.int .i64 4] 3)) (RetV (.bool true) (W.alloc (.cells #[.int .i64 4] 3))) from fun b W h => by
          have := HLK.out y.ty b W h
          rwa [hl] at this)
        have HT2 := Lib.hid (HT.out.more HY.out hl)
        clear hl
        generalize y.kind = yk at t0
        generalize y.op = yo at t1
        generalize y.pos = yp at t6
        generalize y.neg = yg at t7
        generalize y.ty = yt at t8 HLF
        go_wp2_with (first
          | (go_at_call 26; (with_reducible refine (HLF.out _ _ (by simp)).mono ?_); rintro e w8 ⟨rfl, hB8⟩
             have HE8 := Lib.hid (((HE.out.keep (below1 _ _)).keep (below1 _ _)).keep hB8)
             clear hB8)
          | (go_at_call 24; (with_reducible refine (HCY _).mono ?_); rintro e w' ⟨rfl, rfl⟩)
          | fail)
        go_roundw
        case rel => exact ⟨j + 1, by omega, by go_num, HE8, HT2⟩
        case measure => simp [intOf] <;> omega
    · obtain rfl : j = qn := by omega
      have hjn : ((j : Int) < (j : Int)) = False := eq_false (by omega)
      obtain rfl : R = .ok (.mk 5 ⟨#[]⟩ zeroV 0 false 4 ps) := HRY.out (by rw [← HQN.out]; exact HT.out)
      have HE7 := Lib.hid (show EK n w _ _ #[.int .i64 5, .string ⟨#[]⟩, .int .i64 0, .int .i64 0, .float .f64 0, .string ⟨#[]⟩, .int .i64 0, .bool false, .int .i64 4, .slice (some ⟨ab, ao, none⟩) j c5] (some ⟨ab, ao, none⟩) vs ps (wo.setCell ⟨w.heap.size + 3, 8, none⟩ (.int .i64 4)) from HE.out.set 8 _)
      have z8 := cell_of_row _ _ 8 _ _ _ HE.out.bk.nd
      have y8 := frozen_of_row _ _ 8 _ _ HE.out.bk.nd
      have hz8 := heap_lt HE.out.bk.nd
      go_upto_region 43 with (fail)
      clear z8 y8 hz8
      generalize (wo.setCell ⟨w.heap.size + 3, 8, none⟩ (.int .i64 4)) = w8 at HE7 ⊢
      obtain ⟨a0, a1, a2, a3, a4, a5, a6, a7, a8, a9⟩ := row10 HE7.out.bk.nd
      obtain ⟨b0, b1, b2, b3, b4, b5, b6, b7, b8, b9⟩ := row10 HE7.out.bk.ans
      obtain ⟨f0, f1, f2, f3, f4, f5, f6, f7, f8, f9⟩ := free10 HE7.out.bk.ans
      have hlz := heap_lt HE7.out.bk.ans
      go_wp2_with fail
      have HD := Lib.hid (HE7.out.done (p := .mk 5 ⟨#[]⟩ zeroV 0 false 4 ps) c5 (.int .i64 5) (.string ⟨#[]⟩) (.int .i64 0) (.int .i64 0) (.float .f64 0) (.string ⟨#[]⟩) (.int .i64 0) (.bool false) (.int .i64 4) (.slice (some ⟨ab, ao, none⟩) j c5))
      refine bodyPost_ret (v := .agg #[.int .i64 5, .string ⟨#[]⟩, .int .i64 0, .int .i64 0, .float .f64 0, .string ⟨#[]⟩, .int .i64 0, .bool false, .int .i64 4, .slice (some ⟨ab, ao, none⟩) j c5]) (by simp [results, Tryz.results25, go_sem, b0, b1, b2, b3, b4, b5, b6, b7, b8, b9]) rfl ⟨HD.out.1, some ⟨ab, ao, none⟩, c5, vs.length, ?_, HD.out.2⟩
      rw [show clP (Nd.mk 5 ⟨#[]⟩ zeroV 0 false 4 ps).lit = zeroV from clP_zero, HVL.out]
      rfl
set_option maxRecDepth 100000 in
set_option maxHeartbeats 16000000 in
theorem expr_bool5_args (n : Nat) (s : Sc) (ins fol : Bool) (x : Ex) (w : World) (hk : x.kind = 5) (er : Int)
    (HAR : ∀ W, Below w.heap.size w W → Calls Tryz.prog 41 #[scV s ins fol, exV x, .int .i64 2] W (ArgsO n W (.error er))) :
    Calls Tryz.prog 25 #[scV s ins fol, exV x] w (ExprO (n + 1) w (.error er)) := by
  obtain ⟨k, op, ⟨lk, ln, lf, ls⟩, tn, nm, ng, xa, xc, xs⟩ := x
  obtain ⟨sa, sc, ta, tc, ba, bc, rows⟩ := s
  obtain rfl : k = 5 := hk
  unfold scV exV at HAR ⊢
  dsimp only [Ex.kind, Ex.op, Ex.lit, Ex.table, Ex.name, Ex.neg, Ex.A, Ex.c, Ex.args] at HAR ⊢
  generalize xs.length = q at HAR ⊢
  generalize rows.length = rn at HAR ⊢
  have HA := Lib.hid HAR
  have HBK0 := Lib.hid (BK.start w #[.slice sa rn sc, .slice ta rn tc, .slice ba rn bc, .bool ins, .bool fol] #[.int .i64 5, .string op, .int .i64 lk, .int .i64 ln, .float .f64 lf, .string ls, .string tn, .string nm, .bool ng, .slice xa q xc] (ndR 5 0 0))
  clear HAR
  have sf := store_float
  go_enter Tryz.func25, Tryz.ntmps25
  go_wp2_with (first
    | (go_at_call 41; (with_reducible refine (HA.out _ HBK0.out.below).mono ?_); rintro e w5 hO
       obtain ⟨rfl, hB5⟩ := argso_no hO)
    | fail)
  exact ⟨rfl, (HBK0.out.keep hB5).below, rfl⟩
set_option maxRecDepth 100000 in
set_option maxHeartbeats 16000000 in
theorem expr_bool6 (n : Nat) (s : Sc) (ins fol : Bool) (x : Ex) (w : World) (hk : x.kind = 6) (ps : List Nd) (hm : ps.length = 2)
    (HAR : ∀ W, Below w.heap.size w W → Calls Tryz.prog 41 #[scV s ins fol, exV x, .int .i64 2] W (ArgsO n W (.ok ps))) :
    Calls Tryz.prog 25 #[scV s ins fol, exV x] w (ExprO (n + 1) w (if ps.all (fun p => likeT p.ty [4]) then .ok (.mk 6 ⟨#[]⟩ zeroV 0 false 4 ps) else .error 70)) := by
  obtain ⟨k, op, ⟨lk, ln, lf, ls⟩, tn, nm, ng, xa, xc, xs⟩ := x
  obtain ⟨sa, sc, ta, tc, ba, bc, rows⟩ := s
  obtain rfl : k = 6 := hk
  unfold scV exV at HAR ⊢
  dsimp only [Ex.kind, Ex.op, Ex.lit, Ex.table, Ex.name, Ex.neg, Ex.A, Ex.c, Ex.args] at HAR ⊢
  generalize xs.length = q at HAR ⊢
  generalize rows.length = rn at HAR ⊢
  have HA := Lib.hid HAR
  have HBK0 := Lib.hid (BK.start w #[.slice sa rn sc, .slice ta rn tc, .slice ba rn bc, .bool ins, .bool fol] #[.int .i64 6, .string op, .int .i64 lk, .int .i64 ln, .float .f64 lf, .string ls, .string tn, .string nm, .bool ng, .slice xa q xc] (ndR 6 0 0))
  clear HAR
  obtain ⟨R, hR⟩ : ∃ R, R = (if ps.all (fun p => likeT p.ty [4]) then Except.ok (Nd.mk 6 ⟨#[]⟩ zeroV 0 false 4 ps) else Except.error (70 : Int)) := ⟨_, rfl⟩
  rw [← hR]
  have HRY := Lib.hid (show TruthsTo ps ps.length → R = .ok (.mk 6 ⟨#[]⟩ zeroV 0 false 4 ps) from fun h => by rw [hR, if_pos (truths_all h)])
  have HRN := Lib.hid (show ∀ (i : Nat) (p : Nd), ps[i]? = some p → likeT p.ty [4] = false → R = .error 70 from fun (i : Nat) (p : Nd) h1 h2 => by rw [hR, if_neg (truths_not h1 h2)])
  obtain ⟨qn, hqn⟩ : ∃ q, q = ps.length := ⟨_, rfl⟩
  have HQN := Lib.hid hqn
  rw [← hqn] at hm
  have HM := Lib.hid hm
  have hq9 : qn ≤ 2 := by omega
  clear hR hqn hm
  have HLK := Lib.hid (show ∀ (t : Int) (b : Nat) (W : World), W.heap.size = b → Calls Tryz.prog 26 #[.int .i64 t, .slice (some ⟨b, 0, none⟩) 1 1] (W.alloc (.cells #[.int .i64 4] 3)) (RetV (.bool (likeT t [4])) (W.alloc (.cells #[.int .i64 4] 3))) from fun t b W h => like_any t (some ⟨b, 0, none⟩) 1 [4] _ (ints_at W b [4] (by show 1 ≤ 1000; omega) h))
  have HCY := fun w => check_yes 70 w
  have HCN := fun w => check_no 70 w
  have sf := store_float
  go_enter Tryz.func25, Tryz.ntmps25
  go_upto_region 21 with (first
    | (go_at_call 41; (with_reducible refine (HA.out _ HBK0.out.below).mono ?_); rintro e w5 hO
       obtain ⟨A5, c5, vs, rfl, hB5, hC5, hA5, hN5⟩ := argso_ok hO
       have HE5 := Lib.hid (EK.of HBK0.out hB5 hC5 hA5 hN5)
       have hvl : vs.length = qn := hN5.1.trans HQN.out.symm
       obtain ⟨ab, ao, rfl⟩ := HE5.out.addr (by rw [← HQN.out, HM.out]; omega)
       have z9 := cell_of_row _ _ 9 _ _ _ HE5.out.bk.nd
       have y9 := frozen_of_row _ _ 9 _ _ HE5.out.bk.nd
       have HVL := Lib.hid hvl
       rw [hvl]
       have HE6 := Lib.hid (show EK n w _ _ #[.int .i64 6, .string ⟨#[]⟩, .int .i64 0, .int .i64 0, .float .f64 0, .string ⟨#[]⟩, .int .i64 0, .bool false, .int .i64 0, .slice (some ⟨ab, ao, none⟩) qn c5] (some ⟨ab, ao, none⟩) vs ps (w5.setCell ⟨w.heap.size + 3, 9, none⟩ (.slice (some ⟨ab, ao, none⟩) qn c5)) from HE5.out.set 9 _)
       have z9b := cell_of_row _ _ 9 _ _ _ HE6.out.bk.nd
       have hz5 := heap_lt HE5.out.bk.nd
       clear hO hB5 hC5 hA5 hN5 hvl)
    | fail)
  clear z9 y9 z9b hz5
  generalize (w5.setCell ⟨w.heap.size + 3, 9, none⟩ (.slice (some ⟨ab, ao, none⟩) qn c5)) = w6 at HE6 ⊢
  go_loopw [62] (fun i wr => ∃ j : Nat, j ≤ qn ∧ i = .int .i64 j ∧ Hid (EK n w #[.slice sa rn sc, .slice ta rn tc, .slice ba rn bc, .bool ins, .bool fol] #[.int .i64 6, .string op, .int .i64 lk, .int .i64 ln, .float .f64 lf, .string ls, .string tn, .string nm, .bool ng, .slice xa q xc] #[.int .i64 6, .string ⟨#[]⟩, .int .i64 0, .int .i64 0, .float .f64 0, .string ⟨#[]⟩, .int .i64 0, .bool false, .int .i64 0, .slice (some ⟨ab, ao, none⟩) qn c5] (some ⟨ab, ao, none⟩) vs ps wr) ∧ Hid (TruthsTo ps j)) (fun i _ => qn - (intOf i).toNat)
  case atStart => exact ⟨0, Nat.zero_le _, rfl, HE6, Lib.hid (fun i p h => absurd h (Nat.not_lt_zero _))⟩
  case round =>
    clear HE6 HE5
    obtain ⟨j, hj, rfl, HE, HT⟩ := hrel
    obtain ⟨wo, rfl⟩ : ∃ wo : World, wo = wr := ⟨_, rfl⟩
    by_cases hjq : j < qn
    · have hjn : ((j : Int) < (qn : Int)) = True := eq_true (by omega)
      obtain ⟨y, hy⟩ : ∃ y, ps[j]? = some y := ⟨_, List.getElem?_eq_getElem (by rw [← HQN.out]; exact hjq)⟩
      obtain ⟨⟨pk, pn, pf, pz⟩, pA, pm, pc, hcell⟩ := HE.out.part hy
      have HY := Lib.hid hy
      have t0 : wo.cell? ⟨ab, ao + j * 10, none⟩ = some (.int .i64 y.kind) := hcell 0 _ rfl
      have t1 : wo.cell? ⟨ab, ao + j * 10 + 1, none⟩ = some (.string y.op) := hcell 1 _ rfl
      have t2 : wo.cell? ⟨ab, ao + j * 10 + 2, none⟩ = some (.int .i64 pk) := hcell 2 _ rfl
      have t3 : wo.cell? ⟨ab, ao + j * 10 + 3, none⟩ = some (.int .i64 pn) := hcell 3 _ rfl
      have t4 : wo.cell? ⟨ab, ao + j * 10 + 4, none⟩ = some (.float .f64 pf) := hcell 4 _ rfl
      have t5 : wo.cell? ⟨ab, ao + j * 10 + 5, none⟩ = some (.string pz) := hcell 5 _ rfl
      have t6 : wo.cell? ⟨ab, ao + j * 10 + 6, none⟩ = some (.int .i64 y.pos) := hcell 6 _ rfl
      have t7 : wo.cell? ⟨ab, ao + j * 10 + 7, none⟩ = some (.bool y.neg) := hcell 7 _ rfl
      have t8 : wo.cell? ⟨ab, ao + j * 10 + 8, none⟩ = some (.int .i64 y.ty) := hcell 8 _ rfl
      have t9 : wo.cell? ⟨ab, ao + j * 10 + 9, none⟩ = some (.slice pA pm pc) := hcell 9 _ rfl
      clear hcell hy
      cases hl : likeT y.ty [4] with
      | false =>
        obtain rfl : R = .error 70 := HRN.out j y HY.out hl
        have HLF := Lib.hid (show ∀ (b : Nat) (W : World), W.heap.size = b → Calls Tryz.prog 26 #[.int .i64 y.ty, .slice (some ⟨b, 0, none⟩) 1 1] (W.alloc (.cells #[.int .i64 4] 3)) (RetV (.bool false) (W.alloc (.cells #[.int .i64 4] 3))) from fun b W h => by
          have := HLK.out y.ty b W h
          rwa [hl] at this)
        clear hl
        generalize y.kind = yk at t0
        generalize y.op = yo at t1
        generalize y.pos = yp at t6
        generalize y.neg = yg at t7
        generalize y.ty = yt at t8 HLF
        go_wp2_with (first
          | (go_at_call 26; (with_reducible refine (HLF.out _ _ (by simp)).mono ?_); rintro e w8 ⟨rfl, hB8⟩
             have HE8 := Lib.hid (((HE.out.keep (below1 _ _)).keep (below1 _ _)).keep hB8)
             clear hB8)
          | (go_at_call 24; (with_reducible refine (HCN _).mono ?_); rintro e w' ⟨rfl, rfl⟩)
          | fail)
        exact ⟨rfl, HE8.out.bk.below, rfl⟩
      | true =>
        have HLF := Lib.hid (show ∀ (b : Nat) (W : World), W.heap.size = b → Calls Tryz.prog 26 #[.int .i64 y.ty, .slice (some ⟨b, 0, none⟩) 1 1] (W.alloc (.cells #[.int .i64 4] 3)) (RetV (.bool true) (W.alloc (.cells #[.int .i64 4] 3))) from fun b W h => by
          have := HLK.out y.ty b W h
          rwa [hl] at this)
        have HT2 := Lib.hid (HT.out.more HY.out hl)
        clear hl
        generalize y.kind = yk at t0
        generalize y.op = yo at t1
        generalize y.pos = yp at t6
        generalize y.neg = yg at t7
        generalize y.ty = yt at t8 HLF
        go_wp2_with (first
          | (go_at_call 26; (with_reducible refine (HLF.out _ _ (by simp)).mono ?_); rintro e w8 ⟨rfl, hB8⟩
             have HE8 := Lib.hid (((HE.out.keep (below1 _ _)).keep (below1 _ _)).keep hB8)
             clear hB8)
          | (go_at_call 24; (with_reducible refine (HCY _).mono ?_); rintro e w' ⟨rfl, rfl⟩)
          | fail)
        go_roundw
        case rel => exact ⟨j + 1, by omega, by go_num, HE8, HT2⟩
        case measure => simp [intOf] <;> omega
    · obtain rfl : j = qn := by omega
      have hjn : ((j : Int) < (j : Int)) = False := eq_false (by omega)
      obtain rfl : R = .ok (.mk 6 ⟨#[]⟩ zeroV 0 false 4 ps) := HRY.out (by rw [← HQN.out]; exact HT.out)
      have HE7 := Lib.hid (show EK n w _ _ #[.int .i64 6, .string ⟨#[]⟩, .int .i64 0, .int .i64 0, .float .f64 0, .string ⟨#[]⟩, .int .i64 0, .bool false, .int .i64 4, .slice (some ⟨ab, ao, none⟩) j c5] (some ⟨ab, ao, none⟩) vs ps (wo.setCell ⟨w.heap.size + 3, 8, none⟩ (.int .i64 4)) from HE.out.set 8 _)
      have z8 := cell_of_row _ _ 8 _ _ _ HE.out.bk.nd
      have y8 := frozen_of_row _ _ 8 _ _ HE.out.bk.nd
      have hz8 := heap_lt HE.out.bk.nd
      go_upto_region 43 with (fail)
      clear z8 y8 hz8
      generalize (wo.setCell ⟨w.heap.size + 3, 8, none⟩ (.int .i64 4)) = w8 at HE7 ⊢
      obtain ⟨a0, a1, a2, a3, a4, a5, a6, a7, a8, a9⟩ := row10 HE7.out.bk.nd
      obtain ⟨b0, b1, b2, b3, b4, b5, b6, b7, b8, b9⟩ := row10 HE7.out.bk.ans
      obtain ⟨f0, f1, f2, f3, f4, f5, f6, f7, f8, f9⟩ := free10 HE7.out.bk.ans
      have hlz := heap_lt HE7.out.bk.ans
      go_wp2_with fail
      have HD := Lib.hid (HE7.out.done (p := .mk 6 ⟨#[]⟩ zeroV 0 false 4 ps) c5 (.int .i64 6) (.string ⟨#[]⟩) (.int .i64 0) (.int .i64 0) (.float .f64 0) (.string ⟨#[]⟩) (.int .i64 0) (.bool false) (.int .i64 4) (.slice (some ⟨ab, ao, none⟩) j c5))
      refine bodyPost_ret (v := .agg #[.int .i64 6, .string ⟨#[]⟩, .int .i64 0, .int .i64 0, .float .f64 0, .string ⟨#[]⟩, .int .i64 0, .bool false, .int .i64 4, .slice (some ⟨ab, ao, none⟩) j c5]) (by simp [results, Tryz.results25, go_sem, b0, b1, b2, b3, b4, b5, b6, b7, b8, b9]) rfl ⟨HD.out.1, some ⟨ab, ao, none⟩, c5, vs.length, ?_, HD.out.2⟩
      rw [show clP (Nd.mk 6 ⟨#[]⟩ zeroV 0 false 4 ps).lit = zeroV from clP_zero, HVL.out]
      rfl
set_option maxRecDepth 100000 in
set_option maxHeartbeats 16000000 in
theorem expr_bool6_args (n : Nat) (s : Sc) (ins fol : Bool) (x : Ex) (w : World) (hk : x.kind = 6) (er : Int)
    (HAR : ∀ W, Below w.heap.size w W → Calls Tryz.prog 41 #[scV s ins fol, exV x, .int .i64 2] W (ArgsO n W (.error er))) :
    Calls Tryz.prog 25 #[scV s ins fol, exV x] w (ExprO (n + 1) w (.error er)) := by
  obtain ⟨k, op, ⟨lk, ln, lf, ls⟩, tn, nm, ng, xa, xc, xs⟩ := x
  obtain ⟨sa, sc, ta, tc, ba, bc, rows⟩ := s
  obtain rfl : k = 6 := hk
  unfold scV exV at HAR ⊢
  dsimp only [Ex.kind, Ex.op, Ex.lit, Ex.table, Ex.name, Ex.neg, Ex.A, Ex.c, Ex.args] at HAR ⊢
  generalize xs.length = q at HAR ⊢
  generalize rows.length = rn at HAR ⊢
  have HA := Lib.hid HAR
  have HBK0 := Lib.hid (BK.start w #[.slice sa rn sc, .slice ta rn tc, .slice ba rn bc, .bool ins, .bool fol] #[.int .i64 6, .string op, .int .i64 lk, .int .i64 ln, .float .f64 lf, .string ls, .string tn, .string nm, .bool ng, .slice xa q xc] (ndR 6 0 0))
  clear HAR
  have sf := store_float
  go_enter Tryz.func25, Tryz.ntmps25
  go_wp2_with (first
    | (go_at_call 41; (with_reducible refine (HA.out _ HBK0.out.below).mono ?_); rintro e w5 hO
       obtain ⟨rfl, hB5⟩ := argso_no hO)
    | fail)
  exact ⟨rfl, (HBK0.out.keep hB5).below, rfl⟩
end Go.Proofs.YthdmfaepjemopaaGreatDoor
