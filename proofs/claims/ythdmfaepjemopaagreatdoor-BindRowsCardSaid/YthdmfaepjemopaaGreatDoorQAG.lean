/- The document's parser at the words of one text: an expression of a level with no sign behind it. The document's parser at the words of one text: a level's passing on; no sign of a level. append of one element, of whatever type. -/
import Derived.Test.YthdmfaepjemopaaGreatDoorQAF
import Derived.Maps.AppendAt
import Derived.OwnWalk
namespace Go.Proofs.YthdmfaepjemopaaGreatDoor
open Go.RowKit

set_option maxHeartbeats 32000000 in
theorem expr1 (b o c : Nat) (z : Int) (w : World) (Φ : Ex → Prop) (zz d : Int) (hC : ∀ W, Below w.heap.size w W → Calls Tryz.prog 84 #[pV b o c z, .int .i64 2, .int .i64 d] W (XP Φ b o c zz W)) (hN : ∀ W, Below w.heap.size w W → Calls Tryz.prog 97 #[pV b o c zz, .int .i64 1] W (RetV (.string ⟨#[]⟩) W)) : Calls Tryz.prog 84 #[pV b o c z, .int .i64 1, .int .i64 d] w (XP Φ b o c zz w) := by
  have HC := Lib.hid hC
  have HN := Lib.hid hN
  clear hC hN
  have sf := store_float
  go_enter Tryz.func84, Tryz.ntmps84
  go_wp2_with (first
    | (go_at_call 84; (with_reducible refine Calls.mono (HC.out _ (BX.three w _ _ _).below) ?_); rintro e w2 ⟨x, rfl, hB2, hx, hP⟩
       have HB2 := Lib.hid ((BX.three w _ _ _).keep hB2)
       have HX := Lib.hid (hx.mono (m := w.heap.size + 3) (by simp only [World.size_alloc]; omega))
       have HP := Lib.hid hP
       obtain ⟨la, ra0, ra1, ra2, ra3, fa0, fa1, fa2, fa3⟩ := HB2.out.p4 0 rfl
       simp only [Nat.add_zero] at la ra0 ra1 ra2 ra3 fa0 fa1 fa2 fa3
       clear hB2 hx hP)
    | (go_at_call 97; (with_reducible refine Calls.mono (HN.out _ ?hbw) ?_); (case hbw => exact ((HB2.out.setP (k := 0) rfl b o c zz).alloc (.cells (exL x).toArray 41)).below); rintro e w4 ⟨rfl, hB4⟩
       have HB4 := Lib.hid (((HB2.out.setP (k := 0) rfl b o c zz).alloc (.cells (exL x).toArray 41)).keep hB4)
       have HF4 := Lib.hid ((((Far.refl (w.heap.size + 3) w2).set4 (b := w.heap.size) (by omega) (.slice (some ⟨b, o, none⟩) 15 c) (.int .i64 zz) (.int .i64 0) (.int .i64 0)).alloc (.cells (exL x).toArray 41)).keep hB4)
       have K8 := heap_alloc_new ((((w2.setCell ⟨w.heap.size, 0, none⟩ (.slice (some ⟨b, o, none⟩) 15 c)).setCell ⟨w.heap.size, 1, none⟩ (.int .i64 zz)).setCell ⟨w.heap.size, 2, none⟩ (.int .i64 0)).setCell ⟨w.heap.size, 3, none⟩ (.int .i64 0)) (.cells (exL x).toArray 41)
       simp only [World.size_setCell] at K8
       have k8 := (hB4.block w2.heap.size (by simp)).trans K8
       have hz2 := HB2.out.size 2 (Nat.lt_succ_self 2)
       clear hB4 K8 la ra0 ra1 ra2 ra3 fa0 fa1 fa2 fa3
       obtain ⟨t0, t1, t2, t3, t4, t5, t6, t7, t8, t9⟩ := row10 (show w4.heap[w2.heap.size]? = some (.cells #[.int .i64 x.kind, .string x.op, .int .i64 x.lit.k, .int .i64 x.lit.n, .float .f64 x.lit.f, .string x.lit.s, .string x.table, .string x.name, .bool x.neg, .slice x.A x.args.length x.c] 41) from k8)
       have hz8 := heap_lt k8
       clear k8
       obtain ⟨la, ra0, ra1, ra2, ra3, fa0, fa1, fa2, fa3⟩ := HB4.out.p4 0 rfl
       simp only [Nat.add_zero] at la ra0 ra1 ra2 ra3 fa0 fa1 fa2 fa3
       obtain ⟨lb, rb0, rb1, rb2, rb3, fb0, fb1, fb2, fb3⟩ := HB4.out.p4 1 rfl
       obtain ⟨lc, rc0, rc1, rc2, rc3, rc4, rc5, rc6, rc7, rc8, rc9, fc0, fc1, fc2, fc3, fc4, fc5, fc6, fc7, fc8, fc9⟩ := HB4.out.e10 2 rfl
       simp only [plus2] at lc rc0 rc1 rc2 rc3 rc4 rc5 rc6 rc7 rc8 rc9 fc0 fc1 fc2 fc3 fc4 fc5 fc6 fc7 fc8 fc9
)
    | fail)
  go_loop [9] (fun i => i = .string ⟨#[]⟩) (fun _ => 0)
  case atStart => rfl
  case round =>
    obtain rfl := hrel
    go_wp2_with fail
    go_region
    all_goals (
      rename_i K hK _
      have HF := ((HB4.out.setP (k := 1) rfl b o c zz).setX (k := 2) rfl x).drew
      have hXF := HX.out.far (HF4.out.step ((((Far.refl (w.heap.size + 3) w4).set4 (b := w.heap.size + 1) (by omega) (.slice (some ⟨b, o, none⟩) 15 c) (.int .i64 zz) (.int .i64 0) (.int .i64 0)).set10 (b := w.heap.size + 2) (by omega) (.int .i64 x.kind) (.string x.op) (.int .i64 x.lit.k) (.int .i64 x.lit.n) (.float .f64 x.lit.f) (.string x.lit.s) (.string x.table) (.string x.name) (.bool x.neg) (.slice x.A x.args.length x.c)).drew))
      exact hK _ _ (wp_ret (bodyPost_ret (res_pe (fn := Tryz.f84) rfl rfl rfl (HF.row 1 _ _ rfl) (HF.row 2 _ _ rfl)) rfl ⟨x, rfl, HF.below, hXF.mono (by omega), HP.out⟩)))

set_option maxHeartbeats 32000000 in
theorem expr2 (b o c : Nat) (z : Int) (w : World) (Φ : Ex → Prop) (zz d : Int) (hC : ∀ W, Below w.heap.size w W → Calls Tryz.prog 84 #[pV b o c z, .int .i64 3, .int .i64 d] W (XP Φ b o c zz W)) (hN : ∀ W, Below w.heap.size w W → Calls Tryz.prog 97 #[pV b o c zz, .int .i64 2] W (RetV (.string ⟨#[]⟩) W)) : Calls Tryz.prog 84 #[pV b o c z, .int .i64 2, .int .i64 d] w (XP Φ b o c zz w) := by
  have HC := Lib.hid hC
  have HN := Lib.hid hN
  clear hC hN
  have sf := store_float
  go_enter Tryz.func84, Tryz.ntmps84
  go_wp2_with (first
    | (go_at_call 84; (with_reducible refine Calls.mono (HC.out _ (BX.three w _ _ _).below) ?_); rintro e w2 ⟨x, rfl, hB2, hx, hP⟩
       have HB2 := Lib.hid ((BX.three w _ _ _).keep hB2)
       have HX := Lib.hid (hx.mono (m := w.heap.size + 3) (by simp only [World.size_alloc]; omega))
       have HP := Lib.hid hP
       obtain ⟨la, ra0, ra1, ra2, ra3, fa0, fa1, fa2, fa3⟩ := HB2.out.p4 0 rfl
       simp only [Nat.add_zero] at la ra0 ra1 ra2 ra3 fa0 fa1 fa2 fa3
       clear hB2 hx hP)
    | (go_at_call 97; (with_reducible refine Calls.mono (HN.out _ ?hbw) ?_); (case hbw => exact ((HB2.out.setP (k := 0) rfl b o c zz).alloc (.cells (exL x).toArray 41)).below); rintro e w4 ⟨rfl, hB4⟩
       have HB4 := Lib.hid (((HB2.out.setP (k := 0) rfl b o c zz).alloc (.cells (exL x).toArray 41)).keep hB4)
       have HF4 := Lib.hid ((((Far.refl (w.heap.size + 3) w2).set4 (b := w.heap.size) (by omega) (.slice (some ⟨b, o, none⟩) 15 c) (.int .i64 zz) (.int .i64 0) (.int .i64 0)).alloc (.cells (exL x).toArray 41)).keep hB4)
       have K8 := heap_alloc_new ((((w2.setCell ⟨w.heap.size, 0, none⟩ (.slice (some ⟨b, o, none⟩) 15 c)).setCell ⟨w.heap.size, 1, none⟩ (.int .i64 zz)).setCell ⟨w.heap.size, 2, none⟩ (.int .i64 0)).setCell ⟨w.heap.size, 3, none⟩ (.int .i64 0)) (.cells (exL x).toArray 41)
       simp only [World.size_setCell] at K8
       have k8 := (hB4.block w2.heap.size (by simp)).trans K8
       have hz2 := HB2.out.size 2 (Nat.lt_succ_self 2)
       clear hB4 K8 la ra0 ra1 ra2 ra3 fa0 fa1 fa2 fa3
       obtain ⟨t0, t1, t2, t3, t4, t5, t6, t7, t8, t9⟩ := row10 (show w4.heap[w2.heap.size]? = some (.cells #[.int .i64 x.kind, .string x.op, .int .i64 x.lit.k, .int .i64 x.lit.n, .float .f64 x.lit.f, .string x.lit.s, .string x.table, .string x.name, .bool x.neg, .slice x.A x.args.length x.c] 41) from k8)
       have hz8 := heap_lt k8
       clear k8
       obtain ⟨la, ra0, ra1, ra2, ra3, fa0, fa1, fa2, fa3⟩ := HB4.out.p4 0 rfl
       simp only [Nat.add_zero] at la ra0 ra1 ra2 ra3 fa0 fa1 fa2 fa3
       obtain ⟨lb, rb0, rb1, rb2, rb3, fb0, fb1, fb2, fb3⟩ := HB4.out.p4 1 rfl
       obtain ⟨lc, rc0, rc1, rc2, rc3, rc4, rc5, rc6, rc7, rc8, rc9, fc0, fc1, fc2, fc3, fc4, fc5, fc6, fc7, fc8, fc9⟩ := HB4.out.e10 2 rfl
       simp only [plus2] at lc rc0 rc1 rc2 rc3 rc4 rc5 rc6 rc7 rc8 rc9 fc0 fc1 fc2 fc3 fc4 fc5 fc6 fc7 fc8 fc9
)
    | fail)
  go_loop [9] (fun i => i = .string ⟨#[]⟩) (fun _ => 0)
  case atStart => rfl
  case round =>
    obtain rfl := hrel
    go_wp2_with fail
    go_region
    all_goals (
      rename_i K hK _
      have HF := ((HB4.out.setP (k := 1) rfl b o c zz).setX (k := 2) rfl x).drew
      have hXF := HX.out.far (HF4.out.step ((((Far.refl (w.heap.size + 3) w4).set4 (b := w.heap.size + 1) (by omega) (.slice (some ⟨b, o, none⟩) 15 c) (.int .i64 zz) (.int .i64 0) (.int .i64 0)).set10 (b := w.heap.size + 2) (by omega) (.int .i64 x.kind) (.string x.op) (.int .i64 x.lit.k) (.int .i64 x.lit.n) (.float .f64 x.lit.f) (.string x.lit.s) (.string x.table) (.string x.name) (.bool x.neg) (.slice x.A x.args.length x.c)).drew))
      exact hK _ _ (wp_ret (bodyPost_ret (res_pe (fn := Tryz.f84) rfl rfl rfl (HF.row 1 _ _ rfl) (HF.row 2 _ _ rfl)) rfl ⟨x, rfl, HF.below, hXF.mono (by omega), HP.out⟩)))

set_option maxHeartbeats 32000000 in
theorem expr5 (b o c : Nat) (z : Int) (w : World) (Φ : Ex → Prop) (zz d : Int) (hC : ∀ W, Below w.heap.size w W → Calls Tryz.prog 84 #[pV b o c z, .int .i64 6, .int .i64 d] W (XP Φ b o c zz W)) (hN : ∀ W, Below w.heap.size w W → Calls Tryz.prog 97 #[pV b o c zz, .int .i64 5] W (RetV (.string ⟨#[]⟩) W)) : Calls Tryz.prog 84 #[pV b o c z, .int .i64 5, .int .i64 d] w (XP Φ b o c zz w) := by
  have HC := Lib.hid hC
  have HN := Lib.hid hN
  clear hC hN
  have sf := store_float
  go_enter Tryz.func84, Tryz.ntmps84
  go_wp2_with (first
    | (go_at_call 84; (with_reducible refine Calls.mono (HC.out _ (BX.three w _ _ _).below) ?_); rintro e w2 ⟨x, rfl, hB2, hx, hP⟩
       have HB2 := Lib.hid ((BX.three w _ _ _).keep hB2)
       have HX := Lib.hid (hx.mono (m := w.heap.size + 3) (by simp only [World.size_alloc]; omega))
       have HP := Lib.hid hP
       obtain ⟨la, ra0, ra1, ra2, ra3, fa0, fa1, fa2, fa3⟩ := HB2.out.p4 0 rfl
       simp only [Nat.add_zero] at la ra0 ra1 ra2 ra3 fa0 fa1 fa2 fa3
       clear hB2 hx hP)
    | (go_at_call 97; (with_reducible refine Calls.mono (HN.out _ ?hbw) ?_); (case hbw => exact ((HB2.out.setP (k := 0) rfl b o c zz).alloc (.cells (exL x).toArray 41)).below); rintro e w4 ⟨rfl, hB4⟩
       have HB4 := Lib.hid (((HB2.out.setP (k := 0) rfl b o c zz).alloc (.cells (exL x).toArray 41)).keep hB4)
       have HF4 := Lib.hid ((((Far.refl (w.heap.size + 3) w2).set4 (b := w.heap.size) (by omega) (.slice (some ⟨b, o, none⟩) 15 c) (.int .i64 zz) (.int .i64 0) (.int .i64 0)).alloc (.cells (exL x).toArray 41)).keep hB4)
       have K8 := heap_alloc_new ((((w2.setCell ⟨w.heap.size, 0, none⟩ (.slice (some ⟨b, o, none⟩) 15 c)).setCell ⟨w.heap.size, 1, none⟩ (.int .i64 zz)).setCell ⟨w.heap.size, 2, none⟩ (.int .i64 0)).setCell ⟨w.heap.size, 3, none⟩ (.int .i64 0)) (.cells (exL x).toArray 41)
       simp only [World.size_setCell] at K8
       have k8 := (hB4.block w2.heap.size (by simp)).trans K8
       have hz2 := HB2.out.size 2 (Nat.lt_succ_self 2)
       clear hB4 K8 la ra0 ra1 ra2 ra3 fa0 fa1 fa2 fa3
       obtain ⟨t0, t1, t2, t3, t4, t5, t6, t7, t8, t9⟩ := row10 (show w4.heap[w2.heap.size]? = some (.cells #[.int .i64 x.kind, .string x.op, .int .i64 x.lit.k, .int .i64 x.lit.n, .float .f64 x.lit.f, .string x.lit.s, .string x.table, .string x.name, .bool x.neg, .slice x.A x.args.length x.c] 41) from k8)
       have hz8 := heap_lt k8
       clear k8
       obtain ⟨la, ra0, ra1, ra2, ra3, fa0, fa1, fa2, fa3⟩ := HB4.out.p4 0 rfl
       simp only [Nat.add_zero] at la ra0 ra1 ra2 ra3 fa0 fa1 fa2 fa3
       obtain ⟨lb, rb0, rb1, rb2, rb3, fb0, fb1, fb2, fb3⟩ := HB4.out.p4 1 rfl
       obtain ⟨lc, rc0, rc1, rc2, rc3, rc4, rc5, rc6, rc7, rc8, rc9, fc0, fc1, fc2, fc3, fc4, fc5, fc6, fc7, fc8, fc9⟩ := HB4.out.e10 2 rfl
       simp only [plus2] at lc rc0 rc1 rc2 rc3 rc4 rc5 rc6 rc7 rc8 rc9 fc0 fc1 fc2 fc3 fc4 fc5 fc6 fc7 fc8 fc9
)
    | fail)
  go_loop [9] (fun i => i = .string ⟨#[]⟩) (fun _ => 0)
  case atStart => rfl
  case round =>
    obtain rfl := hrel
    go_wp2_with fail
    go_region
    all_goals (
      rename_i K hK _
      have HF := ((HB4.out.setP (k := 1) rfl b o c zz).setX (k := 2) rfl x).drew
      have hXF := HX.out.far (HF4.out.step ((((Far.refl (w.heap.size + 3) w4).set4 (b := w.heap.size + 1) (by omega) (.slice (some ⟨b, o, none⟩) 15 c) (.int .i64 zz) (.int .i64 0) (.int .i64 0)).set10 (b := w.heap.size + 2) (by omega) (.int .i64 x.kind) (.string x.op) (.int .i64 x.lit.k) (.int .i64 x.lit.n) (.float .f64 x.lit.f) (.string x.lit.s) (.string x.table) (.string x.name) (.bool x.neg) (.slice x.A x.args.length x.c)).drew))
      exact hK _ _ (wp_ret (bodyPost_ret (res_pe (fn := Tryz.f84) rfl rfl rfl (HF.row 1 _ _ rfl) (HF.row 2 _ _ rfl)) rfl ⟨x, rfl, HF.below, hXF.mono (by omega), HP.out⟩)))

set_option maxHeartbeats 32000000 in
theorem expr6 (b o c : Nat) (z : Int) (w : World) (Φ : Ex → Prop) (zz d : Int) (hC : ∀ W, Below w.heap.size w W → Calls Tryz.prog 84 #[pV b o c z, .int .i64 7, .int .i64 d] W (XP Φ b o c zz W)) (hN : ∀ W, Below w.heap.size w W → Calls Tryz.prog 97 #[pV b o c zz, .int .i64 6] W (RetV (.string ⟨#[]⟩) W)) : Calls Tryz.prog 84 #[pV b o c z, .int .i64 6, .int .i64 d] w (XP Φ b o c zz w) := by
  have HC := Lib.hid hC
  have HN := Lib.hid hN
  clear hC hN
  have sf := store_float
  go_enter Tryz.func84, Tryz.ntmps84
  go_wp2_with (first
    | (go_at_call 84; (with_reducible refine Calls.mono (HC.out _ (BX.three w _ _ _).below) ?_); rintro e w2 ⟨x, rfl, hB2, hx, hP⟩
       have HB2 := Lib.hid ((BX.three w _ _ _).keep hB2)
       have HX := Lib.hid (hx.mono (m := w.heap.size + 3) (by simp only [World.size_alloc]; omega))
       have HP := Lib.hid hP
       obtain ⟨la, ra0, ra1, ra2, ra3, fa0, fa1, fa2, fa3⟩ := HB2.out.p4 0 rfl
       simp only [Nat.add_zero] at la ra0 ra1 ra2 ra3 fa0 fa1 fa2 fa3
       clear hB2 hx hP)
    | (go_at_call 97; (with_reducible refine Calls.mono (HN.out _ ?hbw) ?_); (case hbw => exact ((HB2.out.setP (k := 0) rfl b o c zz).alloc (.cells (exL x).toArray 41)).below); rintro e w4 ⟨rfl, hB4⟩
       have HB4 := Lib.hid (((HB2.out.setP (k := 0) rfl b o c zz).alloc (.cells (exL x).toArray 41)).keep hB4)
       have HF4 := Lib.hid ((((Far.refl (w.heap.size + 3) w2).set4 (b := w.heap.size) (by omega) (.slice (some ⟨b, o, none⟩) 15 c) (.int .i64 zz) (.int .i64 0) (.int .i64 0)).alloc (.cells (exL x).toArray 41)).keep hB4)
       have K8 := heap_alloc_new ((((w2.setCell ⟨w.heap.size, 0, none⟩ (.slice (some ⟨b, o, none⟩) 15 c)).setCell ⟨w.heap.size, 1, none⟩ (.int .i64 zz)).setCell ⟨w.heap.size, 2, none⟩ (.int .i64 0)).setCell ⟨w.heap.size, 3, none⟩ (.int .i64 0)) (.cells (exL x).toArray 41)
       simp only [World.size_setCell] at K8
       have k8 := (hB4.block w2.heap.size (by simp)).trans K8
       have hz2 := HB2.out.size 2 (Nat.lt_succ_self 2)
       clear hB4 K8 la ra0 ra1 ra2 ra3 fa0 fa1 fa2 fa3
       obtain ⟨t0, t1, t2, t3, t4, t5, t6, t7, t8, t9⟩ := row10 (show w4.heap[w2.heap.size]? = some (.cells #[.int .i64 x.kind, .string x.op, .int .i64 x.lit.k, .int .i64 x.lit.n, .float .f64 x.lit.f, .string x.lit.s, .string x.table, .string x.name, .bool x.neg, .slice x.A x.args.length x.c] 41) from k8)
       have hz8 := heap_lt k8
       clear k8
       obtain ⟨la, ra0, ra1, ra2, ra3, fa0, fa1, fa2, fa3⟩ := HB4.out.p4 0 rfl
       simp only [Nat.add_zero] at la ra0 ra1 ra2 ra3 fa0 fa1 fa2 fa3
       obtain ⟨lb, rb0, rb1, rb2, rb3, fb0, fb1, fb2, fb3⟩ := HB4.out.p4 1 rfl
       obtain ⟨lc, rc0, rc1, rc2, rc3, rc4, rc5, rc6, rc7, rc8, rc9, fc0, fc1, fc2, fc3, fc4, fc5, fc6, fc7, fc8, fc9⟩ := HB4.out.e10 2 rfl
       simp only [plus2] at lc rc0 rc1 rc2 rc3 rc4 rc5 rc6 rc7 rc8 rc9 fc0 fc1 fc2 fc3 fc4 fc5 fc6 fc7 fc8 fc9
)
    | fail)
  go_loop [9] (fun i => i = .string ⟨#[]⟩) (fun _ => 0)
  case atStart => rfl
  case round =>
    obtain rfl := hrel
    go_wp2_with fail
    go_region
    all_goals (
      rename_i K hK _
      have HF := ((HB4.out.setP (k := 1) rfl b o c zz).setX (k := 2) rfl x).drew
      have hXF := HX.out.far (HF4.out.step ((((Far.refl (w.heap.size + 3) w4).set4 (b := w.heap.size + 1) (by omega) (.slice (some ⟨b, o, none⟩) 15 c) (.int .i64 zz) (.int .i64 0) (.int .i64 0)).set10 (b := w.heap.size + 2) (by omega) (.int .i64 x.kind) (.string x.op) (.int .i64 x.lit.k) (.int .i64 x.lit.n) (.float .f64 x.lit.f) (.string x.lit.s) (.string x.table) (.string x.name) (.bool x.neg) (.slice x.A x.args.length x.c)).drew))
      exact hK _ _ (wp_ret (bodyPost_ret (res_pe (fn := Tryz.f84) rfl rfl rfl (HF.row 1 _ _ rfl) (HF.row 2 _ _ rfl)) rfl ⟨x, rfl, HF.below, hXF.mono (by omega), HP.out⟩)))

end Go.Proofs.YthdmfaepjemopaaGreatDoor
namespace Go.Proofs.YthdmfaepjemopaaGreatDoor
open Go.RowKit

set_option maxHeartbeats 16000000 in
theorem expr7 (b o c : Nat) (z : Int) (w : World) (Φ : Ex → Prop) (zz d : Int) (hC : ∀ W, Below w.heap.size w W → Calls Tryz.prog 96 #[pV b o c z, .int .i64 d] W (XP Φ b o c zz W)) : Calls Tryz.prog 84 #[pV b o c z, .int .i64 7, .int .i64 d] w (XP Φ b o c zz w) := by
  have HC := Lib.hid hC
  clear hC
  have sf := store_float
  go_enter Tryz.func84, Tryz.ntmps84
  go_wp2_with (first
    | (go_at_call 96; (with_reducible refine Calls.mono (HC.out _ (BX.three w _ _ _).below) ?_); rintro e w2 ⟨x, rfl, hB2, hx, hP⟩
       have HB2 := Lib.hid ((BX.three w _ _ _).keep hB2)
       have HX := Lib.hid hx
       have HP := Lib.hid hP
       obtain ⟨la, ra0, ra1, ra2, ra3, fa0, fa1, fa2, fa3⟩ := HB2.out.p4 1 rfl
       obtain ⟨lb, rb0, rb1, rb2, rb3, rb4, rb5, rb6, rb7, rb8, rb9, fb0, fb1, fb2, fb3, fb4, fb5, fb6, fb7, fb8, fb9⟩ := HB2.out.e10 2 rfl
       simp only [plus2] at lb rb0 rb1 rb2 rb3 rb4 rb5 rb6 rb7 rb8 rb9 fb0 fb1 fb2 fb3 fb4 fb5 fb6 fb7 fb8 fb9
       clear hB2 hx hP)
    | fail)
  have HF := (HB2.out.setP (k := 1) rfl b o c zz).setX (k := 2) rfl x
  have hXF := HX.out.far (((Far.refl _ w2).set4 (b := w.heap.size + 1) (by simp) (.slice (some ⟨b, o, none⟩) 15 c) (.int .i64 zz) (.int .i64 0) (.int .i64 0)).set10 (b := w.heap.size + 2) (by simp) (.int .i64 x.kind) (.string x.op) (.int .i64 x.lit.k) (.int .i64 x.lit.n) (.float .f64 x.lit.f) (.string x.lit.s) (.string x.table) (.string x.name) (.bool x.neg) (.slice x.A x.args.length x.c))
  exact bodyPost_ret (res_pe (fn := Tryz.f84) rfl rfl rfl (HF.row 1 _ _ rfl) (HF.row 2 _ _ rfl)) rfl ⟨x, rfl, HF.below, hXF.mono (by simp only [World.size_alloc]; omega), HP.out⟩

set_option maxHeartbeats 16000000 in
theorem expr3 (b o c : Nat) (z : Int) (w : World) (Φ : Ex → Prop) (zz d : Int) (hC : ∀ W, Below w.heap.size w W → Calls Tryz.prog 95 #[pV b o c z, .int .i64 d] W (XP Φ b o c zz W)) : Calls Tryz.prog 84 #[pV b o c z, .int .i64 3, .int .i64 d] w (XP Φ b o c zz w) := by
  have HC := Lib.hid hC
  clear hC
  have sf := store_float
  go_enter Tryz.func84, Tryz.ntmps84
  go_wp2_with (first
    | (go_at_call 95; (with_reducible refine Calls.mono (HC.out _ (BX.three w _ _ _).below) ?_); rintro e w2 ⟨x, rfl, hB2, hx, hP⟩
       have HB2 := Lib.hid ((BX.three w _ _ _).keep hB2)
       have HX := Lib.hid hx
       have HP := Lib.hid hP
       obtain ⟨la, ra0, ra1, ra2, ra3, fa0, fa1, fa2, fa3⟩ := HB2.out.p4 1 rfl
       obtain ⟨lb, rb0, rb1, rb2, rb3, rb4, rb5, rb6, rb7, rb8, rb9, fb0, fb1, fb2, fb3, fb4, fb5, fb6, fb7, fb8, fb9⟩ := HB2.out.e10 2 rfl
       simp only [plus2] at lb rb0 rb1 rb2 rb3 rb4 rb5 rb6 rb7 rb8 rb9 fb0 fb1 fb2 fb3 fb4 fb5 fb6 fb7 fb8 fb9
       clear hB2 hx hP)
    | fail)
  have HF := (HB2.out.setP (k := 1) rfl b o c zz).setX (k := 2) rfl x
  have hXF := HX.out.far (((Far.refl _ w2).set4 (b := w.heap.size + 1) (by simp) (.slice (some ⟨b, o, none⟩) 15 c) (.int .i64 zz) (.int .i64 0) (.int .i64 0)).set10 (b := w.heap.size + 2) (by simp) (.int .i64 x.kind) (.string x.op) (.int .i64 x.lit.k) (.int .i64 x.lit.n) (.float .f64 x.lit.f) (.string x.lit.s) (.string x.table) (.string x.name) (.bool x.neg) (.slice x.A x.args.length x.c))
  exact bodyPost_ret (res_pe (fn := Tryz.f84) rfl rfl rfl (HF.row 1 _ _ rfl) (HF.row 2 _ _ rfl)) rfl ⟨x, rfl, HF.below, hXF.mono (by simp only [World.size_alloc]; omega), HP.out⟩

set_option maxHeartbeats 16000000 in
theorem binary1 (b o c i : Nat) (z : Int) (hz : z = i) (w : World) (hT : TksAt w b o) (hi : i < 15) (h0 : nx i ⟨#[79, 82]⟩ = false) : Calls Tryz.prog 97 #[pV b o c z, .int .i64 1] w (RetV (.string ⟨#[]⟩) w) := by
  have HN := Lib.hid (fun q (h : nx i q = false) W (hB : Below w.heap.size w W) => show Calls Tryz.prog 53 #[pV b o c z, .string q] W (RetV (.bool false) W) from by have := next_any b o c i z hz q W (hT.keep hB) hi; rwa [h] at this)
  clear hT hz hi
  go_enter Tryz.func97, Tryz.ntmps97
  go_wp2_with fail
  go_loopw [6] (fun i wr => ∃ k : Nat, k ≤ 1 ∧ i = .int .i64 k ∧ Hid (BX w [.cells (pC b o c z) 99, .cells #[.string ⟨#[79, 82]⟩] 9] wr)) (fun i _ => 1 - (intOf i).toNat)
  case atStart => exact ⟨0, Nat.zero_le _, rfl, Lib.hid (BX.two w _ _)⟩
  case round =>
    obtain ⟨k, hk, rfl, HB⟩ := hrel
    obtain ⟨wo, rfl⟩ : ∃ wo : World, wo = wr := ⟨_, rfl⟩
    rcases (show k = 0 ∨ k = 1 by omega) with rfl | rfl
    · have HS := Lib.hid (show ∀ wx, Below wo.heap.size wo wx → wx.cell? ⟨w.heap.size, 0, none⟩ = some (.slice (some ⟨b, o, none⟩) 15 c) ∧ wx.cell? ⟨w.heap.size, 1, none⟩ = some (.int .i64 z) ∧ wx.cell? ⟨w.heap.size, 2, none⟩ = some (.int .i64 0) ∧ wx.cell? ⟨w.heap.size, 3, none⟩ = some (.int .i64 0) ∧ wx.cell? ⟨w.heap.size + 1, 0, none⟩ = some (.string ⟨#[79, 82]⟩) from fun wx hx => by
        obtain ⟨-, a0, a1, a2, a3, -⟩ := (HB.out.keep hx).p4 0 rfl
        exact ⟨a0, a1, a2, a3, cell_of_row _ _ 0 _ _ _ ((HB.out.keep hx).row 1 _ _ rfl)⟩)
      have hW0 : Below wo.heap.size wo wo.drew := (Below.refl _ _).drew
      go_wp2_with fail
      go_region_held3 (fun wx => wx.cell? ⟨w.heap.size, 0, none⟩ = some (.slice (some ⟨b, o, none⟩) 15 c) ∧ wx.cell? ⟨w.heap.size, 1, none⟩ = some (.int .i64 z) ∧ wx.cell? ⟨w.heap.size, 2, none⟩ = some (.int .i64 0) ∧ wx.cell? ⟨w.heap.size, 3, none⟩ = some (.int .i64 0) ∧ wx.cell? ⟨w.heap.size + 1, 0, none⟩ = some (.string ⟨#[79, 82]⟩))
        (first
          | exact HS.out _ hW0
          | (with_reducible assumption)
          | exact HS.out _ hW4
          | fail)
        (first
          | (go_at_call 53; (with_reducible refine Calls.mono (HN.out _ h0 _ ?hbw) ?_); (case hbw => exact (HB.out.keep hW0).below); rintro e w4 ⟨rfl, hB4⟩; have hW4 := hW0.trans (hB4.mono hW0.size))
          | fail)
      all_goals
        have HB4 := Lib.hid (HB.out.keep hW4)
        go_wp2_with fail
        go_roundw
        case rel => exact ⟨1, by omega, by go_num, HB4⟩
        case measure => simp [intOf] <;> omega
    · go_wp2_with fail
      exact bodyPost_ret (v := .string ⟨#[]⟩) (by simp [results, Tryz.results97, go_sem]) rfl ⟨rfl, HB.out.below⟩

set_option maxHeartbeats 16000000 in
theorem binary2 (b o c i : Nat) (z : Int) (hz : z = i) (w : World) (hT : TksAt w b o) (hi : i < 15) (h0 : nx i ⟨#[65, 78, 68]⟩ = false) : Calls Tryz.prog 97 #[pV b o c z, .int .i64 2] w (RetV (.string ⟨#[]⟩) w) := by
  have HN := Lib.hid (fun q (h : nx i q = false) W (hB : Below w.heap.size w W) => show Calls Tryz.prog 53 #[pV b o c z, .string q] W (RetV (.bool false) W) from by have := next_any b o c i z hz q W (hT.keep hB) hi; rwa [h] at this)
  clear hT hz hi
  go_enter Tryz.func97, Tryz.ntmps97
  go_wp2_with fail
  go_loopw [6] (fun i wr => ∃ k : Nat, k ≤ 1 ∧ i = .int .i64 k ∧ Hid (BX w [.cells (pC b o c z) 99, .cells #[.string ⟨#[65, 78, 68]⟩] 9] wr)) (fun i _ => 1 - (intOf i).toNat)
  case atStart => exact ⟨0, Nat.zero_le _, rfl, Lib.hid (BX.two w _ _)⟩
  case round =>
    obtain ⟨k, hk, rfl, HB⟩ := hrel
    obtain ⟨wo, rfl⟩ : ∃ wo : World, wo = wr := ⟨_, rfl⟩
    rcases (show k = 0 ∨ k = 1 by omega) with rfl | rfl
    · have HS := Lib.hid (show ∀ wx, Below wo.heap.size wo wx → wx.cell? ⟨w.heap.size, 0, none⟩ = some (.slice (some ⟨b, o, none⟩) 15 c) ∧ wx.cell? ⟨w.heap.size, 1, none⟩ = some (.int .i64 z) ∧ wx.cell? ⟨w.heap.size, 2, none⟩ = some (.int .i64 0) ∧ wx.cell? ⟨w.heap.size, 3, none⟩ = some (.int .i64 0) ∧ wx.cell? ⟨w.heap.size + 1, 0, none⟩ = some (.string ⟨#[65, 78, 68]⟩) from fun wx hx => by
        obtain ⟨-, a0, a1, a2, a3, -⟩ := (HB.out.keep hx).p4 0 rfl
        exact ⟨a0, a1, a2, a3, cell_of_row _ _ 0 _ _ _ ((HB.out.keep hx).row 1 _ _ rfl)⟩)
      have hW0 : Below wo.heap.size wo wo.drew := (Below.refl _ _).drew
      go_wp2_with fail
      go_region_held3 (fun wx => wx.cell? ⟨w.heap.size, 0, none⟩ = some (.slice (some ⟨b, o, none⟩) 15 c) ∧ wx.cell? ⟨w.heap.size, 1, none⟩ = some (.int .i64 z) ∧ wx.cell? ⟨w.heap.size, 2, none⟩ = some (.int .i64 0) ∧ wx.cell? ⟨w.heap.size, 3, none⟩ = some (.int .i64 0) ∧ wx.cell? ⟨w.heap.size + 1, 0, none⟩ = some (.string ⟨#[65, 78, 68]⟩))
        (first
          | exact HS.out _ hW0
          | (with_reducible assumption)
          | exact HS.out _ hW4
          | fail)
        (first
          | (go_at_call 53; (with_reducible refine Calls.mono (HN.out _ h0 _ ?hbw) ?_); (case hbw => exact (HB.out.keep hW0).below); rintro e w4 ⟨rfl, hB4⟩; have hW4 := hW0.trans (hB4.mono hW0.size))
          | fail)
      all_goals
        have HB4 := Lib.hid (HB.out.keep hW4)
        go_wp2_with fail
        go_roundw
        case rel => exact ⟨1, by omega, by go_num, HB4⟩
        case measure => simp [intOf] <;> omega
    · go_wp2_with fail
      exact bodyPost_ret (v := .string ⟨#[]⟩) (by simp [results, Tryz.results97, go_sem]) rfl ⟨rfl, HB.out.below⟩

set_option maxHeartbeats 16000000 in
theorem binary5 (b o c i : Nat) (z : Int) (hz : z = i) (w : World) (hT : TksAt w b o) (hi : i < 15) (h0 : nx i ⟨#[43]⟩ = false) (h1 : nx i ⟨#[45]⟩ = false) : Calls Tryz.prog 97 #[pV b o c z, .int .i64 5] w (RetV (.string ⟨#[]⟩) w) := by
  have HN := Lib.hid (fun q (h : nx i q = false) W (hB : Below w.heap.size w W) => show Calls Tryz.prog 53 #[pV b o c z, .string q] W (RetV (.bool false) W) from by have := next_any b o c i z hz q W (hT.keep hB) hi; rwa [h] at this)
  clear hT hz hi
  go_enter Tryz.func97, Tryz.ntmps97
  go_wp2_with fail
  go_loopw [6] (fun i wr => ∃ k : Nat, k ≤ 2 ∧ i = .int .i64 k ∧ Hid (BX w [.cells (pC b o c z) 99, .cells #[.string ⟨#[43]⟩, .string ⟨#[45]⟩] 9] wr)) (fun i _ => 2 - (intOf i).toNat)
  case atStart => exact ⟨0, Nat.zero_le _, rfl, Lib.hid (BX.two w _ _)⟩
  case round =>
    obtain ⟨k, hk, rfl, HB⟩ := hrel
    obtain ⟨wo, rfl⟩ : ∃ wo : World, wo = wr := ⟨_, rfl⟩
    rcases (show k = 0 ∨ k = 1 ∨ k = 2 by omega) with rfl | rfl | rfl
    · have HS := Lib.hid (show ∀ wx, Below wo.heap.size wo wx → wx.cell? ⟨w.heap.size, 0, none⟩ = some (.slice (some ⟨b, o, none⟩) 15 c) ∧ wx.cell? ⟨w.heap.size, 1, none⟩ = some (.int .i64 z) ∧ wx.cell? ⟨w.heap.size, 2, none⟩ = some (.int .i64 0) ∧ wx.cell? ⟨w.heap.size, 3, none⟩ = some (.int .i64 0) ∧ wx.cell? ⟨w.heap.size + 1, 0, none⟩ = some (.string ⟨#[43]⟩) from fun wx hx => by
        obtain ⟨-, a0, a1, a2, a3, -⟩ := (HB.out.keep hx).p4 0 rfl
        exact ⟨a0, a1, a2, a3, cell_of_row _ _ 0 _ _ _ ((HB.out.keep hx).row 1 _ _ rfl)⟩)
      have hW0 : Below wo.heap.size wo wo.drew := (Below.refl _ _).drew
      go_wp2_with fail
      go_region_held3 (fun wx => wx.cell? ⟨w.heap.size, 0, none⟩ = some (.slice (some ⟨b, o, none⟩) 15 c) ∧ wx.cell? ⟨w.heap.size, 1, none⟩ = some (.int .i64 z) ∧ wx.cell? ⟨w.heap.size, 2, none⟩ = some (.int .i64 0) ∧ wx.cell? ⟨w.heap.size, 3, none⟩ = some (.int .i64 0) ∧ wx.cell? ⟨w.heap.size + 1, 0, none⟩ = some (.string ⟨#[43]⟩))
        (first
          | exact HS.out _ hW0
          | (with_reducible assumption)
          | exact HS.out _ hW4
          | fail)
        (first
          | (go_at_call 53; (with_reducible refine Calls.mono (HN.out _ h0 _ ?hbw) ?_); (case hbw => exact (HB.out.keep hW0).below); rintro e w4 ⟨rfl, hB4⟩; have hW4 := hW0.trans (hB4.mono hW0.size))
          | fail)
      all_goals
        have HB4 := Lib.hid (HB.out.keep hW4)
        go_wp2_with fail
        go_roundw
        case rel => exact ⟨1, by omega, by go_num, HB4⟩
        case measure => simp [intOf] <;> omega
    · have HS := Lib.hid (show ∀ wx, Below wo.heap.size wo wx → wx.cell? ⟨w.heap.size, 0, none⟩ = some (.slice (some ⟨b, o, none⟩) 15 c) ∧ wx.cell? ⟨w.heap.size, 1, none⟩ = some (.int .i64 z) ∧ wx.cell? ⟨w.heap.size, 2, none⟩ = some (.int .i64 0) ∧ wx.cell? ⟨w.heap.size, 3, none⟩ = some (.int .i64 0) ∧ wx.cell? ⟨w.heap.size + 1, 1, none⟩ = some (.string ⟨#[45]⟩) from fun wx hx => by
        obtain ⟨-, a0, a1, a2, a3, -⟩ := (HB.out.keep hx).p4 0 rfl
        exact ⟨a0, a1, a2, a3, cell_of_row _ _ 1 _ _ _ ((HB.out.keep hx).row 1 _ _ rfl)⟩)
      have hW0 : Below wo.heap.size wo wo.drew := (Below.refl _ _).drew
      go_wp2_with fail
      go_region_held3 (fun wx => wx.cell? ⟨w.heap.size, 0, none⟩ = some (.slice (some ⟨b, o, none⟩) 15 c) ∧ wx.cell? ⟨w.heap.size, 1, none⟩ = some (.int .i64 z) ∧ wx.cell? ⟨w.heap.size, 2, none⟩ = some (.int .i64 0) ∧ wx.cell? ⟨w.heap.size, 3, none⟩ = some (.int .i64 0) ∧ wx.cell? ⟨w.heap.size + 1, 1, none⟩ = some (.string ⟨#[45]⟩))
        (first
          | exact HS.out _ hW0
          | (with_reducible assumption)
          | exact HS.out _ hW4
          | fail)
        (first
          | (go_at_call 53; (with_reducible refine Calls.mono (HN.out _ h1 _ ?hbw) ?_); (case hbw => exact (HB.out.keep hW0).below); rintro e w4 ⟨rfl, hB4⟩; have hW4 := hW0.trans (hB4.mono hW0.size))
          | fail)
      all_goals
        have HB4 := Lib.hid (HB.out.keep hW4)
        go_wp2_with fail
        go_roundw
        case rel => exact ⟨2, by omega, by go_num, HB4⟩
        case measure => simp [intOf] <;> omega
    · go_wp2_with fail
      exact bodyPost_ret (v := .string ⟨#[]⟩) (by simp [results, Tryz.results97, go_sem]) rfl ⟨rfl, HB.out.below⟩

set_option maxHeartbeats 16000000 in
theorem binary6 (b o c i : Nat) (z : Int) (hz : z = i) (w : World) (hT : TksAt w b o) (hi : i < 15) (h0 : nx i ⟨#[42]⟩ = false) : Calls Tryz.prog 97 #[pV b o c z, .int .i64 6] w (RetV (.string ⟨#[]⟩) w) := by
  have HN := Lib.hid (fun q (h : nx i q = false) W (hB : Below w.heap.size w W) => show Calls Tryz.prog 53 #[pV b o c z, .string q] W (RetV (.bool false) W) from by have := next_any b o c i z hz q W (hT.keep hB) hi; rwa [h] at this)
  clear hT hz hi
  go_enter Tryz.func97, Tryz.ntmps97
  go_wp2_with fail
  go_loopw [6] (fun i wr => ∃ k : Nat, k ≤ 1 ∧ i = .int .i64 k ∧ Hid (BX w [.cells (pC b o c z) 99, .cells #[.string ⟨#[42]⟩] 9] wr)) (fun i _ => 1 - (intOf i).toNat)
  case atStart => exact ⟨0, Nat.zero_le _, rfl, Lib.hid (BX.two w _ _)⟩
  case round =>
    obtain ⟨k, hk, rfl, HB⟩ := hrel
    obtain ⟨wo, rfl⟩ : ∃ wo : World, wo = wr := ⟨_, rfl⟩
    rcases (show k = 0 ∨ k = 1 by omega) with rfl | rfl
    · have HS := Lib.hid (show ∀ wx, Below wo.heap.size wo wx → wx.cell? ⟨w.heap.size, 0, none⟩ = some (.slice (some ⟨b, o, none⟩) 15 c) ∧ wx.cell? ⟨w.heap.size, 1, none⟩ = some (.int .i64 z) ∧ wx.cell? ⟨w.heap.size, 2, none⟩ = some (.int .i64 0) ∧ wx.cell? ⟨w.heap.size, 3, none⟩ = some (.int .i64 0) ∧ wx.cell? ⟨w.heap.size + 1, 0, none⟩ = some (.string ⟨#[42]⟩) from fun wx hx => by
        obtain ⟨-, a0, a1, a2, a3, -⟩ := (HB.out.keep hx).p4 0 rfl
        exact ⟨a0, a1, a2, a3, cell_of_row _ _ 0 _ _ _ ((HB.out.keep hx).row 1 _ _ rfl)⟩)
      have hW0 : Below wo.heap.size wo wo.drew := (Below.refl _ _).drew
      go_wp2_with fail
      go_region_held3 (fun wx => wx.cell? ⟨w.heap.size, 0, none⟩ = some (.slice (some ⟨b, o, none⟩) 15 c) ∧ wx.cell? ⟨w.heap.size, 1, none⟩ = some (.int .i64 z) ∧ wx.cell? ⟨w.heap.size, 2, none⟩ = some (.int .i64 0) ∧ wx.cell? ⟨w.heap.size, 3, none⟩ = some (.int .i64 0) ∧ wx.cell? ⟨w.heap.size + 1, 0, none⟩ = some (.string ⟨#[42]⟩))
        (first
          | exact HS.out _ hW0
          | (with_reducible assumption)
          | exact HS.out _ hW4
          | fail)
        (first
          | (go_at_call 53; (with_reducible refine Calls.mono (HN.out _ h0 _ ?hbw) ?_); (case hbw => exact (HB.out.keep hW0).below); rintro e w4 ⟨rfl, hB4⟩; have hW4 := hW0.trans (hB4.mono hW0.size))
          | fail)
      all_goals
        have HB4 := Lib.hid (HB.out.keep hW4)
        go_wp2_with fail
        go_roundw
        case rel => exact ⟨1, by omega, by go_num, HB4⟩
        case measure => simp [intOf] <;> omega
    · go_wp2_with fail
      exact bodyPost_ret (v := .string ⟨#[]⟩) (by simp [results, Tryz.results97, go_sem]) rfl ⟨rfl, HB.out.below⟩

end Go.Proofs.YthdmfaepjemopaaGreatDoor
namespace Go.Proofs.YthdmfaepjemopaaGreatDoor
open Go.RowKit

theorem list_one (T E K B : Nat) (z : Value) (hT : Tryz.prog.underlying T = some (.slice E)) (hI : (Tryz.prog.info? E).map (fun i => (i.zero, i.size, i.bytes)) = some (some z, K, B)) (hzK : z.cells.size = K) (hK0 : 0 < K) (hB : B ≤ 1000)
    (w : World) {ops : Array Oper} {rest : List Oper} {o : Oper} {a : Act} {Q : Exit → Act → World → Prop} (hgd : o.guard = none) (s x : Operand)
    (ho : o.op = .call { callee := .builtin .append, args := #[s, x], argTypes := #[T, T] }) (base : Nat) (v : Value) (n : Nat) (xs : List Value) (hv : a.eval s = v) (hown : w.ownsRow base E K v n xs)
    (b c : Nat) (us : List Value) (hus : us.length = K) (hone : us.all Value.oneCell' = true) (hx : a.eval x = .slice (some ⟨b, 0, none⟩) 1 c) (hq : w.heap[b]? = some (.cells us.toArray E)) (hl : n ≤ 100000) (hbase : base ≤ w.heap.size)
    (h : ∀ v' w', w'.ownsRow base E K v' (n + 1) (xs ++ us) → w.grownBy w' v.ownBlock → (v'.ownBlock = v.ownBlock ∨ v'.ownBlock = some w.heap.size) → wpList Tryz.prog ops Q rest (a.put o.dst v') w') : wpList Tryz.prog ops Q (o :: rest) a w := by
  refine wpList_plain hgd fun R hR => ?_
  obtain ⟨i0, hi0, hz0, hz1, hz2⟩ := info_parts hI
  obtain ⟨v', w', hrun, g2, g3, _, g5⟩ := run_append_own_at (P := Tryz.prog) w base T o.type E i0 z K B hT hi0 hz0 hz1 hz2 hzK hK0 v n xs hown ⟨b, 0, none⟩ 1 c us (by omega)
    (fun j u hj => by
      rw [Addr.add_lit, Nat.zero_add, cell_of_row w b j _ _ _ hq]
      simpa using hj)
    (fun u hu => List.all_eq_true.1 hone u hu) (by unfold maxLen; omega) (Nat.le_trans (Nat.mul_le_mul (show n + 1 ≤ 100001 by omega) hB) (by omega)) hbase
  unfold Oper.wp
  simp only [execOp, ho, resolve, invoke, builtin, Sem.run_bind, Sem.run_pure, Result.andThen_ok, List.map_toArray, List.map_cons, List.map_nil, hv, hx, hrun]
  exact hR _ _ (h v' w' g2 g3 g5)
theorem step_one (T E K B : Nat) (z : Value) (hT : Tryz.prog.underlying T = some (.slice E)) (hI : (Tryz.prog.info? E).map (fun i => (i.zero, i.size, i.bytes)) = some (some z, K, B)) (hzK : z.cells.size = K) (hK0 : 0 < K) (hB : B ≤ 1000)
    (w : World) {ops : Array Oper} {o : Oper} {a : Act} {R : Act → World → Prop} {Q : Exit → Act → World → Prop} {X : Prop} (hgd : o.guard = none) (s x : Operand)
    (ho : o.op = .call { callee := .builtin .append, args := #[s, x], argTypes := #[T, T] }) (base : Nat) (v : Value) (n : Nat) (xs : List Value) (hv : a.eval s = v) (hown : w.ownsRow base E K v n xs)
    (b c : Nat) (us : List Value) (hus : us.length = K) (hone : us.all Value.oneCell' = true) (hx : a.eval x = .slice (some ⟨b, 0, none⟩) 1 c) (hq : w.heap[b]? = some (.cells us.toArray E)) (hl : n ≤ 100000) (hbase : base ≤ w.heap.size)
    (h : ∀ v' w', w'.ownsRow base E K v' (n + 1) (xs ++ us) → w.grownBy w' v.ownBlock → (v'.ownBlock = v.ownBlock ∨ v'.ownBlock = some w.heap.size) → R (a.put o.dst v') w') :
    if Region.wanted o (yielded ops a.tmps) = true then Oper.wp Tryz.prog o a w R Q else X := by
  have hw : Region.wanted o (yielded ops a.tmps) = true := by simp [Region.wanted, hgd]
  rw [if_pos hw]
  obtain ⟨i0, hi0, hz0, hz1, hz2⟩ := info_parts hI
  obtain ⟨v', w', hrun, g2, g3, _, g5⟩ := run_append_own_at (P := Tryz.prog) w base T o.type E i0 z K B hT hi0 hz0 hz1 hz2 hzK hK0 v n xs hown ⟨b, 0, none⟩ 1 c us (by omega)
    (fun j u hj => by
      rw [Addr.add_lit, Nat.zero_add, cell_of_row w b j _ _ _ hq]
      simpa using hj)
    (fun u hu => List.all_eq_true.1 hone u hu) (by unfold maxLen; omega) (Nat.le_trans (Nat.mul_le_mul (show n + 1 ≤ 100001 by omega) hB) (by omega)) hbase
  unfold Oper.wp
  simp only [execOp, ho, resolve, invoke, builtin, Sem.run_bind, Sem.run_pure, Result.andThen_ok, List.map_toArray, List.map_cons, List.map_nil, hv, hx, hrun]
  exact h v' w' g2 g3 g5
def nodeZ : Value := .agg #[.int .i64 0, .string ⟨#[]⟩, .int .i64 0, .int .i64 0, .float .f64 0, .string ⟨#[]⟩, .int .i64 0, .bool false, .int .i64 0, .slice none 0 0]
theorem info54 : (Tryz.prog.info? 54).map (fun i => (i.zero, i.size, i.bytes)) = some (some nodeZ, 10, 112) := by kernel_rfl
theorem own_kept {w w' : World} {base e size n B : Nat} {v : Value} {xs : List Value} (h : w.ownsRow base e size v n xs) (hB : Below B w w') (hw : w.heap.size ≤ B) : w'.ownsRow base e size v n xs := by
  obtain ⟨h1, h2⟩ := h
  refine ⟨h1, h2.imp id fun ⟨g, cap, cur, e1, e2, e3, e4⟩ => ⟨g, cap, cur, e1, e2, ?_, e4⟩⟩
  have hlt : g < w.heap.size := heap_lt e3
  exact (hB.block g (by omega)).trans e3
end Go.Proofs.YthdmfaepjemopaaGreatDoor
