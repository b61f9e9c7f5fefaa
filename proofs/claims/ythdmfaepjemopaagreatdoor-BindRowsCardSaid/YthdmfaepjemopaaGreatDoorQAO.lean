/- The walk of a scope's expr at a comparison. -/
import Derived.Test.YthdmfaepjemopaaGreatDoorQAM
import Derived.Test.YthdmfaepjemopaaGreatDoorQAH
namespace Go.Proofs.YthdmfaepjemopaaGreatDoor
open Go.RowKit

set_option maxRecDepth 100000 in
set_option maxHeartbeats 16000000 in
theorem expr_cmp_op (n : Nat) (s : Sc) (ins fol : Bool) (x : Ex) (w : World) (hk : x.kind = 7) (hop : opOk 7 x.op = false) : Calls Tryz.prog 25 #[scV s ins fol, exV x] w (ExprO n w (.error 7)) := by
  obtain ⟨k, op, ⟨lk, ln, lf, ls⟩, tn, nm, ng, xa, xc, xs⟩ := x
  obtain ⟨sa, sc, ta, tc, ba, bc, rows⟩ := s
  obtain rfl : k = 7 := hk
  unfold scV exV
  dsimp only [Ex.kind, Ex.op, Ex.lit, Ex.table, Ex.name, Ex.neg, Ex.A, Ex.c, Ex.args] at hop ⊢
  generalize xs.length = q
  generalize rows.length = rn
  have HBK0 := Lib.hid (BK.start w #[.slice sa rn sc, .slice ta rn tc, .slice ba rn bc, .bool ins, .bool fol] #[.int .i64 7, .string op, .int .i64 lk, .int .i64 ln, .float .f64 lf, .string ls, .string tn, .string nm, .bool ng, .slice xa q xc] (ndR 7 0 0))
  have HOP := Lib.hid (show ∀ (b : Nat) (W : World), W.heap.size = b → Calls Tryz.prog 34 #[.slice (some ⟨b, 0, none⟩) 6 6, .string op] (W.alloc (.cells #[.string ⟨#[61]⟩, .string ⟨#[60, 62]⟩, .string ⟨#[60]⟩, .string ⟨#[60, 61]⟩, .string ⟨#[62]⟩, .string ⟨#[62, 61]⟩] 9)) (RetV (.bool false) (W.alloc (.cells #[.string ⟨#[61]⟩, .string ⟨#[60, 62]⟩, .string ⟨#[60]⟩, .string ⟨#[60, 61]⟩, .string ⟨#[62]⟩, .string ⟨#[62, 61]⟩] 9))) from fun b W h => by
    have := has_strs (some ⟨b, 0, none⟩) 6 cmpOps op _ (strs_at W b cmpOps (by show 6 ≤ 1000; omega) h)
    rwa [show cmpOps.any (sameN · op) = false from hop] at this)
  have HCK0 := fun w => check_no 7 w
  clear hop
  have sf := store_float
  go_enter Tryz.func25, Tryz.ntmps25
  go_wp2_with (first
    | (go_at_call 34; (with_reducible refine (HOP.out _ _ (by simp)).mono ?_); rintro e w7 ⟨rfl, hB7⟩
       have HB7 := Lib.hid ((HBK0.out.keep (below1 _ _)).keep hB7)
       obtain ⟨v0, v1, v2, v3, v4, v5, v6, v7, v8, v9⟩ := row10 HB7.out.ex
       clear hB7)
    | (go_at_call 24; (with_reducible refine (HCK0 _).mono ?_); rintro e w' ⟨rfl, rfl⟩)
    | fail)
  exact ⟨rfl, HB7.out.below, rfl⟩
set_option maxRecDepth 100000 in
set_option maxHeartbeats 16000000 in
theorem expr_cmp_args (n : Nat) (s : Sc) (ins fol : Bool) (x : Ex) (w : World) (hk : x.kind = 7) (hop : opOk 7 x.op = true) (er : Int)
    (HAR : ∀ W, Below w.heap.size w W → Calls Tryz.prog 41 #[scV s ins fol, exV x, .int .i64 2] W (ArgsO n W (.error er))) :
    Calls Tryz.prog 25 #[scV s ins fol, exV x] w (ExprO (n + 1) w (.error er)) := by
  obtain ⟨k, op, ⟨lk, ln, lf, ls⟩, tn, nm, ng, xa, xc, xs⟩ := x
  obtain ⟨sa, sc, ta, tc, ba, bc, rows⟩ := s
  obtain rfl : k = 7 := hk
  unfold scV exV at HAR ⊢
  dsimp only [Ex.kind, Ex.op, Ex.lit, Ex.table, Ex.name, Ex.neg, Ex.A, Ex.c, Ex.args] at HAR hop ⊢
  generalize xs.length = q at HAR ⊢
  generalize rows.length = rn at HAR ⊢
  have HA := Lib.hid HAR
  have HBK0 := Lib.hid (BK.start w #[.slice sa rn sc, .slice ta rn tc, .slice ba rn bc, .bool ins, .bool fol] #[.int .i64 7, .string op, .int .i64 lk, .int .i64 ln, .float .f64 lf, .string ls, .string tn, .string nm, .bool ng, .slice xa q xc] (ndR 7 0 0))
  clear HAR
  have HOP := Lib.hid (show ∀ (b : Nat) (W : World), W.heap.size = b → Calls Tryz.prog 34 #[.slice (some ⟨b, 0, none⟩) 6 6, .string op] (W.alloc (.cells #[.string ⟨#[61]⟩, .string ⟨#[60, 62]⟩, .string ⟨#[60]⟩, .string ⟨#[60, 61]⟩, .string ⟨#[62]⟩, .string ⟨#[62, 61]⟩] 9)) (RetV (.bool true) (W.alloc (.cells #[.string ⟨#[61]⟩, .string ⟨#[60, 62]⟩, .string ⟨#[60]⟩, .string ⟨#[60, 61]⟩, .string ⟨#[62]⟩, .string ⟨#[62, 61]⟩] 9))) from fun b W h => by
    have := has_strs (some ⟨b, 0, none⟩) 6 cmpOps op _ (strs_at W b cmpOps (by show 6 ≤ 1000; omega) h)
    rwa [show cmpOps.any (sameN · op) = true from hop] at this)
  have HCK0 := fun w => check_yes 7 w
  clear hop
  have sf := store_float
  go_enter Tryz.func25, Tryz.ntmps25
  go_upto_region 28 with (first
    | (go_at_call 34; (with_reducible refine (HOP.out _ _ (by simp)).mono ?_); rintro e w7 ⟨rfl, hB7⟩
       have HB7 := Lib.hid ((HBK0.out.keep (below1 _ _)).keep hB7)
       obtain ⟨v0, v1, v2, v3, v4, v5, v6, v7, v8, v9⟩ := row10 HB7.out.ex
       clear hB7)
    | (go_at_call 24; (with_reducible refine (HCK0 _).mono ?_); rintro e w' ⟨rfl, rfl⟩)
    | fail)
  have HBD := Lib.hid (HB7.out.keep (Below.refl _ _).drew)
  clear v0 v1 v2 v3 v4 v5 v6 v7 v8 v9
  refine wp_region_held_drew (S := (fun wx => wx.cell? ⟨w.heap.size, 0, none⟩ = some (.slice sa rn sc) ∧ wx.cell? ⟨w.heap.size, 1, none⟩ = some (.slice ta rn tc) ∧ wx.cell? ⟨w.heap.size, 2, none⟩ = some (.slice ba rn bc) ∧ wx.cell? ⟨w.heap.size, 3, none⟩ = some (.bool ins) ∧ wx.cell? ⟨w.heap.size, 4, none⟩ = some (.bool fol) ∧ wx.cell? ⟨w.heap.size + 1, 0, none⟩ = some (.int .i64 7) ∧ wx.cell? ⟨w.heap.size + 1, 1, none⟩ = some (.string op) ∧ wx.cell? ⟨w.heap.size + 1, 2, none⟩ = some (.int .i64 lk) ∧ wx.cell? ⟨w.heap.size + 1, 3, none⟩ = some (.int .i64 ln) ∧ wx.cell? ⟨w.heap.size + 1, 4, none⟩ = some (.float .f64 lf) ∧ wx.cell? ⟨w.heap.size + 1, 5, none⟩ = some (.string ls) ∧ wx.cell? ⟨w.heap.size + 1, 6, none⟩ = some (.string tn) ∧ wx.cell? ⟨w.heap.size + 1, 7, none⟩ = some (.string nm) ∧ wx.cell? ⟨w.heap.size + 1, 8, none⟩ = some (.bool ng) ∧ wx.cell? ⟨w.heap.size + 1, 9, none⟩ = some (.slice xa q xc) ∧ wx.cell? ⟨w.heap.size + 3, 1, none⟩ = some (rdC wx ⟨w.heap.size + 3, 1, none⟩) ∧ wx.frozen? ⟨w.heap.size + 3, 1, none⟩ = false ∧ wx.cell? ⟨w.heap.size + 3, 7, none⟩ = some (rdC wx ⟨w.heap.size + 3, 7, none⟩) ∧ wx.frozen? ⟨w.heap.size + 3, 7, none⟩ = false ∧ wx.cell? ⟨w.heap.size + 3, 8, none⟩ = some (rdC wx ⟨w.heap.size + 3, 8, none⟩) ∧ wx.frozen? ⟨w.heap.size + 3, 8, none⟩ = false ∧ wx.cell? ⟨w.heap.size + 3, 9, none⟩ = some (rdC wx ⟨w.heap.size + 3, 9, none⟩) ∧ wx.frozen? ⟨w.heap.size + 3, 9, none⟩ = false)) (by kernel_rfl) HBD.out.all (fun hHeld => ?_)
  refine wpAnyH_take (i := 0) (v := ?_) (List.getElem?_toArray.trans rfl) (by kernel_rfl) (by kernel_rfl) (by kernel_rfl) (fun _ _ _ h => h) (Or.inl ⟨by rfl, ?_⟩) hHeld ?_
  rotate_left
  · intro wx hSw
    (try dsimp only at hSw)
    go_simp
    (try with_reducible rfl)
  (try simp only [Act.put, List.setIfInBounds_toArray, List.set_cons_zero, List.set_cons_succ])
  refine wpAnyH_take (i := 1) (v := ?_) (List.getElem?_toArray.trans rfl) (by kernel_rfl) (by kernel_rfl) (by kernel_rfl) (fun _ _ _ h => h) (Or.inl ⟨by rfl, ?_⟩) hHeld ?_
  rotate_left
  · intro wx hSw
    (try dsimp only at hSw)
    go_simp
    (try with_reducible rfl)
  (try simp only [Act.put, List.setIfInBounds_toArray, List.set_cons_zero, List.set_cons_succ])
  refine wpAnyH_take (i := 2) (v := ?_) (List.getElem?_toArray.trans rfl) (by kernel_rfl) (by kernel_rfl) (by kernel_rfl) (fun _ _ _ h => h) (Or.inl ⟨by rfl, ?_⟩) hHeld ?_
  rotate_left
  · intro wx hSw
    (try dsimp only at hSw)
    go_simp
    (try with_reducible rfl)
  (try simp only [Act.put, List.setIfInBounds_toArray, List.set_cons_zero, List.set_cons_succ])
  refine wpAnyH_take (i := 3) (v := ?_) (List.getElem?_toArray.trans rfl) (by kernel_rfl) (by kernel_rfl) (by kernel_rfl) (fun _ _ _ h => h) (Or.inl ⟨by rfl, ?_⟩) hHeld ?_
  rotate_left
  · intro wx hSw
    (try dsimp only at hSw)
    go_simp
    (try with_reducible rfl)
  (try simp only [Act.put, List.setIfInBounds_toArray, List.set_cons_zero, List.set_cons_succ])
  refine wpAnyH_take (i := 5) (v := ?_) (List.getElem?_toArray.trans rfl) (by kernel_rfl) (by kernel_rfl) (by kernel_rfl) (fun _ _ _ h => h) (Or.inl ⟨by rfl, ?_⟩) hHeld ?_
  rotate_left
  · intro wx hSw
    (try dsimp only at hSw)
    go_simp
    (try with_reducible rfl)
  (try simp only [Act.put, List.setIfInBounds_toArray, List.set_cons_zero, List.set_cons_succ])
  refine wpAnyH_ready (rs := [4]) (by kernel_rfl) (by simp) ?_
  refine AllReadyH.cons (List.getElem?_toArray.trans rfl) (fun K hK => ?_) AllReadyH.nil
  go_simp
  go_at_call 41
  with_reducible refine Calls.mono (HA.out _ HBD.out.below) ?_
  rintro e w5 hO
  obtain ⟨rfl, hB5⟩ := argso_no hO
  exact ⟨rfl, (HBD.out.keep hB5).below, rfl⟩
set_option maxRecDepth 100000 in
set_option maxHeartbeats 16000000 in
theorem expr_cmp_com (n : Nat) (s : Sc) (ins fol : Bool) (x : Ex) (w : World) (hk : x.kind = 7) (hop : opOk 7 x.op = true) (p0 p1 : Nd) (hc : comT p0.ty p1.ty = false)
    (HAR : ∀ W, Below w.heap.size w W → Calls Tryz.prog 41 #[scV s ins fol, exV x, .int .i64 2] W (ArgsO n W (.ok [p0, p1]))) :
    Calls Tryz.prog 25 #[scV s ins fol, exV x] w (ExprO (n + 1) w (.error 70)) := by
  obtain ⟨k, op, ⟨lk, ln, lf, ls⟩, tn, nm, ng, xa, xc, xs⟩ := x
  obtain ⟨sa, sc, ta, tc, ba, bc, rows⟩ := s
  obtain rfl : k = 7 := hk
  unfold scV exV at HAR ⊢
  dsimp only [Ex.kind, Ex.op, Ex.lit, Ex.table, Ex.name, Ex.neg, Ex.A, Ex.c, Ex.args] at HAR hop ⊢
  generalize xs.length = q at HAR ⊢
  generalize rows.length = rn at HAR ⊢
  have HA := Lib.hid HAR
  have HBK0 := Lib.hid (BK.start w #[.slice sa rn sc, .slice ta rn tc, .slice ba rn bc, .bool ins, .bool fol] #[.int .i64 7, .string op, .int .i64 lk, .int .i64 ln, .float .f64 lf, .string ls, .string tn, .string nm, .bool ng, .slice xa q xc] (ndR 7 0 0))
  clear HAR
  have HOP := Lib.hid (show ∀ (b : Nat) (W : World), W.heap.size = b → Calls Tryz.prog 34 #[.slice (some ⟨b, 0, none⟩) 6 6, .string op] (W.alloc (.cells #[.string ⟨#[61]⟩, .string ⟨#[60, 62]⟩, .string ⟨#[60]⟩, .string ⟨#[60, 61]⟩, .string ⟨#[62]⟩, .string ⟨#[62, 61]⟩] 9)) (RetV (.bool true) (W.alloc (.cells #[.string ⟨#[61]⟩, .string ⟨#[60, 62]⟩, .string ⟨#[60]⟩, .string ⟨#[60, 61]⟩, .string ⟨#[62]⟩, .string ⟨#[62, 61]⟩] 9))) from fun b W h => by
    have := has_strs (some ⟨b, 0, none⟩) 6 cmpOps op _ (strs_at W b cmpOps (by show 6 ≤ 1000; omega) h)
    rwa [show cmpOps.any (sameN · op) = true from hop] at this)
  have HCK0 := fun w => check_yes 7 w
  clear hop
  obtain ⟨t0, ht0⟩ : ∃ t, t = p0.ty := ⟨_, rfl⟩
  obtain ⟨t1, ht1⟩ : ∃ t, t = p1.ty := ⟨_, rfl⟩
  rw [← ht0, ← ht1] at hc
  have HT0 := Lib.hid ht0
  have HT1 := Lib.hid ht1
  have HCM := Lib.hid (show ∀ W, Calls Tryz.prog 42 #[.int .i64 t0, .int .i64 t1] W (fun e w' => e = .panicked [{ v := .iface 49 (.int .i64 70), recovered := false }] ∧ w' = W) from fun W => common_n t0 t1 W hc)
  clear hc ht0 ht1
  have sf := store_float
  go_enter Tryz.func25, Tryz.ntmps25
  go_upto_region 28 with (first
    | (go_at_call 34; (with_reducible refine (HOP.out _ _ (by simp)).mono ?_); rintro e w7 ⟨rfl, hB7⟩
       have HB7 := Lib.hid ((HBK0.out.keep (below1 _ _)).keep hB7)
       obtain ⟨v0, v1, v2, v3, v4, v5, v6, v7, v8, v9⟩ := row10 HB7.out.ex
       clear hB7)
    | (go_at_call 24; (with_reducible refine (HCK0 _).mono ?_); rintro e w' ⟨rfl, rfl⟩)
    | fail)
  have HBD := Lib.hid (HB7.out.keep (Below.refl _ _).drew)
  clear v0 v1 v2 v3 v4 v5 v6 v7 v8 v9
  go_region_held3 (fun wx => wx.cell? ⟨w.heap.size, 0, none⟩ = some (.slice sa rn sc) ∧ wx.cell? ⟨w.heap.size, 1, none⟩ = some (.slice ta rn tc) ∧ wx.cell? ⟨w.heap.size, 2, none⟩ = some (.slice ba rn bc) ∧ wx.cell? ⟨w.heap.size, 3, none⟩ = some (.bool ins) ∧ wx.cell? ⟨w.heap.size, 4, none⟩ = some (.bool fol) ∧ wx.cell? ⟨w.heap.size + 1, 0, none⟩ = some (.int .i64 7) ∧ wx.cell? ⟨w.heap.size + 1, 1, none⟩ = some (.string op) ∧ wx.cell? ⟨w.heap.size + 1, 2, none⟩ = some (.int .i64 lk) ∧ wx.cell? ⟨w.heap.size + 1, 3, none⟩ = some (.int .i64 ln) ∧ wx.cell? ⟨w.heap.size + 1, 4, none⟩ = some (.float .f64 lf) ∧ wx.cell? ⟨w.heap.size + 1, 5, none⟩ = some (.string ls) ∧ wx.cell? ⟨w.heap.size + 1, 6, none⟩ = some (.string tn) ∧ wx.cell? ⟨w.heap.size + 1, 7, none⟩ = some (.string nm) ∧ wx.cell? ⟨w.heap.size + 1, 8, none⟩ = some (.bool ng) ∧ wx.cell? ⟨w.heap.size + 1, 9, none⟩ = some (.slice xa q xc) ∧ wx.cell? ⟨w.heap.size + 3, 1, none⟩ = some (rdC wx ⟨w.heap.size + 3, 1, none⟩) ∧ wx.frozen? ⟨w.heap.size + 3, 1, none⟩ = false ∧ wx.cell? ⟨w.heap.size + 3, 7, none⟩ = some (rdC wx ⟨w.heap.size + 3, 7, none⟩) ∧ wx.frozen? ⟨w.heap.size + 3, 7, none⟩ = false ∧ wx.cell? ⟨w.heap.size + 3, 8, none⟩ = some (rdC wx ⟨w.heap.size + 3, 8, none⟩) ∧ wx.frozen? ⟨w.heap.size + 3, 8, none⟩ = false ∧ wx.cell? ⟨w.heap.size + 3, 9, none⟩ = some (rdC wx ⟨w.heap.size + 3, 9, none⟩) ∧ wx.frozen? ⟨w.heap.size + 3, 9, none⟩ = false)
    (first
      | (with_reducible exact HBD.out.all)
      | (with_reducible exact HE5.out.bk.all)
      | (with_reducible exact HE6.out.bk.all)
      | (with_reducible exact HE7.out.bk.all)
      | fail)
    (first
      | (go_at_call 41; (with_reducible refine (HA.out _ HBD.out.below).mono ?_); rintro e w5 hO
         obtain ⟨A5, c5, vs, rfl, hB5, hC5, hA5, hN5⟩ := argso_ok hO
         have HE5 := Lib.hid (EK.of HBD.out hB5 hC5 hA5 hN5)
         have hvl : vs.length = 2 := hN5.1
         obtain ⟨ab, ao, rfl⟩ := HE5.out.addr (by show 0 < 2; omega)
         have HE6 := Lib.hid (show EK n w _ _ #[.int .i64 7, .string op, .int .i64 0, .int .i64 0, .float .f64 0, .string ⟨#[]⟩, .int .i64 0, .bool false, .int .i64 0, .slice none 0 0] (some ⟨ab, ao, none⟩) vs [p0, p1] (w5.setCell ⟨w.heap.size + 3, 1, none⟩ (.string op)) from HE5.out.set 1 _)
         have HE7 := Lib.hid (show EK n w _ _ #[.int .i64 7, .string op, .int .i64 0, .int .i64 0, .float .f64 0, .string ⟨#[]⟩, .int .i64 0, .bool false, .int .i64 0, .slice (some ⟨ab, ao, none⟩) 2 c5] (some ⟨ab, ao, none⟩) vs [p0, p1] ((w5.setCell ⟨w.heap.size + 3, 1, none⟩ (.string op)).setCell ⟨w.heap.size + 3, 9, none⟩ (.slice (some ⟨ab, ao, none⟩) 2 c5)) from HE6.out.set 9 _)
         have HVL := Lib.hid hvl
         rw [hvl]
         clear hO hB5 hC5 hA5 hN5 hvl)
      | fail)
  generalize ((w5.setCell ⟨w.heap.size + 3, 1, none⟩ (.string op)).setCell ⟨w.heap.size + 3, 9, none⟩ (.slice (some ⟨ab, ao, none⟩) 2 c5)) = w6 at HE7 ⊢
  clear HE5 HE6
  have HE8 := Lib.hid (HE7.out.keep (Below.refl _ _).drew)
  have z9 := cell_of_row _ _ 9 _ _ _ HE8.out.bk.nd
  have z8 := cell_of_row _ _ 8 _ _ _ HE8.out.bk.nd
  have y8 := frozen_of_row _ _ 8 _ _ HE8.out.bk.nd
  have hz8 := heap_lt HE8.out.bk.nd
  have ty0 : (w6.drew).cell? ⟨ab, ao + 8, none⟩ = some (.int .i64 t0) := by
    have := HE8.out.tyA (i := 0) (p := p0) rfl
    rwa [← HT0.out, Nat.zero_mul, Nat.add_zero] at this
  have ty1 : (w6.drew).cell? ⟨ab, ao + 18, none⟩ = some (.int .i64 t1) := by
    have := HE8.out.tyA (i := 1) (p := p1) rfl
    rwa [← HT1.out] at this
  go_upto_region 29 with (fail)
  refine wp_region_held_drew (S := (fun wx => wx.cell? ⟨w.heap.size + 3, 9, none⟩ = some (.slice (some ⟨ab, ao, none⟩) 2 c5) ∧ wx.cell? ⟨ab, ao + 8, none⟩ = some (.int .i64 t0) ∧ wx.cell? ⟨ab, ao + 18, none⟩ = some (.int .i64 t1))) (by kernel_rfl) (HE8.out.held1 HT0.out HT1.out) (fun hHeld => ?_)
  refine wpAnyH_take (i := 0) (v := ?_) (List.getElem?_toArray.trans rfl) (by kernel_rfl) (by kernel_rfl) (by kernel_rfl) (fun _ _ _ h => h) (Or.inl ⟨by rfl, ?_⟩) hHeld ?_
  rotate_left
  · intro wx hSw
    (try dsimp only at hSw)
    go_simp
    (try with_reducible rfl)
  (try simp only [Act.put, List.setIfInBounds_toArray, List.set_cons_zero, List.set_cons_succ])
  refine wpAnyH_take (i := 1) (v := ?_) (List.getElem?_toArray.trans rfl) (by kernel_rfl) (by kernel_rfl) (by kernel_rfl) (fun _ _ _ h => h) (Or.inl ⟨by rfl, ?_⟩) hHeld ?_
  rotate_left
  · intro wx hSw
    (try dsimp only at hSw)
    go_simp
    (try with_reducible rfl)
  (try simp only [Act.put, List.setIfInBounds_toArray, List.set_cons_zero, List.set_cons_succ])
  refine wpAnyH_take (i := 2) (v := ?_) (List.getElem?_toArray.trans rfl) (by kernel_rfl) (by kernel_rfl) (by kernel_rfl) (fun _ _ _ h => h) (Or.inl ⟨by rfl, ?_⟩) hHeld ?_
  rotate_left
  · intro wx hSw
    (try dsimp only at hSw)
    go_simp
    (try with_reducible rfl)
  (try simp only [Act.put, List.setIfInBounds_toArray, List.set_cons_zero, List.set_cons_succ])
  refine wpAnyH_take (i := 3) (v := ?_) (List.getElem?_toArray.trans rfl) (by kernel_rfl) (by kernel_rfl) (by kernel_rfl) (fun _ _ _ h => h) (Or.inl ⟨by rfl, ?_⟩) hHeld ?_
  rotate_left
  · intro wx hSw
    (try dsimp only at hSw)
    go_simp
    (try with_reducible rfl)
  (try simp only [Act.put, List.setIfInBounds_toArray, List.set_cons_zero, List.set_cons_succ])
  refine wpAnyH_take (i := 4) (v := ?_) (List.getElem?_toArray.trans rfl) (by kernel_rfl) (by kernel_rfl) (by kernel_rfl) (fun _ _ _ h => h) (Or.inl ⟨by rfl, ?_⟩) hHeld ?_
  rotate_left
  · intro wx hSw
    (try dsimp only at hSw)
    go_simp
    (try with_reducible rfl)
  (try simp only [Act.put, List.setIfInBounds_toArray, List.set_cons_zero, List.set_cons_succ])
  refine wpAnyH_take (i := 5) (v := ?_) (List.getElem?_toArray.trans rfl) (by kernel_rfl) (by kernel_rfl) (by kernel_rfl) (fun _ _ _ h => h) (Or.inl ⟨by rfl, ?_⟩) hHeld ?_
  rotate_left
  · intro wx hSw
    (try dsimp only at hSw)
    go_simp
    (try with_reducible rfl)
  (try simp only [Act.put, List.setIfInBounds_toArray, List.set_cons_zero, List.set_cons_succ])
  refine wpAnyH_take (i := 6) (v := ?_) (List.getElem?_toArray.trans rfl) (by kernel_rfl) (by kernel_rfl) (by kernel_rfl) (fun _ _ _ h => h) (Or.inl ⟨by rfl, ?_⟩) hHeld ?_
  rotate_left
  · intro wx hSw
    (try dsimp only at hSw)
    go_simp
    (try with_reducible rfl)
  (try simp only [Act.put, List.setIfInBounds_toArray, List.set_cons_zero, List.set_cons_succ])
  refine wpAnyH_take (i := 7) (v := ?_) (List.getElem?_toArray.trans rfl) (by kernel_rfl) (by kernel_rfl) (by kernel_rfl) (fun _ _ _ h => h) (Or.inl ⟨by rfl, ?_⟩) hHeld ?_
  rotate_left
  · intro wx hSw
    (try dsimp only at hSw)
    go_simp
    (try with_reducible rfl)
  (try simp only [Act.put, List.setIfInBounds_toArray, List.set_cons_zero, List.set_cons_succ])
  refine wpAnyH_take (i := 8) (v := ?_) (List.getElem?_toArray.trans rfl) (by kernel_rfl) (by kernel_rfl) (by kernel_rfl) (fun _ _ _ h => h) (Or.inl ⟨by rfl, ?_⟩) hHeld ?_
  rotate_left
  · intro wx hSw
    (try dsimp only at hSw)
    go_simp
    (try with_reducible rfl)
  (try simp only [Act.put, List.setIfInBounds_toArray, List.set_cons_zero, List.set_cons_succ])
  refine wpAnyH_take (i := 9) (v := ?_) (List.getElem?_toArray.trans rfl) (by kernel_rfl) (by kernel_rfl) (by kernel_rfl) (fun _ _ _ h => h) (Or.inl ⟨by rfl, ?_⟩) hHeld ?_
  rotate_left
  · intro wx hSw
    (try dsimp only at hSw)
    go_simp
    (try with_reducible rfl)
  (try simp only [Act.put, List.setIfInBounds_toArray, List.set_cons_zero, List.set_cons_succ])
  refine wpAnyH_ready (rs := [10]) (by kernel_rfl) (by simp) ?_
  refine AllReadyH.cons (List.getElem?_toArray.trans rfl) (fun K hK => ?_) AllReadyH.nil
  go_simp
  go_at_call 42
  with_reducible refine Calls.mono (HCM.out _) ?_
  rintro e w9 ⟨rfl, rfl⟩
  exact ⟨rfl, HE8.out.bk.below, rfl⟩
set_option maxRecDepth 100000 in
set_option maxHeartbeats 16000000 in
theorem expr_cmp_ok (n : Nat) (s : Sc) (ins fol : Bool) (x : Ex) (w : World) (hk : x.kind = 7) (hop : opOk 7 x.op = true) (p0 p1 : Nd) (hc : comT p0.ty p1.ty = true)
    (HAR : ∀ W, Below w.heap.size w W → Calls Tryz.prog 41 #[scV s ins fol, exV x, .int .i64 2] W (ArgsO n W (.ok [p0, p1]))) :
    Calls Tryz.prog 25 #[scV s ins fol, exV x] w (ExprO (n + 1) w (.ok (.mk 7 x.op zeroV 0 false 4 [p0, p1]))) := by
  obtain ⟨k, op, ⟨lk, ln, lf, ls⟩, tn, nm, ng, xa, xc, xs⟩ := x
  obtain ⟨sa, sc, ta, tc, ba, bc, rows⟩ := s
  obtain rfl : k = 7 := hk
  unfold scV exV at HAR ⊢
  dsimp only [Ex.kind, Ex.op, Ex.lit, Ex.table, Ex.name, Ex.neg, Ex.A, Ex.c, Ex.args] at HAR hop ⊢
  generalize xs.length = q at HAR ⊢
  generalize rows.length = rn at HAR ⊢
  have HA := Lib.hid HAR
  have HBK0 := Lib.hid (BK.start w #[.slice sa rn sc, .slice ta rn tc, .slice ba rn bc, .bool ins, .bool fol] #[.int .i64 7, .string op, .int .i64 lk, .int .i64 ln, .float .f64 lf, .string ls, .string tn, .string nm, .bool ng, .slice xa q xc] (ndR 7 0 0))
  clear HAR
  have HOP := Lib.hid (show ∀ (b : Nat) (W : World), W.heap.size = b → Calls Tryz.prog 34 #[.slice (some ⟨b, 0, none⟩) 6 6, .string op] (W.alloc (.cells #[.string ⟨#[61]⟩, .string ⟨#[60, 62]⟩, .string ⟨#[60]⟩, .string ⟨#[60, 61]⟩, .string ⟨#[62]⟩, .string ⟨#[62, 61]⟩] 9)) (RetV (.bool true) (W.alloc (.cells #[.string ⟨#[61]⟩, .string ⟨#[60, 62]⟩, .string ⟨#[60]⟩, .string ⟨#[60, 61]⟩, .string ⟨#[62]⟩, .string ⟨#[62, 61]⟩] 9))) from fun b W h => by
    have := has_strs (some ⟨b, 0, none⟩) 6 cmpOps op _ (strs_at W b cmpOps (by show 6 ≤ 1000; omega) h)
    rwa [show cmpOps.any (sameN · op) = true from hop] at this)
  have HCK0 := fun w => check_yes 7 w
  clear hop
  obtain ⟨t0, ht0⟩ : ∃ t, t = p0.ty := ⟨_, rfl⟩
  obtain ⟨t1, ht1⟩ : ∃ t, t = p1.ty := ⟨_, rfl⟩
  rw [← ht0, ← ht1] at hc
  have HT0 := Lib.hid ht0
  have HT1 := Lib.hid ht1
  have HCM := Lib.hid (show ∀ W, Calls Tryz.prog 42 #[.int .i64 t0, .int .i64 t1] W (fun e w' => e = .returned (.int .i64 (max t0 t1)) ∧ w' = W) from fun W => common_y t0 t1 W hc)
  clear hc ht0 ht1
  have sf := store_float
  go_enter Tryz.func25, Tryz.ntmps25
  go_upto_region 28 with (first
    | (go_at_call 34; (with_reducible refine (HOP.out _ _ (by simp)).mono ?_); rintro e w7 ⟨rfl, hB7⟩
       have HB7 := Lib.hid ((HBK0.out.keep (below1 _ _)).keep hB7)
       obtain ⟨v0, v1, v2, v3, v4, v5, v6, v7, v8, v9⟩ := row10 HB7.out.ex
       clear hB7)
    | (go_at_call 24; (with_reducible refine (HCK0 _).mono ?_); rintro e w' ⟨rfl, rfl⟩)
    | fail)
  have HBD := Lib.hid (HB7.out.keep (Below.refl _ _).drew)
  clear v0 v1 v2 v3 v4 v5 v6 v7 v8 v9
  go_region_held3 (fun wx => wx.cell? ⟨w.heap.size, 0, none⟩ = some (.slice sa rn sc) ∧ wx.cell? ⟨w.heap.size, 1, none⟩ = some (.slice ta rn tc) ∧ wx.cell? ⟨w.heap.size, 2, none⟩ = some (.slice ba rn bc) ∧ wx.cell? ⟨w.heap.size, 3, none⟩ = some (.bool ins) ∧ wx.cell? ⟨w.heap.size, 4, none⟩ = some (.bool fol) ∧ wx.cell? ⟨w.heap.size + 1, 0, none⟩ = some (.int .i64 7) ∧ wx.cell? ⟨w.heap.size + 1, 1, none⟩ = some (.string op) ∧ wx.cell? ⟨w.heap.size + 1, 2, none⟩ = some (.int .i64 lk) ∧ wx.cell? ⟨w.heap.size + 1, 3, none⟩ = some (.int .i64 ln) ∧ wx.cell? ⟨w.heap.size + 1, 4, none⟩ = some (.float .f64 lf) ∧ wx.cell? ⟨w.heap.size + 1, 5, none⟩ = some (.string ls) ∧ wx.cell? ⟨w.heap.size + 1, 6, none⟩ = some (.string tn) ∧ wx.cell? ⟨w.heap.size + 1, 7, none⟩ = some (.string nm) ∧ wx.cell? ⟨w.heap.size + 1, 8, none⟩ = some (.bool ng) ∧ wx.cell? ⟨w.heap.size + 1, 9, none⟩ = some (.slice xa q xc) ∧ wx.cell? ⟨w.heap.size + 3, 1, none⟩ = some (rdC wx ⟨w.heap.size + 3, 1, none⟩) ∧ wx.frozen? ⟨w.heap.size + 3, 1, none⟩ = false ∧ wx.cell? ⟨w.heap.size + 3, 7, none⟩ = some (rdC wx ⟨w.heap.size + 3, 7, none⟩) ∧ wx.frozen? ⟨w.heap.size + 3, 7, none⟩ = false ∧ wx.cell? ⟨w.heap.size + 3, 8, none⟩ = some (rdC wx ⟨w.heap.size + 3, 8, none⟩) ∧ wx.frozen? ⟨w.heap.size + 3, 8, none⟩ = false ∧ wx.cell? ⟨w.heap.size + 3, 9, none⟩ = some (rdC wx ⟨w.heap.size + 3, 9, none⟩) ∧ wx.frozen? ⟨w.heap.size + 3, 9, none⟩ = false)
    (first
      | (with_reducible exact HBD.out.all)
      | (with_reducible exact HE5.out.bk.all)
      | (with_reducible exact HE6.out.bk.all)
      | (with_reducible exact HE7.out.bk.all)
      | fail)
    (first
      | (go_at_call 41; (with_reducible refine (HA.out _ HBD.out.below).mono ?_); rintro e w5 hO
         obtain ⟨A5, c5, vs, rfl, hB5, hC5, hA5, hN5⟩ := argso_ok hO
         have HE5 := Lib.hid (EK.of HBD.out hB5 hC5 hA5 hN5)
         have hvl : vs.length = 2 := hN5.1
         obtain ⟨ab, ao, rfl⟩ := HE5.out.addr (by show 0 < 2; omega)
         have HE6 := Lib.hid (show EK n w _ _ #[.int .i64 7, .string op, .int .i64 0, .int .i64 0, .float .f64 0, .string ⟨#[]⟩, .int .i64 0, .bool false, .int .i64 0, .slice none 0 0] (some ⟨ab, ao, none⟩) vs [p0, p1] (w5.setCell ⟨w.heap.size + 3, 1, none⟩ (.string op)) from HE5.out.set 1 _)
         have HE7 := Lib.hid (show EK n w _ _ #[.int .i64 7, .string op, .int .i64 0, .int .i64 0, .float .f64 0, .string ⟨#[]⟩, .int .i64 0, .bool false, .int .i64 0, .slice (some ⟨ab, ao, none⟩) 2 c5] (some ⟨ab, ao, none⟩) vs [p0, p1] ((w5.setCell ⟨w.heap.size + 3, 1, none⟩ (.string op)).setCell ⟨w.heap.size + 3, 9, none⟩ (.slice (some ⟨ab, ao, none⟩) 2 c5)) from HE6.out.set 9 _)
         have HVL := Lib.hid hvl
         rw [hvl]
         clear hO hB5 hC5 hA5 hN5 hvl)
      | fail)
  generalize ((w5.setCell ⟨w.heap.size + 3, 1, none⟩ (.string op)).setCell ⟨w.heap.size + 3, 9, none⟩ (.slice (some ⟨ab, ao, none⟩) 2 c5)) = w6 at HE7 ⊢
  clear HE5 HE6
  have HE8 := Lib.hid (HE7.out.keep (Below.refl _ _).drew)
  have z9 := cell_of_row _ _ 9 _ _ _ HE8.out.bk.nd
  have z8 := cell_of_row _ _ 8 _ _ _ HE8.out.bk.nd
  have y8 := frozen_of_row _ _ 8 _ _ HE8.out.bk.nd
  have hz8 := heap_lt HE8.out.bk.nd
  have ty0 : (w6.drew).cell? ⟨ab, ao + 8, none⟩ = some (.int .i64 t0) := by
    have := HE8.out.tyA (i := 0) (p := p0) rfl
    rwa [← HT0.out, Nat.zero_mul, Nat.add_zero] at this
  have ty1 : (w6.drew).cell? ⟨ab, ao + 18, none⟩ = some (.int .i64 t1) := by
    have := HE8.out.tyA (i := 1) (p := p1) rfl
    rwa [← HT1.out] at this
  go_upto_region 29 with (fail)
  go_region_held3 (fun wx => wx.cell? ⟨w.heap.size + 3, 9, none⟩ = some (.slice (some ⟨ab, ao, none⟩) 2 c5) ∧ wx.cell? ⟨ab, ao + 8, none⟩ = some (.int .i64 t0) ∧ wx.cell? ⟨ab, ao + 18, none⟩ = some (.int .i64 t1))
    (first
      | (with_reducible exact HE8.out.held1 HT0.out HT1.out)
      | fail)
    (first
      | (go_at_call 42; (with_reducible refine (HCM.out _).mono ?_); rintro e w9 ⟨rfl, rfl⟩)
      | fail)
  generalize w6.drew = w9 at HE8 ⊢
  clear z9 z8 y8 hz8 ty0 ty1
  obtain ⟨a0, a1, a2, a3, a4, a5, a6, a7, a8, a9⟩ := row10 HE8.out.bk.nd
  obtain ⟨f0, f1, f2, f3, f4, f5, f6, f7, f8, f9⟩ := free10 HE8.out.bk.nd
  have hz8 := heap_lt HE8.out.bk.nd
  have HE9 := Lib.hid (show EK n w _ _ #[.int .i64 7, .string op, .int .i64 0, .int .i64 0, .float .f64 0, .string ⟨#[]⟩, .int .i64 0, .bool false, .int .i64 4, .slice (some ⟨ab, ao, none⟩) 2 c5] (some ⟨ab, ao, none⟩) vs [p0, p1] (w9.setCell ⟨w.heap.size + 3, 8, none⟩ (.int .i64 4)) from HE8.out.set 8 _)
  go_upto_region 43 with (fail)
  generalize (w9.setCell ⟨w.heap.size + 3, 8, none⟩ (.int .i64 4)) = w8 at HE9 ⊢
  clear a0 a1 a2 a3 a4 a5 a6 a7 a8 a9 f0 f1 f2 f3 f4 f5 f6 f7 f8 f9 hz8 HE8
  obtain ⟨a0, a1, a2, a3, a4, a5, a6, a7, a8, a9⟩ := row10 HE9.out.bk.nd
  obtain ⟨b0, b1, b2, b3, b4, b5, b6, b7, b8, b9⟩ := row10 HE9.out.bk.ans
  obtain ⟨f0, f1, f2, f3, f4, f5, f6, f7, f8, f9⟩ := free10 HE9.out.bk.ans
  have hlz := heap_lt HE9.out.bk.ans
  go_wp2_with fail
  have HD := Lib.hid (HE9.out.done (p := .mk 7 op zeroV 0 false 4 [p0, p1]) c5 (.int .i64 7) (.string op) (.int .i64 0) (.int .i64 0) (.float .f64 0) (.string ⟨#[]⟩) (.int .i64 0) (.bool false) (.int .i64 4) (.slice (some ⟨ab, ao, none⟩) 2 c5))
  refine bodyPost_ret (v := .agg #[.int .i64 7, .string op, .int .i64 0, .int .i64 0, .float .f64 0, .string ⟨#[]⟩, .int .i64 0, .bool false, .int .i64 4, .slice (some ⟨ab, ao, none⟩) 2 c5]) (by simp [results, Tryz.results25, go_sem, b0, b1, b2, b3, b4, b5, b6, b7, b8, b9]) rfl ⟨HD.out.1, some ⟨ab, ao, none⟩, c5, vs.length, ?_, HD.out.2⟩
  rw [show clP (Nd.mk 7 op zeroV 0 false 4 [p0, p1]).lit = zeroV from clP_zero, HVL.out]
  rfl
end Go.Proofs.YthdmfaepjemopaaGreatDoor
