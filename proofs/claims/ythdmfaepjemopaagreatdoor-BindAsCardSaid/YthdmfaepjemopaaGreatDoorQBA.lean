/- The walk of BindSound behind its guards: what must hold, the items, the orders, the star. The document's parser at the words of one text: WHERE and a condition. The document's parser at the words of one text: two tables. -/
import Derived.Test.YthdmfaepjemopaaGreatDoorQAZ
import Derived.Test.YthdmfaepjemopaaGreatDoorQAJ
import Derived.Test.YthdmfaepjemopaaGreatDoorQAV
namespace Go.Proofs.YthdmfaepjemopaaGreatDoor
open Go.RowKit

noncomputable def sfC (k : Nat) : Code := dropC k (Tryz.f3.body.getD .skip)
set_option maxRecDepth 100000 in
theorem open191 {a : Act} (h : a.tmps.size = 191) : ∃ u : Nat → Value, a.tmps = #[u 0, u 1, u 2, u 3, u 4, u 5, u 6, u 7, u 8, u 9, u 10, u 11, u 12, u 13, u 14, u 15, u 16, u 17, u 18, u 19, u 20, u 21, u 22, u 23, u 24, u 25, u 26, u 27, u 28, u 29, u 30, u 31, u 32, u 33, u 34, u 35, u 36, u 37, u 38, u 39, u 40, u 41, u 42, u 43, u 44, u 45, u 46, u 47, u 48, u 49, u 50, u 51, u 52, u 53, u 54, u 55, u 56, u 57, u 58, u 59, u 60, u 61, u 62, u 63, u 64, u 65, u 66, u 67, u 68, u 69, u 70, u 71, u 72, u 73, u 74, u 75, u 76, u 77, u 78, u 79, u 80, u 81, u 82, u 83, u 84, u 85, u 86, u 87, u 88, u 89, u 90, u 91, u 92, u 93, u 94, u 95, u 96, u 97, u 98, u 99, u 100, u 101, u 102, u 103, u 104, u 105, u 106, u 107, u 108, u 109, u 110, u 111, u 112, u 113, u 114, u 115, u 116, u 117, u 118, u 119, u 120, u 121, u 122, u 123, u 124, u 125, u 126, u 127, u 128, u 129, u 130, u 131, u 132, u 133, u 134, u 135, u 136, u 137, u 138, u 139, u 140, u 141, u 142, u 143, u 144, u 145, u 146, u 147, u 148, u 149, u 150, u 151, u 152, u 153, u 154, u 155, u 156, u 157, u 158, u 159, u 160, u 161, u 162, u 163, u 164, u 165, u 166, u 167, u 168, u 169, u 170, u 171, u 172, u 173, u 174, u 175, u 176, u 177, u 178, u 179, u 180, u 181, u 182, u 183, u 184, u 185, u 186, u 187, u 188, u 189, u 190] ∧ ∀ t, t < 191 → a.tmps.getD t undef = u t := by
  refine ⟨fun t => a.tmps.getD t undef, ?_, fun t _ => rfl⟩
  have e : a.tmps = ((List.range 191).map fun t => a.tmps.getD t undef).toArray := by
    apply Array.ext
    · simp [h]
    · intro i h1 h2
      simp [h1]
  exact e
structure S3 (w : World) (qb : Nat) (T : List Int) (B : Option Addr) (cB : Nat) (a : Act) : Prop where
  size : a.tmps.size = 191
  df : a.defers = []
  s2 : a.tmps.getD 2 undef = .pointer (some ⟨w.heap.size, 0, none⟩)
  s3 : a.tmps.getD 3 undef = .pointer (some ⟨w.heap.size + 1, 0, none⟩)
  s7 : a.tmps.getD 7 undef = .pointer (some ⟨qb, 0, none⟩)
  s9 : a.tmps.getD 9 undef = .slice B T.length cB
structure M3 (w : World) (qb : Nat) (xr qr : Array Value) (W : World) : Prop where
  below : Below w.heap.size w W
  xb : W.heap[w.heap.size + 1]? = some (.cells xr 33)
  qx : W.heap[qb]? = some (.cells qr 48)
theorem M3.keep {w : World} {qb : Nat} {xr qr : Array Value} {W W' : World} (h : M3 w qb xr qr W) (hB : Below W.heap.size W W') : M3 w qb xr qr W' :=
  ⟨h.below.trans (hB.mono h.below.size), (hB.block _ (heap_lt h.xb)).trans h.xb, (hB.block _ (heap_lt h.qx)).trans h.qx⟩
set_option maxRecDepth 100000 in
set_option maxHeartbeats 16000000 in
theorem snd10 (w : World) (qb : Nat) (T : List Int) (B : Option Addr) (cB : Nat) (x0 x1 x2 x3 x4 x7 x8 x9 x10 x11 q0 q1 q4 q8 : Value) (star : Bool) (xA : Option Addr) (xq xc : Nat) (wd : Int) (wA : Option Addr) (wn wc : Nat) (gr : Bool) (iA : Option Addr) (i_n ic : Nat) (oA : Option Addr) (on oc : Nat) (a : Act) (W : World) (hS : S3 w qb T B cB a) (hM : M3 w qb #[x0, x1, x2, x3, x4, .bool star, .slice xA xq xc, x7, x8, x9, x10, x11] #[q0, q1, .int .i64 wd, .slice wA wn wc, q4, .bool gr, .slice iA i_n ic, .slice oA on oc, q8] W) (hst : star = true ∨ i_n = xq) : (sfC 10).wp Tryz.prog (bodyPost Tryz.prog Tryz.f3 (RetV (.bool true) w)) a W := by
  have x5 := cell_of_row _ _ 5 _ _ _ hM.xb
  have x6 := cell_of_row _ _ 6 _ _ _ hM.xb
  have q6 := cell_of_row _ _ 6 _ _ _ hM.qx
  have HB := Lib.hid hM.below
  clear hM
  obtain ⟨u, hu, hug⟩ := open191 hS.size
  have p2 := hS.s2; have p3 := hS.s3; have p7 := hS.s7; have p9 := hS.s9
  have hdf := hS.df
  rw [hug _ (by omega)] at p2 p3 p7 p9
  obtain ⟨tm, df⟩ := a
  dsimp only at hu hdf
  subst hu hdf
  clear hS hug
  rw [p2, p3, p7, p9]
  clear p2 p3 p7 p9
  conv => arg 2; whnf
  cases star with
  | true =>
    go_wp2_with fail
    first
      | (refine wp_ret (bodyPost_ret (v := .bool true) ?_ rfl ⟨rfl, HB.out⟩); rfl)
      | (go_ret; exact ⟨rfl, HB.out⟩)
      | exact ⟨rfl, HB.out⟩
  | false =>
    obtain rfl : i_n = xq := hst.resolve_left (by decide)
    have hq : ((i_n : Int) == (i_n : Int)) = true := beq_self_eq_true _
    go_wp2_with fail
    first
      | (refine wp_ret (bodyPost_ret (v := .bool true) ?_ rfl ⟨rfl, HB.out⟩); rfl)
      | (go_ret; exact ⟨rfl, HB.out⟩)
      | exact ⟨rfl, HB.out⟩
set_option maxRecDepth 100000 in
set_option maxHeartbeats 16000000 in
theorem snd9 (w : World) (qb : Nat) (T : List Int) (B : Option Addr) (cB : Nat) (x0 x1 x2 x3 x4 x7 x8 x9 x10 x11 q0 q1 q4 q8 : Value) (star : Bool) (xA : Option Addr) (xq xc : Nat) (wd : Int) (wA : Option Addr) (wn wc : Nat) (gr : Bool) (iA : Option Addr) (i_n ic : Nat) (oA : Option Addr) (on oc : Nat) (ol : List (Int × Bool)) (a : Act) (W : World) (hS : S3 w qb T B cB a) (hM : M3 w qb #[x0, x1, x2, x3, x4, .bool star, .slice xA xq xc, x7, x8, x9, x10, x11] #[q0, q1, .int .i64 wd, .slice wA wn wc, q4, .bool gr, .slice iA i_n ic, .slice oA on oc, q8] W) (hst : star = true ∨ i_n = xq) (hon : on = ol.length) (hO : CellsAt W 2 oA (ol.map sortL)) (hor : ∀ o ∈ ol, 0 ≤ o.1 ∧ o.1 < wd) : (sfC 9).wp Tryz.prog (bodyPost Tryz.prog Tryz.f3 (RetV (.bool true) w)) a W := by
  have HSEG := Lib.hid (show ∀ a W', S3 w qb T B cB a → Below W.heap.size W W' → (sfC 10).wp Tryz.prog (bodyPost Tryz.prog Tryz.f3 (RetV (.bool true) w)) a W' from fun a W' hS hB => snd10 w qb T B cB x0 x1 x2 x3 x4 x7 x8 x9 x10 x11 q0 q1 q4 q8 star xA xq xc wd wA wn wc gr iA i_n ic oA on oc a W' hS (hM.keep hB) hst)
  clear hst
  have f0 := cell_of_row _ _ 7 _ _ _ hM.qx
  have HO := Lib.hid hO
  have HOR := Lib.hid hor
  have HON := Lib.hid hon
  have hqm : on ≤ 9223372036854775807 := by have := hO.1; rw [List.length_map, ← hon] at this; exact this
  clear hO hor hon
  have HM := Lib.hid hM
  clear hM
  obtain ⟨u, hu, hug⟩ := open191 hS.size
  have p2 := hS.s2; have p3 := hS.s3; have p7 := hS.s7; have p9 := hS.s9
  have hdf := hS.df
  rw [hug _ (by omega)] at p2 p3 p7 p9
  obtain ⟨tm, df⟩ := a
  dsimp only at hu hdf
  subst hu hdf
  clear hS hug
  rw [p2, p3, p7, p9]
  clear p2 p3 p7 p9
  conv => arg 2; whnf
  refine wp_seq_k fun K hK => ?_
  have HK := Lib.hid (show ∀ a w', (sfC 10).wp Tryz.prog (bodyPost Tryz.prog Tryz.f3 (RetV (.bool true) w)) a w' → K a w' from hK)
  clear hK
  go_wp2_with fail
  clear f0
  refine wp_loop (fun a' wr => S3 w qb T B cB a' ∧ a'.tmps.getD 163 undef = .slice oA on oc ∧ a'.tmps.getD 164 undef = .int .i64 on ∧ ∃ (j : Nat), j ≤ on ∧ a'.tmps.getD 165 undef = .int .i64 j ∧ Hid (Below W.heap.size W wr)) (fun a' _ => on - (intOf (a'.tmps.getD 165 undef)).toNat) ?start ?round
  case start =>
    refine ⟨⟨?_, ?_, ?_, ?_, ?_, ?_⟩, ?_, ?_, 0, Nat.zero_le _, ?_, Lib.hid (Below.refl _ _)⟩
    all_goals rfl
  case round =>
    rintro a wr ⟨hS, hsl, hln, j, hj, hix, HB⟩
    obtain ⟨u, hu, hug⟩ := open191 hS.size
    have p2 := hS.s2; have p3 := hS.s3; have p7 := hS.s7; have p9 := hS.s9
    have hdf := hS.df
    rw [hug _ (by omega)] at p2 p3 p7 p9 hsl hln hix
    obtain ⟨tm, df⟩ := a
    dsimp only at hu hdf
    subst hu hdf
    clear hS hug
    rw [p2, p3, p7, p9, hsl, hln, hix]
    clear p2 p3 p7 p9 hsl hln hix
    have HMB := Lib.hid (HM.out.keep HB.out)
    by_cases hjq : j < on
    · have hjn : ((j : Int) < (on : Int)) = True := eq_true (by omega)
      obtain ⟨o, ho⟩ : ∃ o, ol[j]? = some o := ⟨_, List.getElem?_eq_getElem (by have := HON.out; omega)⟩
      obtain ⟨eb, eo, rfl, heb, hyc⟩ := setl_at HO.out (x := sortL o) (by rw [List.getElem?_map, ho]; rfl)
      have hor := HOR.out o (List.mem_of_getElem? ho)
      obtain ⟨oz, od⟩ := o
      dsimp only [sortL] at hyc hor
      have g0 : (oz < 0) = False := eq_false (by omega)
      have g1 : (wd ≤ oz) = False := eq_false (by omega)
      have t0 : wr.cell? ⟨eb, eo + j * 2, none⟩ = some (.int .i64 oz) := cell_kept (hyc 0 _ rfl) HB.out
      have t1 := cell_kept (hyc 1 _ rfl) HB.out
      have w2 := fun O => cell_kept (cell_of_row _ _ 2 _ _ _ HMB.out.qx) (below1 wr O)
      have hqx := heap_lt HMB.out.qx
      have HSZ := Lib.hid HB.out.size
      have HB5 := fun O => Lib.hid (show Below W.heap.size W (wr.alloc O) from HB.out.trans ((below1 wr O).mono HSZ.out))
      clear hyc ho hor
      go_wp2_with fail
      refine ⟨⟨⟨?_, ?_, ?_, ?_, ?_, ?_⟩, ?_, ?_, j + 1, by omega, ?_, HB5 _⟩, ?_⟩
      all_goals first | rfl | skip
      show on - (intOf (.int .i64 _)).toNat < on - (intOf (.int .i64 _)).toNat
      simp [intOf] <;> omega
    · obtain rfl : j = on := by omega
      have hjn : ((j : Int) < (j : Int)) = False := eq_false (by omega)
      go_wp2_with fail
      refine HK.out _ _ (HSEG.out _ _ ⟨?_, ?_, ?_, ?_, ?_, ?_⟩ HB.out)
      all_goals rfl
set_option maxRecDepth 100000 in
set_option maxHeartbeats 16000000 in
theorem snd8 (w : World) (qb : Nat) (T : List Int) (B : Option Addr) (cB : Nat) (x0 x1 x2 x3 x4 x7 x8 x9 x10 x11 q0 q1 q4 q8 : Value) (star : Bool) (xA : Option Addr) (xq xc : Nat) (wd : Int) (wA : Option Addr) (wn wc : Nat) (gr : Bool) (iA : Option Addr) (i_n ic : Nat) (oA : Option Addr) (on oc : Nat) (ok : Nat → Prop) (n : Nat) (ps : List Nd) (vs : List (List Value)) (ol : List (Int × Bool)) (a : Act) (W : World) (hS : S3 w qb T B cB a) (hM : M3 w qb #[x0, x1, x2, x3, x4, .bool star, .slice xA xq xc, x7, x8, x9, x10, x11] #[q0, q1, .int .i64 wd, .slice wA wn wc, q4, .bool gr, .slice iA i_n ic, .slice oA on oc, q8] W) (hT : IntsAt W B T) (hln : i_n = vs.length) (hC : CellsAt W 10 iA vs) (hN : NdsAt clP ok W n vs ps) (hP : ∀ p ∈ ps, soundR T n p = true ∧ (gr = true ∨ p.kind < 10)) (hst : star = true ∨ i_n = xq) (hon : on = ol.length) (hO : CellsAt W 2 oA (ol.map sortL)) (hor : ∀ o ∈ ol, 0 ≤ o.1 ∧ o.1 < wd) : (sfC 8).wp Tryz.prog (bodyPost Tryz.prog Tryz.f3 (RetV (.bool true) w)) a W := by
  have HSEG := Lib.hid (show ∀ a W', S3 w qb T B cB a → Below W.heap.size W W' → (sfC 9).wp Tryz.prog (bodyPost Tryz.prog Tryz.f3 (RetV (.bool true) w)) a W' from fun a W' hS hB => snd9 w qb T B cB x0 x1 x2 x3 x4 x7 x8 x9 x10 x11 q0 q1 q4 q8 star xA xq xc wd wA wn wc gr iA i_n ic oA on oc ol a W' hS (hM.keep hB) hst hon (CellsAt.keep hB hO) hor)
  clear hst hon hO hor
  have f0 := cell_of_row _ _ 6 _ _ _ hM.qx
  have HC := Lib.hid hC
  have HN := Lib.hid hN
  have HP := Lib.hid hP
  have HT := Lib.hid hT
  have HLN := Lib.hid hln
  have hqm : i_n ≤ 9223372036854775807 := by rw [hln]; exact hC.1
  clear hC hN hP hT hln
  have HM := Lib.hid hM
  clear hM
  obtain ⟨u, hu, hug⟩ := open191 hS.size
  have p2 := hS.s2; have p3 := hS.s3; have p7 := hS.s7; have p9 := hS.s9
  have hdf := hS.df
  rw [hug _ (by omega)] at p2 p3 p7 p9
  obtain ⟨tm, df⟩ := a
  dsimp only at hu hdf
  subst hu hdf
  clear hS hug
  rw [p2, p3, p7, p9]
  clear p2 p3 p7 p9
  conv => arg 2; whnf
  refine wp_seq_k fun K hK => ?_
  have HK := Lib.hid (show ∀ a w', (sfC 9).wp Tryz.prog (bodyPost Tryz.prog Tryz.f3 (RetV (.bool true) w)) a w' → K a w' from hK)
  clear hK
  go_wp2_with fail
  clear f0
  refine wp_loop (fun a' wr => S3 w qb T B cB a' ∧ a'.tmps.getD 141 undef = .slice iA i_n ic ∧ a'.tmps.getD 142 undef = .int .i64 i_n ∧ ∃ (j : Nat), j ≤ i_n ∧ a'.tmps.getD 143 undef = .int .i64 j ∧ Hid (Below W.heap.size W wr)) (fun a' _ => i_n - (intOf (a'.tmps.getD 143 undef)).toNat) ?start ?round
  case start =>
    refine ⟨⟨?_, ?_, ?_, ?_, ?_, ?_⟩, ?_, ?_, 0, Nat.zero_le _, ?_, Lib.hid (Below.refl _ _)⟩
    all_goals rfl
  case round =>
    rintro a wr ⟨hS, hsl, hln, j, hj, hix, HB⟩
    obtain ⟨u, hu, hug⟩ := open191 hS.size
    have p2 := hS.s2; have p3 := hS.s3; have p7 := hS.s7; have p9 := hS.s9
    have hdf := hS.df
    rw [hug _ (by omega)] at p2 p3 p7 p9 hsl hln hix
    obtain ⟨tm, df⟩ := a
    dsimp only at hu hdf
    subst hu hdf
    clear hS hug
    rw [p2, p3, p7, p9, hsl, hln, hix]
    clear p2 p3 p7 p9 hsl hln hix
    have HMB := Lib.hid (HM.out.keep HB.out)
    by_cases hjq : j < i_n
    · have hjn : ((j : Int) < (i_n : Int)) = True := eq_true (by omega)
      obtain ⟨y, hy⟩ : ∃ y, ps[j]? = some y := ⟨_, List.getElem?_eq_getElem (by have := HN.out.1; have := HLN.out; omega)⟩
      obtain ⟨eb, eo, A1, m1, c1, rfl, heb, hN1, hyc⟩ := nd_get HC.out HN.out hy
      have hps := HP.out y (List.mem_of_getElem? hy)
      have HSZ := Lib.hid HB.out.size
      have sf := store_float
      have HCL := Lib.hid (show ∀ O, Calls Tryz.prog 11 #[ndV y (clP y.lit) A1 m1 c1, .slice B T.length cB] (wr.alloc O) (RetV (.bool true) (wr.alloc O)) from fun O => by
        have hB := HB.out.trans ((below1 wr O).mono HB.out.size)
        exact sound_any ok T B cB n y A1 m1 c1 _ (hN1.keep hB) (HT.out.keep hB) hps.1)
      obtain ⟨v, hv⟩ : ∃ v, v = clP y.lit := ⟨_, rfl⟩
      rw [← hv] at HCL hyc
      obtain ⟨vk, vn, vf, vs'⟩ := v
      obtain ⟨yk, hyk⟩ : ∃ k, k = y.kind := ⟨_, rfl⟩
      obtain ⟨yo, hyo⟩ : ∃ k, k = y.op := ⟨_, rfl⟩
      obtain ⟨yp, hyp⟩ : ∃ k, k = y.pos := ⟨_, rfl⟩
      obtain ⟨yn, hyn⟩ : ∃ k, k = y.neg := ⟨_, rfl⟩
      obtain ⟨yt, hyt⟩ : ∃ k, k = y.ty := ⟨_, rfl⟩
      unfold ndV at HCL
      unfold ndL at hyc
      dsimp only at HCL hyc
      rw [← hyk, ← hyo, ← hyp, ← hyn, ← hyt] at HCL hyc
      rw [← hyk] at hps
      have t0 : wr.cell? ⟨eb, eo + j * 10, none⟩ = some (.int .i64 yk) := cell_kept (hyc 0 _ rfl) HB.out
      have t1 := cell_kept (hyc 1 _ rfl) HB.out
      have t2 := cell_kept (hyc 2 _ rfl) HB.out
      have t3 := cell_kept (hyc 3 _ rfl) HB.out
      have t4 := cell_kept (hyc 4 _ rfl) HB.out
      have t5 := cell_kept (hyc 5 _ rfl) HB.out
      have t6 := cell_kept (hyc 6 _ rfl) HB.out
      have t7 := cell_kept (hyc 7 _ rfl) HB.out
      have t8 := cell_kept (hyc 8 _ rfl) HB.out
      have t9 := cell_kept (hyc 9 _ rfl) HB.out
      clear hyc hN1 hy hyk hyo hyp hyn hyt hv
      have hqx := heap_lt HMB.out.qx
      have fin : ∀ g : Bool, g = gr → (g = true ∨ yk < 10) := fun g e => by rw [e]; exact hps.2
      cases gr with
      | true =>
        clear fin hps
        go_wp2_with (first
          | (go_at_call 11; (with_reducible refine (HCL.out _).mono ?_); rintro e w5 ⟨rfl, hB5⟩
             have HB5 := Lib.hid (HB.out.trans (((below1 wr _).trans (hB5.mono (below1 wr _).size)).mono HSZ.out))
             have HX5 := Lib.hid ((hB5.block wr.heap.size (by simp)).trans (heap_alloc_new wr _))
             have HQ5 := Lib.hid ((HMB.out.keep (below1 wr _)).keep hB5)
             have y0 := cell_of_row _ _ 0 _ _ _ HX5.out
             have y8 := cell_of_row _ _ 8 _ _ _ HX5.out
             have y5 := cell_of_row _ _ 5 _ _ _ HQ5.out.qx
             clear hB5)
          | fail)
        refine ⟨⟨⟨?_, ?_, ?_, ?_, ?_, ?_⟩, ?_, ?_, j + 1, by omega, ?_, HB5⟩, ?_⟩
        all_goals first | rfl | skip
        show i_n - (intOf (.int .i64 _)).toNat < i_n - (intOf (.int .i64 _)).toNat
        simp [intOf] <;> omega
      | false =>
        have g1 : ((10 : Int) ≤ yk) = False := eq_false (by have := (fin false rfl).resolve_left (by decide); omega)
        clear fin hps
        go_wp2_with (first
          | (go_at_call 11; (with_reducible refine (HCL.out _).mono ?_); rintro e w5 ⟨rfl, hB5⟩
             have HB5 := Lib.hid (HB.out.trans (((below1 wr _).trans (hB5.mono (below1 wr _).size)).mono HSZ.out))
             have HX5 := Lib.hid ((hB5.block wr.heap.size (by simp)).trans (heap_alloc_new wr _))
             have HQ5 := Lib.hid ((HMB.out.keep (below1 wr _)).keep hB5)
             have y0 := cell_of_row _ _ 0 _ _ _ HX5.out
             have y8 := cell_of_row _ _ 8 _ _ _ HX5.out
             have y5 := cell_of_row _ _ 5 _ _ _ HQ5.out.qx
             clear hB5)
          | fail)
        refine ⟨⟨⟨?_, ?_, ?_, ?_, ?_, ?_⟩, ?_, ?_, j + 1, by omega, ?_, HB5⟩, ?_⟩
        all_goals first | rfl | skip
        show i_n - (intOf (.int .i64 _)).toNat < i_n - (intOf (.int .i64 _)).toNat
        simp [intOf] <;> omega
    · obtain rfl : j = i_n := by omega
      have hjn : ((j : Int) < (j : Int)) = False := eq_false (by omega)
      go_wp2_with fail
      refine HK.out _ _ (HSEG.out _ _ ⟨?_, ?_, ?_, ?_, ?_, ?_⟩ HB.out)
      all_goals rfl
set_option maxRecDepth 100000 in
set_option maxHeartbeats 16000000 in
theorem snd7 (w : World) (qb : Nat) (T : List Int) (B : Option Addr) (cB : Nat) (x0 x1 x2 x3 x4 x7 x8 x9 x10 x11 q0 q1 q4 q8 : Value) (star : Bool) (xA : Option Addr) (xq xc : Nat) (wd : Int) (wA : Option Addr) (wn wc : Nat) (gr : Bool) (iA : Option Addr) (i_n ic : Nat) (oA : Option Addr) (on oc : Nat) (ok : Nat → Prop) (n : Nat) (ps : List Nd) (vs : List (List Value)) (is : List Nd) (us : List (List Value)) (ol : List (Int × Bool)) (a : Act) (W : World) (hS : S3 w qb T B cB a) (hM : M3 w qb #[x0, x1, x2, x3, x4, .bool star, .slice xA xq xc, x7, x8, x9, x10, x11] #[q0, q1, .int .i64 wd, .slice wA wn wc, q4, .bool gr, .slice iA i_n ic, .slice oA on oc, q8] W) (hT : IntsAt W B T) (hln : wn = vs.length) (hC : CellsAt W 10 wA vs) (hN : NdsAt clP ok W n vs ps) (hP : ∀ p ∈ ps, soundR T n p = true ∧ p.kind ≠ 5 ∧ (p.ty = 4 ∨ p.ty = 0)) (hln2 : i_n = us.length) (hC2 : CellsAt W 10 iA us) (hN2 : NdsAt clP ok W n us is) (hP2 : ∀ p ∈ is, soundR T n p = true ∧ (gr = true ∨ p.kind < 10)) (hst : star = true ∨ i_n = xq) (hon : on = ol.length) (hO : CellsAt W 2 oA (ol.map sortL)) (hor : ∀ o ∈ ol, 0 ≤ o.1 ∧ o.1 < wd) : (sfC 7).wp Tryz.prog (bodyPost Tryz.prog Tryz.f3 (RetV (.bool true) w)) a W := by
  have HSEG := Lib.hid (show ∀ a W', S3 w qb T B cB a → Below W.heap.size W W' → (sfC 8).wp Tryz.prog (bodyPost Tryz.prog Tryz.f3 (RetV (.bool true) w)) a W' from fun a W' hS hB => snd8 w qb T B cB x0 x1 x2 x3 x4 x7 x8 x9 x10 x11 q0 q1 q4 q8 star xA xq xc wd wA wn wc gr iA i_n ic oA on oc ok n is us ol a W' hS (hM.keep hB) (hT.keep hB) hln2 (CellsAt.keep hB hC2) (hN2.keep hB) hP2 hst hon (CellsAt.keep hB hO) hor)
  clear hst hon hO hor hln2 hC2 hN2 hP2
  have f0 := cell_of_row _ _ 3 _ _ _ hM.qx
  have HC := Lib.hid hC
  have HN := Lib.hid hN
  have HP := Lib.hid hP
  have HT := Lib.hid hT
  have HLN := Lib.hid hln
  have hqm : wn ≤ 9223372036854775807 := by rw [hln]; exact hC.1
  clear hC hN hP hT hln
  have HM := Lib.hid hM
  clear hM
  obtain ⟨u, hu, hug⟩ := open191 hS.size
  have p2 := hS.s2; have p3 := hS.s3; have p7 := hS.s7; have p9 := hS.s9
  have hdf := hS.df
  rw [hug _ (by omega)] at p2 p3 p7 p9
  obtain ⟨tm, df⟩ := a
  dsimp only at hu hdf
  subst hu hdf
  clear hS hug
  rw [p2, p3, p7, p9]
  clear p2 p3 p7 p9
  conv => arg 2; whnf
  refine wp_seq_k fun K hK => ?_
  have HK := Lib.hid (show ∀ a w', (sfC 8).wp Tryz.prog (bodyPost Tryz.prog Tryz.f3 (RetV (.bool true) w)) a w' → K a w' from hK)
  clear hK
  go_wp2_with fail
  clear f0
  refine wp_loop (fun a' wr => S3 w qb T B cB a' ∧ a'.tmps.getD 114 undef = .slice wA wn wc ∧ a'.tmps.getD 115 undef = .int .i64 wn ∧ ∃ (j : Nat), j ≤ wn ∧ a'.tmps.getD 116 undef = .int .i64 j ∧ Hid (Below W.heap.size W wr)) (fun a' _ => wn - (intOf (a'.tmps.getD 116 undef)).toNat) ?start ?round
  case start =>
    refine ⟨⟨?_, ?_, ?_, ?_, ?_, ?_⟩, ?_, ?_, 0, Nat.zero_le _, ?_, Lib.hid (Below.refl _ _)⟩
    all_goals rfl
  case round =>
    rintro a wr ⟨hS, hsl, hln, j, hj, hix, HB⟩
    obtain ⟨u, hu, hug⟩ := open191 hS.size
    have p2 := hS.s2; have p3 := hS.s3; have p7 := hS.s7; have p9 := hS.s9
    have hdf := hS.df
    rw [hug _ (by omega)] at p2 p3 p7 p9 hsl hln hix
    obtain ⟨tm, df⟩ := a
    dsimp only at hu hdf
    subst hu hdf
    clear hS hug
    rw [p2, p3, p7, p9, hsl, hln, hix]
    clear p2 p3 p7 p9 hsl hln hix
    have HMB := Lib.hid (HM.out.keep HB.out)
    by_cases hjq : j < wn
    · have hjn : ((j : Int) < (wn : Int)) = True := eq_true (by omega)
      obtain ⟨y, hy⟩ : ∃ y, ps[j]? = some y := ⟨_, List.getElem?_eq_getElem (by have := HN.out.1; have := HLN.out; omega)⟩
      obtain ⟨eb, eo, A1, m1, c1, rfl, heb, hN1, hyc⟩ := nd_get HC.out HN.out hy
      have hps := HP.out y (List.mem_of_getElem? hy)
      have HSZ := Lib.hid HB.out.size
      have sf := store_float
      have HCL := Lib.hid (show ∀ O, Calls Tryz.prog 11 #[ndV y (clP y.lit) A1 m1 c1, .slice B T.length cB] (wr.alloc O) (RetV (.bool true) (wr.alloc O)) from fun O => by
        have hB := HB.out.trans ((below1 wr O).mono HB.out.size)
        exact sound_any ok T B cB n y A1 m1 c1 _ (hN1.keep hB) (HT.out.keep hB) hps.1)
      obtain ⟨v, hv⟩ : ∃ v, v = clP y.lit := ⟨_, rfl⟩
      rw [← hv] at HCL hyc
      obtain ⟨vk, vn, vf, vs'⟩ := v
      obtain ⟨yk, hyk⟩ : ∃ k, k = y.kind := ⟨_, rfl⟩
      obtain ⟨yo, hyo⟩ : ∃ k, k = y.op := ⟨_, rfl⟩
      obtain ⟨yp, hyp⟩ : ∃ k, k = y.pos := ⟨_, rfl⟩
      obtain ⟨yn, hyn⟩ : ∃ k, k = y.neg := ⟨_, rfl⟩
      obtain ⟨yt, hyt⟩ : ∃ k, k = y.ty := ⟨_, rfl⟩
      unfold ndV at HCL
      unfold ndL at hyc
      dsimp only at HCL hyc
      rw [← hyk, ← hyo, ← hyp, ← hyn, ← hyt] at HCL hyc
      rw [← hyk, ← hyt] at hps
      have t0 : wr.cell? ⟨eb, eo + j * 10, none⟩ = some (.int .i64 yk) := cell_kept (hyc 0 _ rfl) HB.out
      have t1 := cell_kept (hyc 1 _ rfl) HB.out
      have t2 := cell_kept (hyc 2 _ rfl) HB.out
      have t3 := cell_kept (hyc 3 _ rfl) HB.out
      have t4 := cell_kept (hyc 4 _ rfl) HB.out
      have t5 := cell_kept (hyc 5 _ rfl) HB.out
      have t6 := cell_kept (hyc 6 _ rfl) HB.out
      have t7 := cell_kept (hyc 7 _ rfl) HB.out
      have t8 := cell_kept (hyc 8 _ rfl) HB.out
      have t9 := cell_kept (hyc 9 _ rfl) HB.out
      clear hyc hN1 hy hyk hyo hyp hyn hyt hv
      have hqx := heap_lt HMB.out.qx
      have g1 : (yk == 5) = false := beq_eq_false_iff_ne.2 hps.2.1
      rcases hps.2.2 with rfl | rfl
      · clear hps
        go_wp2_with (first
          | (go_at_call 11; (with_reducible refine (HCL.out _).mono ?_); rintro e w5 ⟨rfl, hB5⟩
             have HB5 := Lib.hid (HB.out.trans (((below1 wr _).trans (hB5.mono (below1 wr _).size)).mono HSZ.out))
             have HX5 := Lib.hid ((hB5.block wr.heap.size (by simp)).trans (heap_alloc_new wr _))
             have HQ5 := Lib.hid ((HMB.out.keep (below1 wr _)).keep hB5)
             have y0 := cell_of_row _ _ 0 _ _ _ HX5.out
             have y8 := cell_of_row _ _ 8 _ _ _ HX5.out
             have y5 := cell_of_row _ _ 5 _ _ _ HQ5.out.qx
             clear hB5)
          | fail)
        refine ⟨⟨⟨?_, ?_, ?_, ?_, ?_, ?_⟩, ?_, ?_, j + 1, by omega, ?_, HB5⟩, ?_⟩
        all_goals first | rfl | skip
        show wn - (intOf (.int .i64 _)).toNat < wn - (intOf (.int .i64 _)).toNat
        simp [intOf] <;> omega
      · clear hps
        go_wp2_with (first
          | (go_at_call 11; (with_reducible refine (HCL.out _).mono ?_); rintro e w5 ⟨rfl, hB5⟩
             have HB5 := Lib.hid (HB.out.trans (((below1 wr _).trans (hB5.mono (below1 wr _).size)).mono HSZ.out))
             have HX5 := Lib.hid ((hB5.block wr.heap.size (by simp)).trans (heap_alloc_new wr _))
             have HQ5 := Lib.hid ((HMB.out.keep (below1 wr _)).keep hB5)
             have y0 := cell_of_row _ _ 0 _ _ _ HX5.out
             have y8 := cell_of_row _ _ 8 _ _ _ HX5.out
             have y5 := cell_of_row _ _ 5 _ _ _ HQ5.out.qx
             clear hB5)
          | fail)
        refine ⟨⟨⟨?_, ?_, ?_, ?_, ?_, ?_⟩, ?_, ?_, j + 1, by omega, ?_, HB5⟩, ?_⟩
        all_goals first | rfl | skip
        show wn - (intOf (.int .i64 _)).toNat < wn - (intOf (.int .i64 _)).toNat
        simp [intOf] <;> omega
    · obtain rfl : j = wn := by omega
      have hjn : ((j : Int) < (j : Int)) = False := eq_false (by omega)
      go_wp2_with fail
      refine HK.out _ _ (HSEG.out _ _ ⟨?_, ?_, ?_, ?_, ?_, ?_⟩ HB.out)
      all_goals rfl
end Go.Proofs.YthdmfaepjemopaaGreatDoor
namespace Go.Proofs.YthdmfaepjemopaaGreatDoor
open Go.RowKit

def BQ (x : Ex) (w : World) (e : Ending) (w' : World) : Prop := e = .returned (.slice (some ⟨w.heap.size + 1, 0, none⟩) 1 1) ∧ Below w.heap.size w w' ∧ w'.heap.size = w.heap.size + 2 ∧ w'.heap[w.heap.size + 1]? = some (.cells (exR x) 41)
set_option maxHeartbeats 16000000 in
theorem both_at (x : Ex) (w : World) : Calls Tryz.prog 85 #[.slice none 0 0, exV x] w (BQ x w) := by
  have sf := store_float
  go_enter Tryz.func85, Tryz.ntmps85
  go_wp2_with fail
  refine bodyPost_ret (v := .slice (some ⟨w.heap.size + 1, 0, none⟩) 1 1) (by simp [results, Tryz.results85, go_sem]) rfl ⟨rfl, (BX.two w _ _).below, by simp, (BX.two w _ _).row 1 _ _ rfl⟩
def CW (w : World) (h b o c : Nat) (z : Int) (x : Ex) (N : Nat) (f3 : Bool) (W : World) : Prop :=
  BX w [.cells (pC b o c z) 99, .cells pZ 99] W ∧ W.heap[h]? = some (.cells (exR x) 41) ∧ XA (w.heap.size + 2) W x ∧ (f3 = false → W.heap.size = N) ∧ (f3 = true → W.heap[N + 1]? = some (.cells (exR x) 41)) ∧ w.heap.size + 2 ≤ N
theorem CW.keep {w : World} {h b o c : Nat} {z : Int} {x : Ex} {N : Nat} {W W' : World} (hC : CW w h b o c z x N false W) (hB : Below W.heap.size W W') (h1 : W'.heap[N + 1]? = some (.cells (exR x) 41)) : CW w h b o c z x N true W' :=
  ⟨hC.1.keep hB, (hB.block _ (heap_lt hC.2.1)).trans hC.2.1, hC.2.2.1.far ((Far.refl _ W).keep hB), fun h => (by cases h), fun _ => h1, hC.2.2.2.2.2⟩
set_option maxHeartbeats 32000000 in
theorem where_one (b o c i : Nat) (z : Int) (hz : z = i) (w : World) (hT : TksAt w b o) (hi : i < 15) (hn : nx i ⟨#[87, 72, 69, 82, 69]⟩ = true) (Φ : Ex → Prop) (zz : Int) (hC : ∀ W, Below w.heap.size w W → Calls Tryz.prog 84 #[pV b o c (z + 1), .int .i64 1, .int .i64 0] W (XP Φ b o c zz W)) : Calls Tryz.prog 59 #[pV b o c z, .slice none 0 0] w (LP Φ b o c zz w) := by
  have HN := Lib.hid (show ∀ W, Below w.heap.size w W → Calls Tryz.prog 53 #[pV b o c z, .string ⟨#[87, 72, 69, 82, 69]⟩] W (RetV (.bool true) W) from fun W hB => by have := next_any b o c i z hz ⟨#[87, 72, 69, 82, 69]⟩ W (hT.keep hB) hi; rwa [hn] at this)
  have HM := Lib.hid (show ∀ W, Below w.heap.size w W → Calls Tryz.prog 55 #[pV b o c z, .string ⟨#[87, 72, 69, 82, 69]⟩] W (RetV (pV b o c (z + 1)) W) from fun W hB => must_yes b o c i z hz _ W (hT.keep hB) hi hn)
  have HC := Lib.hid hC
  clear hT hn hC
  have hz0 : 0 ≤ z := by omega
  have hz15 : z < 15 := by omega
  clear hz hi
  have sf := store_float
  go_enter Tryz.func59, Tryz.ntmps59
  go_upto_region 4 with (first
    | (go_at_call 53; (with_reducible refine Calls.mono (HN.out _ (BX.two w _ _).below) ?_); rintro e w2 ⟨rfl, hB2⟩
       have HB2 := Lib.hid ((BX.two w _ _).keep hB2)
       clear hB2
       obtain ⟨la, ra0, ra1, ra2, ra3, fa0, fa1, fa2, fa3⟩ := HB2.out.p4 0 rfl
       simp only [Nat.add_zero] at la ra0 ra1 ra2 ra3 fa0 fa1 fa2 fa3
)
    | (go_at_call 55; (with_reducible refine Calls.mono (HM.out _ HB2.out.below) ?_); rintro e w3 ⟨rfl, hB3⟩
       have HB3 := Lib.hid (HB2.out.keep hB3)
       clear hB3 la ra0 ra1 ra2 ra3 fa0 fa1 fa2 fa3 HB2)
    | (go_at_call 84; (with_reducible refine Calls.mono (HC.out _ HB3.out.below) ?_); rintro e w4 ⟨x, rfl, hB4, hx, hP⟩
       have HB4 := Lib.hid (HB3.out.keep hB4)
       have HX4 := Lib.hid (hx.mono (m := w.heap.size + 2) (by have := HB3.out.size 1 (by simp); omega))
       have HP := Lib.hid hP
       clear hB4 hx hP HB3
       obtain ⟨lb, rb0, rb1, rb2, rb3, fb0, fb1, fb2, fb3⟩ := HB4.out.p4 0 rfl
       simp only [Nat.add_zero] at lb rb0 rb1 rb2 rb3 fb0 fb1 fb2 fb3
       have hz2 := HB4.out.size 1 (by simp))
    | fail)
  obtain ⟨h, hh⟩ : ∃ h, h = w4.heap.size := ⟨_, rfl⟩
  have K8 := heap_alloc_new ((((w4.setCell ⟨w.heap.size, 0, none⟩ (.slice (some ⟨b, o, none⟩) 15 c)).setCell ⟨w.heap.size, 1, none⟩ (.int .i64 zz)).setCell ⟨w.heap.size, 2, none⟩ (.int .i64 0)).setCell ⟨w.heap.size, 3, none⟩ (.int .i64 0)) (.cells (exR x) 41)
  simp only [World.size_setCell] at K8
  rw [← hh] at K8 ⊢
  have HX5 := HX4.out.far (((Far.refl (w.heap.size + 2) w4).set4 (b := w.heap.size) (by omega) (.slice (some ⟨b, o, none⟩) 15 c) (.int .i64 zz) (.int .i64 0) (.int .i64 0)).alloc (.cells (exR x) 41))
  have HB5 := (HB4.out.setP (k := 0) rfl b o c zz).alloc (.cells (exR x) 41)
  have hN5 : w.heap.size + 2 ≤ (((((w4.setCell ⟨w.heap.size, 0, none⟩ (.slice (some ⟨b, o, none⟩) 15 c)).setCell ⟨w.heap.size, 1, none⟩ (.int .i64 zz)).setCell ⟨w.heap.size, 2, none⟩ (.int .i64 0)).setCell ⟨w.heap.size, 3, none⟩ (.int .i64 0)).alloc (.cells (exR x) 41)).heap.size := by simp only [World.size_alloc, World.size_setCell]; omega
  generalize ((((w4.setCell ⟨w.heap.size, 0, none⟩ (.slice (some ⟨b, o, none⟩) 15 c)).setCell ⟨w.heap.size, 1, none⟩ (.int .i64 zz)).setCell ⟨w.heap.size, 2, none⟩ (.int .i64 0)).setCell ⟨w.heap.size, 3, none⟩ (.int .i64 0)).alloc (.cells (exR x) 41) = w5 at K8 HX5 HB5 hN5 ⊢
  obtain ⟨N, hN⟩ : ∃ N, N = w5.heap.size := ⟨_, rfl⟩
  have HC0 : CW w h b o c zz x N false w5.drew := ⟨HB5.drew, K8, HX5, fun _ => hN.symm, fun h => (by cases h), by omega⟩
  clear hN hN5 HB5 HX5 K8 hh hz2 HB4 HX4 lb rb0 rb1 rb2 rb3 fb0 fb1 fb2 fb3
  refine wp_region_fl (n0 := 4) (n := 22) (fun fl W => CW w h b o c zz x N (fl 3) W) (fun j => (([pV b o c zz, .slice none 0 0, exV x, .slice (some ⟨N + 1, 0, none⟩) 1 1] : List Value)[j]?).getD undef) (by kernel_rfl) (by kernel_rfl) (Nat.le_of_eq rfl) HC0 ?step ?dst ?fin
  case step =>
    intro i o2 hi ho fl a w1 hfl hsb hC hpv
    have : i = 0 ∨ i = 1 ∨ i = 2 ∨ i = 3 := by omega
    rcases this with rfl | rfl | rfl | rfl
    · obtain rfl := Option.some.inj (ho.symm.trans (List.getElem?_toArray.trans rfl))
      have s2 : a.tmps[2]?.getD undef = .pointer (some ⟨w.heap.size, 0, none⟩) := hsb.get 2 (by kernel_rfl) rfl
      obtain ⟨la, ra0, ra1, ra2, ra3, -⟩ := hC.1.p4 0 rfl
      simp only [Nat.add_zero] at la ra0 ra1 ra2 ra3
      go_simp
      all_goals first | exact ⟨rfl, hC⟩ | exact rfl
    · obtain rfl := Option.some.inj (ho.symm.trans (List.getElem?_toArray.trans rfl))
      have s1 : a.tmps[1]?.getD undef = .slice none 0 0 := hsb.get 1 (by kernel_rfl) rfl
      go_simp
      all_goals first | exact ⟨rfl, hC⟩ | exact rfl
    · obtain rfl := Option.some.inj (ho.symm.trans (List.getElem?_toArray.trans rfl))
      have s6 : a.tmps[6]?.getD undef = .pointer (some ⟨h, 0, none⟩) := hsb.get 6 (by kernel_rfl) rfl
      obtain ⟨t0, t1, t2, t3, t4, t5, t6, t7, t8, t9⟩ := row10 hC.2.1
      go_simp
      all_goals first | exact ⟨rfl, hC⟩ | exact rfl
    · obtain rfl := Option.some.inj (ho.symm.trans (List.getElem?_toArray.trans rfl))
      have d19 : a.tmps[19]?.getD undef = .slice none 0 0 := (leftAt_get 19 rfl).trans (hpv ⟨1, .data⟩ (by simp) rfl (by decide))
      have d20 : a.tmps[20]?.getD undef = exV x := (leftAt_get 20 rfl).trans (hpv ⟨2, .data⟩ (by simp) rfl (by decide))
      have hsz := hC.2.2.2.1 hfl
      have hC3 : CW w h b o c zz x N (fl 3) w1 := hC
      rw [hfl] at hC3
      have HB := both_at x w1
      unfold BQ at HB
      rw [hsz] at HB
      have HZ := Lib.hid hsz
      clear hsz hC
      go_simp
      go_at_call 85
      with_reducible refine Calls.mono HB ?_
      rintro e w2 ⟨rfl, hB, _, hblk⟩
      exact ⟨rfl, hC3.keep (by rw [HZ.out]; exact hB) hblk⟩
  case dst =>
    intro i o2 hi ho hd
    have : i = 0 ∨ i = 1 ∨ i = 2 ∨ i = 3 := by omega
    rcases this with rfl | rfl | rfl | rfl <;> (obtain rfl := Option.some.inj (ho.symm.trans (List.getElem?_toArray.trans rfl)); cases hd)
  case fin =>
    intro fl a w1 hsb hfl hC hpv
    have hC3 : CW w h b o c zz x N (fl 3) w1 := hC
    rw [hfl 3 (by omega)] at hC3
    have d18 : a.tmps[18]?.getD undef = pV b o c zz := (leftAt_get 18 rfl).trans (hpv 0 (by omega))
    have d21 : a.tmps[21]?.getD undef = .slice (some ⟨N + 1, 0, none⟩) 1 1 := (leftAt_get 21 rfl).trans (hpv 3 (by omega))
    have s4 : a.tmps[4]?.getD undef = .pointer (some ⟨w.heap.size + 1, 0, none⟩) := hsb.get 4 (by kernel_rfl) rfl
    have hdf : a.defers = [] := hsb.1
    have HSZ := Lib.hid (show a.tmps.size = 22 from hsb.2.1)
    obtain ⟨lb, rb0, rb1, rb2, rb3, fb0, fb1, fb2, fb3⟩ := hC3.1.p4 1 rfl
    have HF := hC3.1.setP (k := 1) rfl b o c zz
    have hN := hC3.2.2.2.2.2
    have hfar := (Far.refl (w.heap.size + 2) w1).set4 (b := w.heap.size + 1) (by omega) (.slice (some ⟨b, o, none⟩) 15 c) (.int .i64 zz) (.int .i64 0) (.int .i64 0)
    have hSX : SX (w.heap.size + 2) w1 (some ⟨N + 1, 0, none⟩) x := ⟨N + 1, 41, rfl, by omega, hC3.2.2.2.2.1 rfl, hC3.2.2.1⟩
    have HS2 := hSX.far hfar
    clear hpv hC hC3 hsb hSX hfar
    simp only [List.drop_succ_cons, List.drop_zero]
    refine wpList_plain rfl fun R1 hR1 => ?_
    go_simp
    refine hR1 _ _ ?_
    refine wpList_plain rfl fun R2 hR2 => ?_
    go_simp
    refine hR2 _ _ ?_
    change Exit.then _ _ Exit.normal _ _
    simp only [Exit.then]
    rename_i K hK
    exact hK _ _ (wp_ret (bodyPost_ret (res_ps (fn := Tryz.f59) rfl ((put_ne (a := a) (t := 5) (by decide)).trans s4) (put_same (a := a) (t := 5) (by rw [HSZ.out]; decide)) (HF.row 1 _ _ rfl)) rfl ⟨_, x, rfl, HF.below, HS2.mono (by omega), HP.out⟩))
end Go.Proofs.YthdmfaepjemopaaGreatDoor
namespace Go.Proofs.YthdmfaepjemopaaGreatDoor
open Go.RowKit

theorem info60 : (Tryz.prog.info? 60).map (fun i => (i.zero, i.size, i.bytes)) = some (some (.agg #[.string ⟨#[]⟩, .string ⟨#[]⟩]), 2, 32) := by kernel_rfl
structure CTb (w : World) (h b o c : Nat) (z : Int) (s : ByteArray) (v : Value) (n : Nat) (xs : List Value) (W : World) : Prop where
  bx : BX w [.cells (pC b o c z) 99, .cells pZ 99] W
  t : W.heap[h]? = some (.cells #[.string s, .string s] 60)
  own : W.ownsRow (w.heap.size + 2) 60 2 v n xs
  ne : v.ownBlock ≠ some h
  far : w.heap.size + 2 ≤ h
theorem CTb.keep {w : World} {h b o c : Nat} {z : Int} {s : ByteArray} {v : Value} {n : Nat} {xs : List Value} {W W' : World} (hc : CTb w h b o c z s v n xs W) (hB : Below W.heap.size W W') : CTb w h b o c z s v n xs W' :=
  ⟨hc.bx.keep hB, (hB.block _ (heap_lt hc.t)).trans hc.t, own_kept hc.own hB (Nat.le_refl _), hc.ne, hc.far⟩
theorem own_ne {W : World} {base e K n : Nat} {v : Value} {xs : List Value} (h : W.ownsRow base e K v n xs) {b i : Nat} (hb : v.ownBlock ≠ some b) (u : Value) : (W.setCell ⟨b, i, none⟩ u).ownsRow base e K v n xs :=
  ⟨h.1, h.2.imp id fun ⟨g, cap, cur, e1, e2, e3, e4⟩ => ⟨g, cap, cur, e1, e2, (heap_setFar u (fun e => hb (by rw [e1, ← e]; rfl))).trans e3, e4⟩⟩
theorem BX.grown {w W W' : World} {bs : List Obj} (h : BX w bs W) {r : Option Nat} (hg : W.grownBy W' r) (hr : ∀ b, r = some b → w.heap.size + bs.length ≤ b) : BX w bs W' := by
  refine ⟨h.1.grown hg h.1.size (fun b e => by have := hr b e; omega), fun k o hk => ?_⟩
  have hl := (List.getElem?_eq_some_iff.1 hk).1
  exact (hg.block _ (heap_lt (h.2 k o hk)) (fun e => by have := hr _ e.symm; omega)).trans (h.2 k o hk)
theorem CTb.put {w : World} {h b o c : Nat} {z z2 : Int} {s s2 : ByteArray} {v : Value} {n : Nat} {xs : List Value} {W : World} (hc : CTb w h b o c z s v n xs W) : CTb w h b o c z2 s2 v n xs ((((((W.setCell ⟨w.heap.size, 0, none⟩ (.slice (some ⟨b, o, none⟩) 15 c)).setCell ⟨w.heap.size, 1, none⟩ (.int .i64 z2)).setCell ⟨w.heap.size, 2, none⟩ (.int .i64 0)).setCell ⟨w.heap.size, 3, none⟩ (.int .i64 0)).setCell ⟨h, 0, none⟩ (.string s2)).setCell ⟨h, 1, none⟩ (.string s2)) := by
  have hf := hc.far
  have hv : v.ownBlock ≠ some w.heap.size := fun e => by have := (own_base hc.own _ e).1; omega
  have b1 := (((hc.bx.setP (k := 0) rfl b o c z2).out (b := h) (i := 0) (v := .string s2) hf).out (b := h) (i := 1) (v := .string s2) hf)
  have t0 := (heap_far4 (b := w.heap.size) (g := h) (by omega) (v0 := .slice (some ⟨b, o, none⟩) 15 c) (v1 := .int .i64 z2) (v2 := .int .i64 0) (v3 := .int .i64 0)).trans hc.t
  refine ⟨b1, ?_, own_ne (own_ne (own_ne (own_ne (own_ne (own_ne hc.own hv _) hv _) hv _) hv _) hc.ne _) hc.ne _, hc.ne, hf⟩
  have key : ∀ (V : World) (cs : Array Value) (i : Nat) (x : Value), V.heap[h]? = some (.cells cs 60) → (V.setCell ⟨h, i, none⟩ x).heap[h]? = some (.cells (cs.setIfInBounds i x) 60) := fun V cs i x hV => by
    rw [setCell_eq_setRow V _ i _ 60 _ _ hV]
    exact setRow_heap V _ _ _ 60 _ hV
  exact key _ _ 1 (.string s2) (key _ _ 0 (.string s2) t0)
theorem CTb.app {w : World} {h b o c : Nat} {z : Int} {s : ByteArray} {v v2 : Value} {n n2 : Nat} {xs xs2 : List Value} {W W2 : World} (hc : CTb w h b o c z s v n xs W) (hown : W2.ownsRow (w.heap.size + 2) 60 2 v2 n2 xs2) (hg : W.grownBy W2 v.ownBlock) (hv : v2.ownBlock = v.ownBlock ∨ v2.ownBlock = some W.heap.size) : CTb w h b o c z s v2 n2 xs2 W2 := by
  have hl := heap_lt hc.t
  refine ⟨hc.bx.grown hg (fun b e => (own_base hc.own b e).1), (hg.block _ hl (fun e => hc.ne e.symm)).trans hc.t, hown, fun e => ?_, hc.far⟩
  rcases hv with hv | hv
  · exact hc.ne (hv ▸ e)
  · rw [hv] at e
    have := Option.some.inj e
    omega
theorem res_pss {fn : Func} {i j k : Nat} (h : fn.results = #[.cell i 99, .tmp j, .tmp k]) {tm : Array Value} {W : World} {pb : Nat} {s t : Value} (hp : tm[i]?.getD undef = .pointer (some ⟨pb, 0, none⟩)) (he : tm[j]?.getD undef = s) (hf : tm[k]?.getD undef = t) {v0 v1 v2 v3 : Value} {ty : TypeId} (h1 : W.heap[pb]? = some (.cells #[v0, v1, v2, v3] ty)) :
    (results fn tm).run Tryz.prog W = .ok (.tuple #[.agg #[v0, v1, v2, v3], s, t]) W := by
  obtain ⟨a0, a1, a2, a3⟩ := row4 h1
  simp [results, h, go_sem, hp, he, hf, a0, a1, a2, a3]
def lenV : Value → Nat
  | .slice _ n _ => n
  | _ => 0
def wT : ByteArray := ⟨#[116]⟩
def wU : ByteArray := ⟨#[117]⟩
set_option maxHeartbeats 32000000 in
theorem tables_two (b o c : Nat) (w : World) (hT : TksAt w b o) : Calls Tryz.prog 80 #[pV b o c 3] w (fun e w' => ∃ (A : Option Addr) (k : Nat), e = .returned (.tuple #[pV b o c 6, .slice A 2 k, .slice none 0 0]) ∧ Below w.heap.size w w' ∧ w'.ownsRow w.heap.size 60 2 (.slice A 2 k) 2 [.string wT, .string wT, .string wU, .string wU]) := by
  have HF1 := Lib.hid (show ∀ W, Below w.heap.size w W → Calls Tryz.prog 94 #[pV b o c 3] W (RetV (.tuple #[pV b o c 4, .agg #[.string wT, .string wT]]) W) from fun W hB => from_yes b o c 3 3 rfl wT 14 W (hT.keep hB) rfl (by omega) (by decide +kernel))
  have HF2 := Lib.hid (show ∀ W, Below w.heap.size w W → Calls Tryz.prog 94 #[pV b o c 5] W (RetV (.tuple #[pV b o c 6, .agg #[.string wU, .string wU]]) W) from fun W hB => from_yes b o c 5 5 rfl wU 17 W (hT.keep hB) rfl (by omega) (by decide +kernel))
  have HN4 := Lib.hid (show ∀ W, Below w.heap.size w W → Calls Tryz.prog 53 #[pV b o c 4, .string ⟨#[44]⟩] W (RetV (.bool true) W) from fun W hB => by have := next_any b o c 4 4 rfl ⟨#[44]⟩ W (hT.keep hB) (by omega); rwa [show nx 4 ⟨#[44]⟩ = true by decide +kernel] at this)
  have HN6 := Lib.hid (show ∀ W, Below w.heap.size w W → Calls Tryz.prog 53 #[pV b o c 6, .string ⟨#[44]⟩] W (RetV (.bool false) W) from fun W hB => by have := next_any b o c 6 6 rfl ⟨#[44]⟩ W (hT.keep hB) (by omega); rwa [show nx 6 ⟨#[44]⟩ = false by decide +kernel] at this)
  have HJ6 := Lib.hid (show ∀ W, Below w.heap.size w W → Calls Tryz.prog 53 #[pV b o c 6, .string ⟨#[74, 79, 73, 78]⟩] W (RetV (.bool false) W) from fun W hB => by have := next_any b o c 6 6 rfl ⟨#[74, 79, 73, 78]⟩ W (hT.keep hB) (by omega); rwa [show nx 6 ⟨#[74, 79, 73, 78]⟩ = false by decide +kernel] at this)
  have HM4 := Lib.hid (show ∀ W, Below w.heap.size w W → Calls Tryz.prog 55 #[pV b o c 4, .string ⟨#[44]⟩] W (RetV (pV b o c 5) W) from fun W hB => must_yes b o c 4 4 rfl _ W (hT.keep hB) (by omega) (by decide +kernel))
  clear hT
  obtain ⟨sT, hsT⟩ : ∃ s, s = wT := ⟨_, rfl⟩
  obtain ⟨sU, hsU⟩ : ∃ s, s = wU := ⟨_, rfl⟩
  rw [← hsT] at HF1
  rw [← hsU] at HF2
  rw [← hsT, ← hsU]
  clear hsT hsU
  go_enter Tryz.func80, Tryz.ntmps80
  go_wp2_with (first
    | (go_at_call 94; (with_reducible refine Calls.mono (HF1.out _ (BX.two w _ _).below) ?_); rintro e w2 ⟨rfl, hB2⟩
       have HB2 := Lib.hid ((BX.two w _ _).keep hB2)
       clear hB2
       obtain ⟨la, ra0, ra1, ra2, ra3, fa0, fa1, fa2, fa3⟩ := HB2.out.p4 0 rfl
       simp only [Nat.add_zero] at la ra0 ra1 ra2 ra3 fa0 fa1 fa2 fa3
       have hz2 := HB2.out.size 1 (by simp))
    | fail)
  have HC := Lib.hid (show CTb w w2.heap.size b o c 4 sT (.slice (some ⟨w2.heap.size + 1, 0, none⟩) 1 1) 1 [.string sT, .string sT] ((((((w2.setCell ⟨w.heap.size, 0, none⟩ (.slice (some ⟨b, o, none⟩) 15 c)).setCell ⟨w.heap.size, 1, none⟩ (.int .i64 4)).setCell ⟨w.heap.size, 2, none⟩ (.int .i64 0)).setCell ⟨w.heap.size, 3, none⟩ (.int .i64 0)).alloc (.cells #[.string sT, .string sT] 60)).alloc (.cells #[.string sT, .string sT] 60)) from by
    have K1 := heap_alloc_new ((((w2.setCell ⟨w.heap.size, 0, none⟩ (.slice (some ⟨b, o, none⟩) 15 c)).setCell ⟨w.heap.size, 1, none⟩ (.int .i64 4)).setCell ⟨w.heap.size, 2, none⟩ (.int .i64 0)).setCell ⟨w.heap.size, 3, none⟩ (.int .i64 0)) (.cells #[.string sT, .string sT] 60)
    have K2 := heap_alloc_new (((((w2.setCell ⟨w.heap.size, 0, none⟩ (.slice (some ⟨b, o, none⟩) 15 c)).setCell ⟨w.heap.size, 1, none⟩ (.int .i64 4)).setCell ⟨w.heap.size, 2, none⟩ (.int .i64 0)).setCell ⟨w.heap.size, 3, none⟩ (.int .i64 0)).alloc (.cells #[.string sT, .string sT] 60)) (.cells #[.string sT, .string sT] 60)
    simp only [World.size_alloc, World.size_setCell] at K1 K2
    refine ⟨((HB2.out.setP (k := 0) rfl b o c 4).alloc _).alloc _, (heap_alloc_old _ _ (by simp)).trans K1, ⟨rfl, Or.inr ⟨w2.heap.size + 1, 1, _, rfl, by omega, K2, Nat.le_refl _, by decide, rfl, rfl⟩⟩, fun h => ?_, by omega⟩
    have := Option.some.inj h
    simp at this)
  obtain ⟨h, hh⟩ : ∃ h, h = w2.heap.size := ⟨_, rfl⟩
  rw [← hh] at HC ⊢
  generalize ((((((w2.setCell ⟨w.heap.size, 0, none⟩ (.slice (some ⟨b, o, none⟩) 15 c)).setCell ⟨w.heap.size, 1, none⟩ (.int .i64 4)).setCell ⟨w.heap.size, 2, none⟩ (.int .i64 0)).setCell ⟨w.heap.size, 3, none⟩ (.int .i64 0)).alloc (.cells #[.string sT, .string sT] 60)).alloc (.cells #[.string sT, .string sT] 60)) = w3 at HC ⊢
  clear hz2 HB2 hh la ra0 ra1 ra2 ra3 fa0 fa1 fa2 fa3
  obtain ⟨v, hv⟩ : ∃ v : Value, v = .slice (some ⟨h + 1, 0, none⟩) 1 1 := ⟨_, rfl⟩
  rw [← hv] at HC ⊢
  have HV := Lib.hid hv
  clear hv
  go_loopw [6, 7] (fun x y wr => y = .slice none 0 0 ∧ ((x = v ∧ Hid (CTb w h b o c 4 sT v 1 [.string sT, .string sT] wr)) ∨ (∃ (A : Option Addr) (k : Nat), x = .slice A 2 k ∧ Hid (CTb w h b o c 6 sU (.slice A 2 k) 2 [.string sT, .string sT, .string sU, .string sU] wr)))) (fun x _ _ => 2 - lenV x)
  case atStart => exact ⟨rfl, Or.inl ⟨rfl, HC⟩⟩
  case round =>
    clear HC
    obtain ⟨wo, rfl⟩ : ∃ wo : World, wo = wr := ⟨_, rfl⟩
    rcases hrel with ⟨rfl, ⟨rfl, HC⟩ | ⟨A, k, rfl, HC⟩⟩
    · obtain ⟨la, ra0, ra1, ra2, ra3, fa0, fa1, fa2, fa3⟩ := HC.out.bx.p4 0 rfl
      simp only [Nat.add_zero] at la ra0 ra1 ra2 ra3 fa0 fa1 fa2 fa3
      go_upto_region 7 with (first
        | (go_at_call 53; (with_reducible refine Calls.mono (HN4.out _ HC.out.bx.below) ?_); rintro e w5 ⟨rfl, hB5⟩
           have HC5 := Lib.hid (HC.out.keep hB5)
           clear hB5 la ra0 ra1 ra2 ra3 fa0 fa1 fa2 fa3
           obtain ⟨lb, rb0, rb1, rb2, rb3, fb0, fb1, fb2, fb3⟩ := HC5.out.bx.p4 0 rfl
           simp only [Nat.add_zero] at lb rb0 rb1 rb2 rb3 fb0 fb1 fb2 fb3
)
        | (go_at_call 53; (with_reducible refine Calls.mono (HN4.out _ HC5.out.bx.below) ?_); rintro e w6 ⟨rfl, hB6⟩
           have HC6 := Lib.hid (HC5.out.keep hB6)
           clear hB6 lb rb0 rb1 rb2 rb3 fb0 fb1 fb2 fb3
           obtain ⟨lc, rc0, rc1, rc2, rc3, fc0, fc1, fc2, fc3⟩ := HC6.out.bx.p4 0 rfl
           simp only [Nat.add_zero] at lc rc0 rc1 rc2 rc3 fc0 fc1 fc2 fc3
)
        | (go_at_call 55; (with_reducible refine Calls.mono (HM4.out _ HC6.out.bx.below) ?_); rintro e w7 ⟨rfl, hB7⟩
           have HC7 := Lib.hid (HC6.out.keep hB7)
           clear hB7 lc rc0 rc1 rc2 rc3 fc0 fc1 fc2 fc3)
        | (go_at_call 94; (with_reducible refine Calls.mono (HF2.out _ HC7.out.bx.below) ?_); rintro e w8 ⟨rfl, hB8⟩
           have HC8 := Lib.hid (HC7.out.keep hB8)
           have HC9 := Lib.hid (show CTb w h b o c 6 sU _ 1 [.string sT, .string sT] ((((((w8.setCell ⟨w.heap.size, 0, none⟩ (.slice (some ⟨b, o, none⟩) 15 c)).setCell ⟨w.heap.size, 1, none⟩ (.int .i64 6)).setCell ⟨w.heap.size, 2, none⟩ (.int .i64 0)).setCell ⟨w.heap.size, 3, none⟩ (.int .i64 0)).setCell ⟨h, 0, none⟩ (.string sU)).setCell ⟨h, 1, none⟩ (.string sU)) from HC8.out.put)
           clear hB8
           have t0 := cell_of_row _ _ 0 _ _ _ HC8.out.t
           have t1 := cell_of_row _ _ 1 _ _ _ HC8.out.t
           have y0 := frozen_of_row _ _ 0 _ _ HC8.out.t
           have y1 := frozen_of_row _ _ 1 _ _ HC8.out.t
           have hlt := heap_lt HC8.out.t
           have hfar := HC8.out.far
           have n1 : h ≠ w.heap.size := by omega
           have n2 : w.heap.size ≠ h := by omega
           obtain ⟨ld, rd0, rd1, rd2, rd3, fd0, fd1, fd2, fd3⟩ := HC8.out.bx.p4 0 rfl
           simp only [Nat.add_zero] at ld rd0 rd1 rd2 rd3 fd0 fd1 fd2 fd3
)
        | fail)
      clear HC8 t0 t1 y0 y1 hlt n1 n2 ld rd0 rd1 rd2 rd3 fd0 fd1 fd2 fd3
      generalize ((((((w8.setCell ⟨w.heap.size, 0, none⟩ (.slice (some ⟨b, o, none⟩) 15 c)).setCell ⟨w.heap.size, 1, none⟩ (.int .i64 6)).setCell ⟨w.heap.size, 2, none⟩ (.int .i64 0)).setCell ⟨w.heap.size, 3, none⟩ (.int .i64 0)).setCell ⟨h, 0, none⟩ (.string sU)).setCell ⟨h, 1, none⟩ (.string sU)) = w10 at HC9 ⊢
      have t0 := cell_of_row _ _ 0 _ _ _ HC9.out.t
      have t1 := cell_of_row _ _ 1 _ _ _ HC9.out.t
      have hz10 := HC9.out.bx.size 1 (by simp)
      go_wp2_with (first
        | (at_builtin
           refine list_one 30 60 2 32 (.agg #[.string ⟨#[]⟩, .string ⟨#[]⟩]) Tryz.underlying30 info60 rfl (by omega) (by omega) _ rfl _ _ rfl (w.heap.size + 2) _ 1 [.string sT, .string sT] rfl (HC9.out.keep (below1 w10 _)).own _ 1 [.string sU, .string sU] rfl rfl rfl (heap_alloc_new w10 _) ?c3 ?c4 ?_)
        | fail)
      case c3 => omega
      case c4 => simp only [World.size_alloc]; omega
      intro v9 w9 hown hgr hv9
      have HC10 := Lib.hid ((HC9.out.keep (below1 w10 _)).app hown hgr (by rw [World.size_alloc]; exact hv9))
      obtain ⟨A9, c9, rfl⟩ := own_slice hown
      clear hown hgr hv9
      go_wp2_with fail
      go_roundw
      case rel => exact ⟨rfl, Or.inr ⟨_, _, rfl, HC10⟩⟩
      case measure => rw [HV.out]; simp [lenV]
    · obtain ⟨la, ra0, ra1, ra2, ra3, fa0, fa1, fa2, fa3⟩ := HC.out.bx.p4 0 rfl
      simp only [Nat.add_zero] at la ra0 ra1 ra2 ra3 fa0 fa1 fa2 fa3
      go_wp2_with (first
        | (go_at_call 53; (with_reducible refine Calls.mono (HN6.out _ HC.out.bx.below) ?_); rintro e w5 ⟨rfl, hB5⟩
           have HC5 := Lib.hid (HC.out.keep hB5)
           clear hB5 la ra0 ra1 ra2 ra3 fa0 fa1 fa2 fa3
           obtain ⟨lb, rb0, rb1, rb2, rb3, fb0, fb1, fb2, fb3⟩ := HC5.out.bx.p4 0 rfl
           simp only [Nat.add_zero] at lb rb0 rb1 rb2 rb3 fb0 fb1 fb2 fb3
)
        | (go_at_call 53; (with_reducible refine Calls.mono (HJ6.out _ HC5.out.bx.below) ?_); rintro e w6 ⟨rfl, hB6⟩
           have HC6 := Lib.hid (HC5.out.keep hB6)
           clear hB6 lb rb0 rb1 rb2 rb3 fb0 fb1 fb2 fb3
           obtain ⟨lc, rc0, rc1, rc2, rc3, fc0, fc1, fc2, fc3⟩ := HC6.out.bx.p4 0 rfl
           simp only [Nat.add_zero] at lc rc0 rc1 rc2 rc3 fc0 fc1 fc2 fc3
           obtain ⟨le, re0, re1, re2, re3, fe0, fe1, fe2, fe3⟩ := HC6.out.bx.p4 1 rfl
)
        | fail)
      have HF := HC6.out.bx.setP (k := 1) rfl b o c 6
      have hown := own_ne (own_ne (own_ne (own_ne HC6.out.own (b := w.heap.size + 1) (i := 0) (fun e => by have := (own_base HC6.out.own _ e).1; omega) (.slice (some ⟨b, o, none⟩) 15 c)) (b := w.heap.size + 1) (i := 1) (fun e => by have := (own_base HC6.out.own _ e).1; omega) (.int .i64 6)) (b := w.heap.size + 1) (i := 2) (fun e => by have := (own_base HC6.out.own _ e).1; omega) (.int .i64 0)) (b := w.heap.size + 1) (i := 3) (fun e => by have := (own_base HC6.out.own _ e).1; omega) (.int .i64 0)
      exact bodyPost_ret (res_pss (fn := Tryz.f80) rfl rfl rfl rfl (HF.row 1 _ _ rfl)) rfl ⟨A, k, rfl, HF.below, own_low hown (by omega)⟩
end Go.Proofs.YthdmfaepjemopaaGreatDoor
