/- The walk of strconv's ftoa64: a number that is not zero. -/
import Derived.StillTailTactics
import Derived.Test.YtoafiombpokpaaaGreatDoorFtoA
namespace Go.Proofs.YtoafiombpokpaaaGreatDoor
open Go.RowKit

/-- the tables, in the blocks below B -/
structure Tabs (P : Nat → Nat) (B : Nat) (w : World) : Prop where
  pow : PowAt P w
  ten : Lib.TabIs Tryz.prog w "internal/strconv.uint64pow10" .u64 Lib.pow10Tab
theorem zeros32_at (t : Nat) (h : t < 32) : (#[.int .u8 0, .int .u8 0, .int .u8 0, .int .u8 0, .int .u8 0, .int .u8 0, .int .u8 0, .int .u8 0, .int .u8 0, .int .u8 0, .int .u8 0, .int .u8 0, .int .u8 0, .int .u8 0, .int .u8 0, .int .u8 0, .int .u8 0, .int .u8 0, .int .u8 0, .int .u8 0, .int .u8 0, .int .u8 0, .int .u8 0, .int .u8 0, .int .u8 0, .int .u8 0, .int .u8 0, .int .u8 0, .int .u8 0, .int .u8 0, .int .u8 0, .int .u8 0] : Array Value)[t]? = some (.int .u8 0) := by
  have e : (#[.int .u8 0, .int .u8 0, .int .u8 0, .int .u8 0, .int .u8 0, .int .u8 0, .int .u8 0, .int .u8 0, .int .u8 0, .int .u8 0, .int .u8 0, .int .u8 0, .int .u8 0, .int .u8 0, .int .u8 0, .int .u8 0, .int .u8 0, .int .u8 0, .int .u8 0, .int .u8 0, .int .u8 0, .int .u8 0, .int .u8 0, .int .u8 0, .int .u8 0, .int .u8 0, .int .u8 0, .int .u8 0, .int .u8 0, .int .u8 0, .int .u8 0, .int .u8 0] : Array Value) = Array.replicate 32 (.int .u8 0) := rfl
  rw [e, Array.getElem?_replicate, if_pos h]
theorem tab_keep {w W : World} (h : Lib.TabIs Tryz.prog w "internal/strconv.uint64pow10" .u64 Lib.pow10Tab) (hb : Below w.heap.size w W) : Lib.TabIs Tryz.prog W "internal/strconv.uint64pow10" .u64 Lib.pow10Tab := by
  have hg : Tryz.prog.globalNamed "internal/strconv.uint64pow10" = some 1 := Tryz.laysM284.m17
  unfold Lib.TabIs World.var? at *
  rw [hg] at h ⊢
  simp only [Option.bind_some] at h ⊢
  have hlt : 1 < w.heap.size := by
    apply Classical.byContradiction
    intro hc
    rw [Array.getElem?_eq_none (by omega)] at h
    cases h
  rw [hb.block 1 hlt]
  exact h
theorem dig_of {w0 : World} {B : Nat} {v : Value} {w w3 : World} {nd d : Nat} (hO : OwnB w B v []) (hb : Below B w0 w) (hB : B ≤ w.heap.size) (h1 : Below w.heap.size w w3) (h2 : w.heap.size < w3.heap.size) (hd : ∀ t, t < nDig d → w3.cell? ⟨w.heap.size, t, none⟩ = some (byV (dgF d t))) (hn : nd ≤ nDig d) : FE w0 B w.heap.size nd (dgF d) v [] w3 :=
  ⟨hb.trans (h1.mono hB), Nat.le_trans hB h1.size, own_kept hO h1 (Nat.le_refl _), fun t ht => hd t (by omega), h2, fun e => by have := (own_base hO _ e).2; omega⟩
set_option maxRecDepth 100000 in
set_option maxHeartbeats 8000000 in
theorem fa_rest (P : Nat → Nat) (m n s d : Nat) (q : Int) (hm0 : (m : Int) ≠ 0) (hm : m < 9007199254740992) (hn : n = Lib.bitLen m) (hs : (s : Int) = 64 - n) (hn1 : n ≤ 64) (e : Int) (he : -1022 ≤ e ∧ e ≤ 1023)
    (HS : ∀ w, PowAt P w → 8 < w.heap.size → Calls Tryz.prog 87 #[.int .u64 (IntKind.u64.wrap ((m : Int) * 2 ^ s)), .int .i64 (e - s - 52)] w (SFO w d q)) (hd : d < 18446744073709551616) (hq1 : -400 ≤ q) (hq2 : q ≤ 400)
    (w0 : World) (B : Nat) (v : Value) (neg : Bool) (a : Act) (w : World) (hS : S55 v neg m e a) (hO : OwnB w B v []) (hb : Below B w0 w) (hB : B ≤ w.heap.size) (h8 : 8 < B) (hP : PowAt P w) (hT : Lib.TabIs Tryz.prog w "internal/strconv.uint64pow10" .u64 Lib.pow10Tab) (L : List UInt8) (hL : L = fmtL neg (dgF d) ((nDig d : Int) + q) (cutN (dgF d) (nDig d))) :
    (aC 10).wp Tryz.prog (bodyPost Tryz.prog Tryz.f55 (FmtO w0 B L)) a w := by
  have HO := Lib.hid hO
  have HB := Lib.hid hb
  have HW := Lib.hid (And.intro hB h8)
  obtain ⟨w1, hw1⟩ : ∃ w1, w1 = w.alloc (.cells #[.int .u8 0, .int .u8 0, .int .u8 0, .int .u8 0, .int .u8 0, .int .u8 0, .int .u8 0, .int .u8 0, .int .u8 0, .int .u8 0, .int .u8 0, .int .u8 0, .int .u8 0, .int .u8 0, .int .u8 0, .int .u8 0, .int .u8 0, .int .u8 0, .int .u8 0, .int .u8 0, .int .u8 0, .int .u8 0, .int .u8 0, .int .u8 0, .int .u8 0, .int .u8 0, .int .u8 0, .int .u8 0, .int .u8 0, .int .u8 0, .int .u8 0, .int .u8 0] 103) := ⟨_, rfl⟩
  have HB1 := Lib.hid (show Below w.heap.size w w1 from by rw [hw1]; exact below1 w _)
  have HZ1 := Lib.hid (show w1.heap.size = w.heap.size + 1 from by rw [hw1]; simp)
  have HR1 := Lib.hid (show w1.heap[w.heap.size]? = some (.cells #[.int .u8 0, .int .u8 0, .int .u8 0, .int .u8 0, .int .u8 0, .int .u8 0, .int .u8 0, .int .u8 0, .int .u8 0, .int .u8 0, .int .u8 0, .int .u8 0, .int .u8 0, .int .u8 0, .int .u8 0, .int .u8 0, .int .u8 0, .int .u8 0, .int .u8 0, .int .u8 0, .int .u8 0, .int .u8 0, .int .u8 0, .int .u8 0, .int .u8 0, .int .u8 0, .int .u8 0, .int .u8 0, .int .u8 0, .int .u8 0, .int .u8 0, .int .u8 0] 103) from by rw [hw1]; exact heap_alloc_new w _)
  have HT := Lib.hid (tab_keep hT HB1.out)
  have HP := Lib.hid (hP.keep HB1.out)
  have HL := Lib.hid hL
  have HS := Lib.hid HS
  have HM := Lib.hid hm
  have HQ := Lib.hid (And.intro hq1 hq2)
  have HD := Lib.hid hd
  have e0 : w.alloc (.cells #[.int .u8 0, .int .u8 0, .int .u8 0, .int .u8 0, .int .u8 0, .int .u8 0, .int .u8 0, .int .u8 0, .int .u8 0, .int .u8 0, .int .u8 0, .int .u8 0, .int .u8 0, .int .u8 0, .int .u8 0, .int .u8 0, .int .u8 0, .int .u8 0, .int .u8 0, .int .u8 0, .int .u8 0, .int .u8 0, .int .u8 0, .int .u8 0, .int .u8 0, .int .u8 0, .int .u8 0, .int .u8 0, .int .u8 0, .int .u8 0, .int .u8 0, .int .u8 0] 103) = w1 := hw1.symm
  have HLN := Lib.hid (fun W => show Calls Tryz.prog 62 #[.int .u64 (m : Int)] W fun e w' => e = .returned (.int .i64 n) ∧ w' = W from by
    have h := Tryz.bits_Len64 (m : Int) W (by omega) (by omega)
    rw [Int.toNat_natCast, ← hn] at h
    exact h)
  have e1 : (64 : Int) - n = (s : Int) := hs.symm
  have g0 : ((m : Int) == 0) = false := by rw [beq_eq_false_iff_ne]; exact hm0
  have g1 : (m = 0) = False := eq_false (by omega)
  have b1 : s ≤ 64 := by omega
  clear hO hb hB hP hT hL hd hm hn hs hm0 hq1 hq2 hw1
  obtain ⟨u, hu, hug⟩ := open298 hS.size
  have p0 := hS.s0; have p2 := hS.s2; have p3 := hS.s3; have p11 := hS.s11; have p13 := hS.s13; have p14 := hS.s14; have p15 := hS.s15
  have hdf := hS.df
  rw [hug _ (by omega)] at p0 p2 p3 p11 p13 p14 p15
  obtain ⟨tm, df⟩ := a
  dsimp only at hu hdf
  subst hu hdf
  clear hS hug
  rw [p0, p2, p3, p11, p13, p14, p15]
  clear p0 p2 p3 p11 p13 p14 p15
  conv => arg 2; whnf
  refine wp_seq_k fun K0 hK0 => ?_
  have HK0 := Lib.hid hK0
  clear hK0
  go_wp2_with fail
  refine HK0.out _ _ ?_
  refine wp_seq_k fun K1 hK1 => ?_
  have HK1 := Lib.hid hK1
  clear hK1
  go_wp2_with fail
  refine HK1.out _ _ ?_
  refine wp_seq_k fun K2 hK2 => ?_
  have HK2 := Lib.hid hK2
  clear hK2
  go_wp2_with fail
  refine HK2.out _ _ ?_
  refine wp_seq_k fun K3 hK3 => ?_
  have HK3 := Lib.hid hK3
  clear hK3
  go_wp2_with (first
    | (go_at_call 62; (with_reducible refine (HLN.out _).mono ?_); rintro e1 w1 ⟨rfl, rfl⟩)
    | (go_at_call 87; (with_reducible refine (HS.out _ HP.out (by have h1 := HZ1.out; have h2 := HW.out; omega)).mono ?_); rintro e1 w2 ⟨rfl, hb2⟩; have HB2 := Lib.hid hb2; clear hb2)
    | fail)
  have HB2' := Lib.hid (show Below w.heap.size w w2 from HB1.out.trans (HB2.out.mono (by rw [HZ1.out]; omega)))
  have HZ2 := Lib.hid (show w.heap.size < w2.heap.size from by have h1 := HZ1.out; have h2 := HB2.out.size; omega)
  have HND := Lib.hid (fun W (hW : Below w2.heap.size w2 W) => numD_any d HD.out W (tab_keep (tab_keep HT.out HB2.out) hW))
  have HSD := Lib.hid (fun W (hW : Below w2.heap.size w2 W) => set_any d q HD.out HQ.out w.heap.size W (fun t ht => by
    have hr : W.heap[w.heap.size]? = some (.cells #[.int .u8 0, .int .u8 0, .int .u8 0, .int .u8 0, .int .u8 0, .int .u8 0, .int .u8 0, .int .u8 0, .int .u8 0, .int .u8 0, .int .u8 0, .int .u8 0, .int .u8 0, .int .u8 0, .int .u8 0, .int .u8 0, .int .u8 0, .int .u8 0, .int .u8 0, .int .u8 0, .int .u8 0, .int .u8 0, .int .u8 0, .int .u8 0, .int .u8 0, .int .u8 0, .int .u8 0, .int .u8 0, .int .u8 0, .int .u8 0, .int .u8 0, .int .u8 0] 103) := (hW.block _ HZ2.out).trans ((HB2.out.block _ (by rw [HZ1.out]; omega)).trans HR1.out)
    exact ⟨(cell_of_row _ _ t _ _ _ hr).trans (zeros32_at t ht), frozen_of_row _ _ t _ _ hr⟩))
  have HFE := Lib.hid (fun W w3 (hW : Below w2.heap.size w2 W) (h3 : Below w.heap.size W w3) (hc : ∀ t, t < nDig d → w3.cell? ⟨w.heap.size, t, none⟩ = some (byV (dgF d t))) => dig_of (w0 := w0) (nd := cutN (dgF d) (nDig d)) HO.out HB.out HW.out.1 (HB2'.out.trans ((hW.mono (Nat.le_of_lt HZ2.out)).trans h3)) (by have h1 := HZ2.out; have h2 := hW.size; have h4 := h3.size; omega) hc (cutN_le _ _))
  obtain ⟨nn, hnn⟩ : ∃ z, z = nDig d := ⟨_, rfl⟩
  obtain ⟨dp, hdp⟩ : ∃ z, z = (nDig d : Int) + q := ⟨_, rfl⟩
  obtain ⟨nd, hnd⟩ : ∃ z, z = cutN (dgF d) (nDig d) := ⟨_, rfl⟩
  rw [← hdp, ← hnd] at HSD HL
  rw [← hnd] at HFE
  rw [← hnn] at HND HSD HFE
  have HBD := Lib.hid (show nn ≤ 20 ∧ nd ≤ 20 ∧ -400 ≤ dp ∧ dp ≤ 420 from by
    have h1 := nDig_le HD.out
    have h2 := cutN_le (dgF d) (nDig d)
    have h3 := HQ.out
    omega)
  have HFM := Lib.hid (fun W (h : FE w0 B w.heap.size nd (dgF d) v [] W) => show Calls Tryz.prog 80 #[v, .bool neg, .slice (some ⟨w.heap.size, 0, none⟩) 32 32, .int .i64 dp, .int .i64 (nd : Int), .int .i64 (nd : Int), .int .u8 103, .bool true] W (FmtO w0 B L) from by
    have h0 := HBD.out
    rw [HL.out]
    exact fmt_any w0 B _ nd (dgF d) [] dp neg v W (by omega) (by unfold expN; split <;> omega) (by omega) (by omega) h (by simp))
  rename_i K5 hK5
  have HK5 := Lib.hid hK5
  clear hK5
  have HNN := Lib.hid hnn
  have HDP := Lib.hid hdp
  have HNE := Lib.hid hnd
  clear hnn hdp hnd
  go_region_law (first
    | (go_simp; go_at_call 37; (with_reducible refine (HND.out _ (by first | exact Below.refl _ _ | exact (Below.refl _ _).drew)).mono ?_); rintro e1 w4 ⟨rfl, rfl⟩)
    | (go_simp; go_at_call 82; (with_reducible refine (HSD.out _ (by first | exact Below.refl _ _ | exact (Below.refl _ _).drew)).mono ?_); rintro e1 w4 ⟨rfl, hc4, hb4⟩))
  have F4 := Lib.hid (HFE.out _ _ (Below.refl _ _).drew hb4 hc4)
  clear hc4 hb4
  refine HK5.out _ _ ?_
  go_wp2_with (first
    | (go_at_call 80; (with_reducible refine (HFM.out _ F4.out).mono ?_); rintro e1 w5 ⟨v1, rfl, ho1, hb1⟩; have HO5 := Lib.hid ho1; have HB5 := Lib.hid hb1; clear ho1 hb1)
    | fail)
  exact bodyPost_ret (res_t (i := 8) (s := v1) rfl rfl) rfl ⟨v1, rfl, HO5.out, HB5.out⟩
end Go.Proofs.YtoafiombpokpaaaGreatDoor
