/- The walk of choose, from what must hold on. -/
import Derived.Test.YthdmfaepjemopaaGreatDoorQAU
import Derived.Deep.RegionLaw
import Derived.Deep.RegionHeld3
namespace Go.Proofs.YthdmfaepjemopaaGreatDoor
open Go.RowKit

def grpR (rows : List Row) (x : Ex) : Except Int Int := if x.kind = 2 then (match colR rows x with
  | .error e => .error e
  | .ok p => .ok p.pos) else .error 7
theorem grp_held {w : World} {sr xr : Array Value} {q0 q1 q2 q3 q4 q5 q6 q7 q8 k0 k1 k2 k3 k4 y0 y1 y2 y3 y4 y5 y6 y7 y8 y9 : Value} {F : (Nat → Prop) → World → Prop} {e K : Nat} {v : Value} {n : Nat} {xs : List Value} {W : World} {xb : Nat} (h : GS w sr xr #[q0, q1, q2, q3, q4, q5, q6, q7, q8] #[k0, k1, k2, k3, k4] F e K v n xs W) (hb : W.heap[xb]? = some (.cells #[y0, y1, y2, y3, y4, y5, y6, y7, y8, y9] 41)) :
    W.cell? ⟨w.heap.size + 3, 4, none⟩ = some q4 ∧ W.cell? ⟨w.heap.size + 4, 0, none⟩ = some k0 ∧ W.cell? ⟨w.heap.size + 4, 1, none⟩ = some k1 ∧ W.cell? ⟨w.heap.size + 4, 2, none⟩ = some k2 ∧ W.cell? ⟨w.heap.size + 4, 3, none⟩ = some k3 ∧ W.cell? ⟨w.heap.size + 4, 4, none⟩ = some k4 ∧ W.cell? ⟨xb, 0, none⟩ = some y0 ∧ W.cell? ⟨xb, 1, none⟩ = some y1 ∧ W.cell? ⟨xb, 2, none⟩ = some y2 ∧ W.cell? ⟨xb, 3, none⟩ = some y3 ∧ W.cell? ⟨xb, 4, none⟩ = some y4 ∧ W.cell? ⟨xb, 5, none⟩ = some y5 ∧ W.cell? ⟨xb, 6, none⟩ = some y6 ∧ W.cell? ⟨xb, 7, none⟩ = some y7 ∧ W.cell? ⟨xb, 8, none⟩ = some y8 ∧ W.cell? ⟨xb, 9, none⟩ = some y9 := by
  obtain ⟨a0, a1, a2, a3, a4⟩ := row5 h.cm.sc
  obtain ⟨b0, b1, b2, b3, b4, b5, b6, b7, b8, b9⟩ := row10 hb
  exact ⟨cell_of_row _ _ 4 _ _ _ h.cm.q, a0, a1, a2, a3, a4, b0, b1, b2, b3, b4, b5, b6, b7, b8, b9⟩
def midR (n : Nat) (rows : List Row) (tl : List Int) (wd : Int) (hs gs xs : List Ex) (star : Bool) (ol : List (Ex × Bool)) (lim : Int) : Except Int Qy := match catR (holdR n rows false) hs with
  | .error e => .error e
  | .ok wh => match eachR (grpR rows) gs with
    | .error e => .error e
    | .ok gl => restR n rows tl wd wh gl xs star ol lim
theorem info3 : (Tryz.prog.info? 3).map (fun i => (i.zero, i.size, i.bytes)) = some (some (.int .i64 0), 1, 8) := by kernel_rfl
theorem GS.held {n : Nat} {sa ta ba : Option Addr} {rows : List Row} {tA : Option Addr} {tl : List Int} {bA : Option Addr} {w : World} {sr xr qr cr : Array Value} {W W' : World} (h : GS w sr xr qr cr (Fq n sa ta ba rows tA tl bA none [] [] [] none [] none [] [] []) 3 1 (.slice none 0 0) 0 [] W) (hB : Below W.heap.size W W') {wA : Option Addr} {wvs : List (List Value)} {wh : List Nd} (hC : CellsAt W' 10 wA wvs) (hA : ∀ a, wA = some a → W.heap.size ≤ a.block) (hN : NdsAt clP (W.heap.size ≤ ·) W' n wvs wh) : GS w sr xr qr cr (Fq n sa ta ba rows tA tl bA wA wvs wvs wh none [] none [] [] []) 3 1 (.slice none 0 0) 0 [] W' := by
  have h1 := h.keep (fq_stay ..) hB
  have hl := h.cm.lt
  have hF := h1.hold
  exact ⟨h1.cm, World.ownsRow_nil _ _ _ _, hF.strs, hF.tabs, hF.begs, hF.qt, hF.qb, ⟨hC, fun _ a ha => ⟨Nat.le_trans hl (hA a ha), fun e => by cases e⟩⟩, hN.mono fun b hb _ => ⟨Nat.le_trans hl hb, fun e => by cases e⟩, hF.gc, hF.ic, hF.nn⟩
theorem GS.grp {n : Nat} {sa ta ba : Option Addr} {rows : List Row} {tA : Option Addr} {tl : List Int} {bA wA : Option Addr} {wvs : List (List Value)} {wh : List Nd} {w : World} {sr xr qr cr : Array Value} {v : Value} {gl : List Int} {W : World} (h : GS w sr xr qr cr (Fq n sa ta ba rows tA tl bA wA wvs wvs wh none [] none [] [] []) 3 1 v gl.length (gl.map (Value.int .i64)) W) : ∃ gA gc, v = .slice gA gl.length gc ∧ GS w sr xr qr cr (Fq n sa ta ba rows tA tl bA wA wvs wvs wh gA gl none [] [] []) 54 10 (.slice none 0 0) 0 [] W := by
  have hown := h.own
  rw [int_flat] at hown
  obtain ⟨gA, gc, rfl, hS⟩ := own_setl hown (fun x hx => by obtain ⟨z, _, rfl⟩ := List.mem_map.1 hx; rfl) (by rw [List.length_map]) (okG w (.slice none 0 0)) (fun b hb _ => ⟨hb, fun e => by cases e⟩)
  have hF := (fq_stay ..).mono h.hold (ok' := okG w (.slice none 0 0)) fun b hb _ => ⟨hb.1, fun e => by cases e⟩
  exact ⟨gA, gc, rfl, h.cm, World.ownsRow_nil _ _ _ _, hF.strs, hF.tabs, hF.begs, hF.qt, hF.qb, hF.wc, hF.wn, hS, hF.ic, hF.nn⟩
set_option maxRecDepth 100000 in
set_option maxHeartbeats 16000000 in
theorem seg1 (n : Nat) (sa ta ba : Option Addr) (rows : List Row) (tA : Option Addr) (tl : List Int) (bA : Option Addr) (w : World) (sr : Array Value) (xr0 xr1 xr2 xr3 xr4 xr7 xr11 : Value) (star : Bool) (xA : Option Addr) (xq xc : Nat) (xs : List Ex) (hA : Option Addr) (hq0 hc : Nat) (hs : List Ex) (uA : Option Addr) (uq uc : Nat) (us : List Ex) (oA : Option Addr) (q oc : Nat) (ol : List (Ex × Bool)) (tc bc c1 c2 c3 : Nat) (wd : Int) (lim : Int)
    (hn : 0 < n) (hxq : xq = xs.length) (hx30 : xq ≤ 30) (hxs : ExsAt w n xA xs) (hxm : ∀ x ∈ xs, SmallX n x)
    (hhq : hq0 = hs.length) (hh30 : hq0 ≤ 30) (hhs : ExsAt w n hA hs) (hhm : ∀ x ∈ hs, SmallX n x) (hhP : ∀ x ∈ hs, ∀ p, bindR n rows false x = .ok p → AndTwo n p ∧ (partsR n p).length ≤ 1000)
    (huq : uq = us.length) (hu30 : uq ≤ 30) (hus : CellsAt w 10 uA (us.map exL))
    (hq : q = ol.length) (hq9 : q ≤ 12) (hol : CellsAt w 11 oA (ol.map ordL)) (hR : RowsOk w rows) (hm : rows.length ≤ 4) (hc12 : ∀ r ∈ rows, r.cols.length ≤ 12)
    (a : Act) (W : World) (hS : Slots w a)
    (hG : GS w sr #[xr0, xr1, xr2, xr3, xr4, .bool star, .slice xA xq xc, xr7, .slice hA hq0 hc, .slice uA uq uc, .slice oA q oc, xr11] #[.slice tA tl.length tc, .slice bA rows.length bc, .int .i64 wd, .slice none 0 0, .slice none 0 0, .bool false, .slice none 0 0, .slice none 0 0, .int .i64 lim] #[.slice sa rows.length c1, .slice ta rows.length c2, .slice ba rows.length c3, .bool false, .bool false] (Fq n sa ta ba rows tA tl bA none [] [] [] none [] none [] [] []) 3 1 (.slice none 0 0) 0 [] W) :
    (chC 6).wp Tryz.prog (bodyPost Tryz.prog Tryz.f22 (ChooseO n w (midR n rows tl wd hs us xs star ol lim))) a W := by
  obtain ⟨R, hRD⟩ : ∃ R, R = midR n rows tl wd hs us xs star ol lim := ⟨_, rfl⟩
  rw [← hRD]
  obtain ⟨s0, s1, s2, s3, s4⟩ := row5 hG.cm.sc
  have xb8 : W.cell? ⟨w.heap.size + 1, 8, none⟩ = some (.slice hA hq0 hc) := cell_of_row _ _ 8 _ _ _ hG.cm.xb
  have q3 := cell_of_row _ _ 3 _ _ _ hG.cm.q
  have y3 := frozen_of_row _ _ 3 _ _ hG.cm.q
  have hzq := heap_lt hG.cm.q
  have HTR := Lib.hid (show Calls Tryz.prog 35 #[.agg #[.slice sa rows.length c1, .slice ta rows.length c2, .slice ba rows.length c3, .bool false, .bool false], .slice hA hq0 hc] W (ArgsO n W (catR (holdR n rows false) hs)) from by
    have := truths_any n ⟨sa, c1, ta, c2, ba, c3, rows⟩ false hA hc hs W (sc_of hG.hold hG.cm.below hR c1 c2 c3) (hhs.keep hG.cm.below) hhm (by omega) (by show rows.length ≤ 1000; omega) hhP
    rwa [← hhq] at this)
  have HG := Lib.hid hG
  cases hw : catR (holdR n rows false) hs with
  | error er =>
    obtain rfl : R = .error er := by rw [hRD]; unfold midR; rw [hw]
    rw [hw] at HTR
    clear hG hRD hw hxs hxm hxq hhq hhs hhm hhP huq hus hq hol hR hc12
    obtain ⟨u, hu, hug⟩ := open288 hS.size
    have p2 := hS.s2; have p3 := hS.s3; have p4 := hS.s4; have p5 := hS.s5; have p6 := hS.s6
    have hdf := hS.df
    rw [hug _ (by omega)] at p2 p3 p4 p5 p6
    obtain ⟨tm, df⟩ := a
    dsimp only at hu hdf
    subst hu hdf
    clear hS hug
    rw [p2, p3, p4, p5, p6]
    clear p2 p3 p4 p5 p6
    conv => arg 2; whnf
    go_wp2_with (first
      | (go_at_call 35; (with_reducible refine HTR.out.mono ?_); rintro e w5 hO
         obtain ⟨rfl, hB5⟩ := argso_no hO)
      | fail)
    exact ⟨rfl, HG.out.cm.below.trans (hB5.mono HG.out.cm.below.size), rfl⟩
  | ok wh =>
    rw [hw] at HTR
    have HSEG := Lib.hid (show ∀ wA wc wvs gA gc gl a W, eachR (grpR rows) us = .ok gl → Slots w a → GS w sr #[xr0, xr1, xr2, xr3, xr4, .bool star, .slice xA xq xc, xr7, .slice hA hq0 hc, .slice uA uq uc, .slice oA q oc, xr11] #[.slice tA tl.length tc, .slice bA rows.length bc, .int .i64 wd, .slice wA wvs.length wc, .slice gA gl.length gc, .bool false, .slice none 0 0, .slice none 0 0, .int .i64 lim] #[.slice sa rows.length c1, .slice ta rows.length c2, .slice ba rows.length c3, .bool false, .bool false] (Fq n sa ta ba rows tA tl bA wA wvs wvs wh gA gl none [] [] []) 54 10 (.slice none 0 0) 0 [] W → (chC 8).wp Tryz.prog (bodyPost Tryz.prog Tryz.f22 (ChooseO n w R)) a W from fun wA wc wvs gA gc gl a W hgl hS hG => by
      have e : R = restR n rows tl wd wh gl xs star ol lim := by rw [hRD]; unfold midR; rw [hw, hgl]
      rw [e]
      exact seg2 n sa ta ba rows tA tl bA wA wvs wh gA gl w sr xr0 xr1 xr2 xr3 xr4 xr7 (.slice hA hq0 hc) (.slice uA uq uc) xr11 star xA xq xc xs oA q oc ol tc bc wc gc c1 c2 c3 wd lim hn hxq hx30 hxs hxm hq hq9 hol hR hm hc12 a W hS hG)
    have HRN := Lib.hid (show ∀ (j : Nat) (y : Ex) (gl : List Int), eachR (grpR rows) (us.take j) = .ok gl → us[j]? = some y → ∀ er, grpR rows y = .error er → R = .error er from fun j y gl h1 h2 er h3 => by rw [hRD]; unfold midR; rw [hw, each_fail h2 h1 h3])
    have HUS := Lib.hid hus
    have HUQ := Lib.hid huq
    have HRO := Lib.hid hR
    have HC7N := fun w => check_no 7 w
    have HC7Y := fun w => check_yes 7 w
    clear hG hRD hw hxs hxm hxq hhq hhs hhm hhP huq hus hq hol hR hc12
    obtain ⟨u, hu, hug⟩ := open288 hS.size
    have p2 := hS.s2; have p3 := hS.s3; have p4 := hS.s4; have p5 := hS.s5; have p6 := hS.s6
    have hdf := hS.df
    rw [hug _ (by omega)] at p2 p3 p4 p5 p6
    obtain ⟨tm, df⟩ := a
    dsimp only at hu hdf
    subst hu hdf
    clear hS hug
    rw [p2, p3, p4, p5, p6]
    clear p2 p3 p4 p5 p6
    conv => arg 2; whnf
    refine wp_seq_k fun K hK => ?_
    have HK := Lib.hid hK
    clear hK
    go_wp2_with (first
      | (go_at_call 35; (with_reducible refine HTR.out.mono ?_); rintro e w5 hO
         obtain ⟨wA, wc, wvs, rfl, hB5, hC5, hA5, hN5⟩ := argso_ok hO
         have HG5 := Lib.hid (HG.out.held hB5 hC5 hA5 hN5)
         have q3 := cell_of_row _ _ 3 _ _ _ HG5.out.cm.q
         have y3 := frozen_of_row _ _ 3 _ _ HG5.out.cm.q
         have hzq := heap_lt HG5.out.cm.q
         clear hO hB5 hC5 hA5 hN5)
      | fail)
    have HG6 := Lib.hid (HG5.out.setQ (fq_stay ..) 3 (.slice wA wvs.length wc))
    refine HK.out _ _ ?_
    clear s0 s1 s2 s3 s4 xb8 q3 y3 hzq HTR HK
    generalize (w5.setCell ⟨w.heap.size + 3, 3, none⟩ (.slice wA wvs.length wc)) = w6 at HG6 ⊢
    have xb9 : w6.cell? ⟨w.heap.size + 1, 9, none⟩ = some (.slice uA uq uc) := cell_of_row _ _ 9 _ _ _ HG6.out.cm.xb
    refine wp_seq_k fun K2 hK2 => ?_
    have HK2 := Lib.hid (show ∀ a w', (chC 8).wp Tryz.prog (bodyPost Tryz.prog Tryz.f22 (ChooseO n w R)) a w' → K2 a w' from hK2)
    clear hK2 HG5 HG
    go_wp2_with fail
    clear xb9
    refine wp_loop (fun a' wr => Slots w a' ∧ a'.tmps.getD 136 undef = .slice uA uq uc ∧ a'.tmps.getD 137 undef = .int .i64 uq ∧ ∃ (j : Nat) (v : Value) (gl : List Int), j ≤ uq ∧ a'.tmps.getD 138 undef = .int .i64 j ∧ Hid (gl.length = j) ∧ Hid (eachR (grpR rows) (us.take j) = .ok gl) ∧ Hid (GS w sr #[xr0, xr1, xr2, xr3, xr4, .bool star, .slice xA xq xc, xr7, .slice hA hq0 hc, .slice uA uq uc, .slice oA q oc, xr11] #[.slice tA tl.length tc, .slice bA rows.length bc, .int .i64 wd, .slice wA wvs.length wc, v, .bool false, .slice none 0 0, .slice none 0 0, .int .i64 lim] #[.slice sa rows.length c1, .slice ta rows.length c2, .slice ba rows.length c3, .bool false, .bool false] (Fq n sa ta ba rows tA tl bA wA wvs wvs wh none [] none [] [] []) 3 1 v gl.length (gl.map (Value.int .i64)) wr)) (fun a' _ => uq - (intOf (a'.tmps.getD 138 undef)).toNat) ?start ?round
    case start =>
      refine ⟨⟨?_, ?_, ?_, ?_, ?_, ?_, ?_⟩, ?_, ?_, 0, .slice none 0 0, [], Nat.zero_le _, ?_, Lib.hid rfl, Lib.hid rfl, HG6⟩
      all_goals rfl
    case round =>
      clear HG6
      rintro a wr ⟨hS, h136, h137, j, v, gl, hj, h138, HGL, HE, HG⟩
      obtain ⟨u, hu, hug⟩ := open288 hS.size
      have p2 := hS.s2; have p3 := hS.s3; have p4 := hS.s4; have p5 := hS.s5; have p6 := hS.s6
      have hdf := hS.df
      rw [hug _ (by omega)] at p2 p3 p4 p5 p6 h136 h137 h138
      obtain ⟨tm, df⟩ := a
      dsimp only at hu hdf
      subst hu hdf
      clear hS hug
      rw [p2, p3, p4, p5, p6, h136, h137, h138]
      clear p2 p3 p4 p5 p6 h136 h137 h138
      by_cases hjq : j < uq
      · have hjn : ((j : Int) < (uq : Int)) = True := eq_true (by omega)
        obtain ⟨x, hx⟩ : ∃ y, us[j]? = some y := ⟨_, List.getElem?_eq_getElem (by have := HUQ.out; omega)⟩
        obtain ⟨eb, eo, rfl, heb, hyc⟩ := ex_at HUS.out hx
        have HXJ := Lib.hid hx
        have hzs := heap_lt HG.out.cm.sc
        have t0 : wr.cell? ⟨eb, eo + j * 10, none⟩ = some (.int .i64 x.kind) := cell_kept (hyc 0 _ rfl) HG.out.cm.below
        have t1 := cell_kept (hyc 1 _ rfl) HG.out.cm.below
        have t2 := cell_kept (hyc 2 _ rfl) HG.out.cm.below
        have t3 := cell_kept (hyc 3 _ rfl) HG.out.cm.below
        have t4 := cell_kept (hyc 4 _ rfl) HG.out.cm.below
        have t5 := cell_kept (hyc 5 _ rfl) HG.out.cm.below
        have t6 := cell_kept (hyc 6 _ rfl) HG.out.cm.below
        have t7 := cell_kept (hyc 7 _ rfl) HG.out.cm.below
        have t8 := cell_kept (hyc 8 _ rfl) HG.out.cm.below
        have t9 := cell_kept (hyc 9 _ rfl) HG.out.cm.below
        have sf := store_float
        have hfa := field_at
        clear hyc hx heb
        by_cases hk : x.kind = 2
        · have hkk : (x.kind == 2) = true := beq_iff_eq.2 hk
          have HKK := Lib.hid hk
          clear hk
          go_upto_region 20 with (first
            | (go_at_call 24; (with_reducible refine (HC7Y _).mono ?_); rintro e w' ⟨rfl, rfl⟩)
            | fail)
          have HG2 := Lib.hid (HG.out.keep (fq_stay ..) (below1 wr (.cells #[.int .i64 x.kind, .string x.op, .int .i64 x.lit.k, .int .i64 x.lit.n, .float .f64 x.lit.f, .string x.lit.s, .string x.table, .string x.name, .bool x.neg, .slice x.A x.args.length x.c] 41)))
          have HBX := Lib.hid (heap_alloc_new wr (.cells #[.int .i64 x.kind, .string x.op, .int .i64 x.lit.k, .int .i64 x.lit.n, .float .f64 x.lit.f, .string x.lit.s, .string x.table, .string x.name, .bool x.neg, .slice x.A x.args.length x.c] 41))
          obtain ⟨xb, hxb⟩ : ∃ b, b = wr.heap.size := ⟨_, rfl⟩
          rw [← hxb] at HBX ⊢
          clear hxb t0 t1 t2 t3 t4 t5 t6 t7 t8 t9 hzs HG
          generalize wr.alloc (.cells #[.int .i64 x.kind, .string x.op, .int .i64 x.lit.k, .int .i64 x.lit.n, .float .f64 x.lit.f, .string x.lit.s, .string x.table, .string x.name, .bool x.neg, .slice x.A x.args.length x.c] 41) = w3 at HG2 HBX ⊢
          have HG3 := Lib.hid (HG2.out.keep (fq_stay ..) (Below.refl _ w3).drew)
          have HCOL := Lib.hid (show Calls Tryz.prog 36 #[.agg #[.slice sa rows.length c1, .slice ta rows.length c2, .slice ba rows.length c3, .bool false, .bool false], exV x] w3.drew (ExprO (n + 1) w3.drew (colR rows x)) from column_e n ⟨sa, c1, ta, c2, ba, c3, rows⟩ false false x w3.drew (sc_of HG3.out.hold HG3.out.cm.below HRO.out c1 c2 c3) (by show rows.length ≤ 1000; omega))
          have HBX3 := Lib.hid (show w3.drew.heap[xb]? = some _ from HBX.out)
          cases hc : colR rows x with
          | error er =>
            obtain rfl : R = .error er := HRN.out j x gl HE.out HXJ.out er (by unfold grpR; rw [if_pos HKK.out, hc])
            rw [hc] at HCOL
            clear hc
            refine wp_region_held_drew (S := (fun wx => wx.cell? ⟨w.heap.size + 3, 4, none⟩ = some v ∧ wx.cell? ⟨w.heap.size + 4, 0, none⟩ = some (.slice sa rows.length c1) ∧ wx.cell? ⟨w.heap.size + 4, 1, none⟩ = some (.slice ta rows.length c2) ∧ wx.cell? ⟨w.heap.size + 4, 2, none⟩ = some (.slice ba rows.length c3) ∧ wx.cell? ⟨w.heap.size + 4, 3, none⟩ = some (.bool false) ∧ wx.cell? ⟨w.heap.size + 4, 4, none⟩ = some (.bool false) ∧ wx.cell? ⟨xb, 0, none⟩ = some (.int .i64 x.kind) ∧ wx.cell? ⟨xb, 1, none⟩ = some (.string x.op) ∧ wx.cell? ⟨xb, 2, none⟩ = some (.int .i64 x.lit.k) ∧ wx.cell? ⟨xb, 3, none⟩ = some (.int .i64 x.lit.n) ∧ wx.cell? ⟨xb, 4, none⟩ = some (.float .f64 x.lit.f) ∧ wx.cell? ⟨xb, 5, none⟩ = some (.string x.lit.s) ∧ wx.cell? ⟨xb, 6, none⟩ = some (.string x.table) ∧ wx.cell? ⟨xb, 7, none⟩ = some (.string x.name) ∧ wx.cell? ⟨xb, 8, none⟩ = some (.bool x.neg) ∧ wx.cell? ⟨xb, 9, none⟩ = some (.slice x.A x.args.length x.c))) (by kernel_rfl) (grp_held HG3.out HBX3.out) (fun hHeld => ?_)
            refine wpAnyH_take (i := 0) (v := ?_) (List.getElem?_toArray.trans rfl) (by kernel_rfl) (by kernel_rfl) (by kernel_rfl) (fun _ _ _ h => h) (Or.inl ⟨by rfl, ?_⟩) hHeld ?_
            rotate_left
            · intro wx hSw
              (try dsimp only at hSw)
              go_simp
              (try with_reducible rfl)
            (try simp only [Act.put, List.setIfInBounds_toArray, List.set_cons_zero, List.set_cons_succ])
            refine wpAnyH_take (i := 1) (v := ?_) (List.getElem?_toArray.trans rfl) (by kernel_rfl) (by kernel_rfl) (by kernel_rfl) (fun _ _ _ h => h) (Or.inl ⟨by rfl, ?_⟩) hHeld ?_
            rotate_left
            · intro wx hSw
              (try dsimp only at hSw)
              go_simp
              (try with_reducible rfl)
            (try simp only [Act.put, List.setIfInBounds_toArray, List.set_cons_zero, List.set_cons_succ])
            refine wpAnyH_take (i := 2) (v := ?_) (List.getElem?_toArray.trans rfl) (by kernel_rfl) (by kernel_rfl) (by kernel_rfl) (fun _ _ _ h => h) (Or.inl ⟨by rfl, ?_⟩) hHeld ?_
            rotate_left
            · intro wx hSw
              (try dsimp only at hSw)
              go_simp
              (try with_reducible rfl)
            (try simp only [Act.put, List.setIfInBounds_toArray, List.set_cons_zero, List.set_cons_succ])
            refine wpAnyH_take (i := 3) (v := ?_) (List.getElem?_toArray.trans rfl) (by kernel_rfl) (by kernel_rfl) (by kernel_rfl) (fun _ _ _ h => h) (Or.inl ⟨by rfl, ?_⟩) hHeld ?_
            rotate_left
            · intro wx hSw
              (try dsimp only at hSw)
              go_simp
              (try with_reducible rfl)
            (try simp only [Act.put, List.setIfInBounds_toArray, List.set_cons_zero, List.set_cons_succ])
            refine wpAnyH_ready (rs := [4]) (by kernel_rfl) (by simp) ?_
            refine AllReadyH.cons (List.getElem?_toArray.trans rfl) (fun K hK => ?_) AllReadyH.nil
            go_simp
            go_at_call 36
            with_reducible refine Calls.mono (HCOL.out) ?_
            rintro e w5 ⟨hB5, rfl⟩
            exact ⟨rfl, HG3.out.cm.below.trans (hB5.mono HG3.out.cm.below.size), rfl⟩
          | ok p =>
            have HR := Lib.hid (each_snoc HXJ.out HE.out (show grpR rows x = .ok p.pos by unfold grpR; rw [if_pos HKK.out, hc]))
            rw [hc] at HCOL
            clear hc
            obtain ⟨s0, s1, s2, s3, s4⟩ := row5 HG2.out.cm.sc
            obtain ⟨x0, x1, x2, x3, x4, x5, x6, x7, x8, x9⟩ := row10 HBX.out
            have q4 := cell_of_row _ _ 4 _ _ _ HG2.out.cm.q
            go_region_law (first
              | (go_simp; go_at_call 36; (with_reducible refine HCOL.out.mono ?_); rintro e w5 ⟨hB5, A5, c5, q5, rfl, _⟩
                 have HG5 := Lib.hid (HG3.out.keep (fq_stay ..) hB5)
                 have q4 := cell_of_row _ _ 4 _ _ _ HG5.out.cm.q
                 have hz5 := heap_lt HG5.out.cm.q
                 clear hB5)
              | (refine step_one 44 3 1 8 (.int .i64 0) Tryz.underlying44 info3 rfl (by omega) (by omega) _ (by rfl) (.tmp 147) (.tmp 152) (by rfl) (w.heap.size + 5) v gl.length (gl.map (Value.int .i64)) (by rfl) (HG5.out.keep (fq_stay ..) (below1 w5 _)).own _ 1 [.int .i64 p.pos] (by rfl) (by rfl) (by rfl) (heap_alloc_new w5 _) (by have := HGL.out; omega) (by have := HG5.out.cm.lt; simp; omega) ?_
                 intro v8 w8 hown hgr hv8
                 obtain ⟨A8, c8, rfl⟩ := own_slice hown
                 have HM := Lib.hid ((HG5.out.keep (fq_stay ..) (below1 w5 _)).app (fq_stay ..) hown hgr (by first | exact hv8 | simpa using hv8))
                 have y4b := frozen_of_row _ _ 4 _ _ HM.out.cm.q
                 have q4b := cell_of_row _ _ 4 _ _ _ HM.out.cm.q
                 have hz8 := heap_lt HM.out.cm.q
                 clear hown hgr hv8)
              | fail)
            all_goals
              have HM2 := Lib.hid (HM.out.setQ (fq_stay ..) 4 (.slice A8 (gl.length + 1) c8))
              clear HM HG5 HG2 HG3
              go_wp2_with fail
              refine ⟨⟨⟨?_, ?_, ?_, ?_, ?_, ?_, ?_⟩, ?_, ?_, j + 1, .slice A8 (gl.length + 1) c8, gl ++ [p.pos], by omega, ?_, Lib.hid (by rw [List.length_append, HGL.out]; rfl), HR, Lib.hid ?_⟩, ?_⟩
              all_goals first | rfl | skip
              · have := HM2.out
                rw [List.length_append, List.map_append]
                exact this
              · show uq - (intOf (.int .i64 _)).toNat < uq - (intOf (.int .i64 _)).toNat
                simp [intOf] <;> omega
        · obtain rfl : R = .error 7 := HRN.out j x gl HE.out HXJ.out 7 (by unfold grpR; exact if_neg hk)
          have hkk : (x.kind == 2) = false := beq_eq_false_iff_ne.2 hk
          clear hk
          go_wp2_with (first
            | (go_at_call 24; (with_reducible refine (HC7N _).mono ?_); rintro e w' ⟨rfl, rfl⟩)
            | fail)
          exact ⟨rfl, HG.out.cm.below.trans ((below1 _ _).mono HG.out.cm.below.size), rfl⟩
      · obtain rfl : j = uq := by omega
        have hjn : ((j : Int) < (j : Int)) = False := eq_false (by omega)
        have hT := HE.out
        rw [List.take_of_length_le (by have := HUQ.out; omega)] at hT
        have HT := Lib.hid hT
        clear hT
        obtain ⟨gA, gc, rfl, hG2⟩ := HG.out.grp
        have HG2 := Lib.hid hG2
        clear hG2
        go_wp2_with fail
        refine HK2.out _ _ (HSEG.out wA wc wvs gA gc gl _ _ HT.out ⟨?_, ?_, ?_, ?_, ?_, ?_, ?_⟩ HG2.out) <;> rfl
end Go.Proofs.YthdmfaepjemopaaGreatDoor
