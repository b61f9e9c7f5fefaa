/- The walk of choose, from the star on. The walks of folds, of slices.ContainsFunc over expressions. The walk of choose, from the items on. -/
import Derived.Test.YthdmfaepjemopaaGreatDoorQAR
import Derived.Deep.RegionLaw
import Derived.Shelf.GgClosure.Gives
namespace Go.Proofs.YthdmfaepjemopaaGreatDoor
open Go.RowKit

theorem setl_at {W : World} {K : Nat} {A : Option Addr} {ls : List (List Value)} (h : CellsAt W K A ls) {j : Nat} {x : List Value} (hx : ls[j]? = some x) : ∃ b off, A = some ⟨b, off, none⟩ ∧ b < W.heap.size ∧ ∀ (i : Nat) (u : Value), x[i]? = some u → W.cell? ⟨b, off + j * K + i, none⟩ = some u := by
  rcases h.2 with h0 | ⟨b, off, h1, h2, h3⟩
  · rw [h0] at hx; cases hx
  · exact ⟨b, off, h1, h2, (h3 j x hx).2⟩
def colN (beg : Int) (k : Nat) (c : Col) : Nd := .mk 2 ⟨#[]⟩ zeroV (beg + k) false c.ty []
def starR (rows : List Row) : List Nd := rows.flatMap fun r => r.cols.mapIdx (colN r.beg)
theorem star_snoc {beg : Int} {l : List Col} {k : Nat} {c : Col} (h : l[k]? = some c) : (l.take (k + 1)).mapIdx (colN beg) = (l.take k).mapIdx (colN beg) ++ [colN beg k c] := by
  have hl := (List.getElem?_eq_some_iff.1 h).1
  rw [List.take_add_one, h, Option.toList_some, List.mapIdx_append]
  congr 1
  rw [List.length_take, Nat.min_eq_left (by omega)]
  simp
theorem star_more {rows : List Row} {j : Nat} {r : Row} (h : rows[j]? = some r) : starR (rows.take (j + 1)) = starR (rows.take j) ++ r.cols.mapIdx (colN r.beg) := by
  unfold starR
  rw [List.take_add_one, h, Option.toList_some, List.flatMap_append]
  simp
def ndZ (p : Nd) : List Value := ndL p zeroV none 0 0
theorem GS.items {n : Nat} {sa ta ba : Option Addr} {rows : List Row} {tA : Option Addr} {tl : List Int} {bA wA : Option Addr} {wvs : List (List Value)} {wh : List Nd} {gA : Option Addr} {gl : List Int} {ivs : List (List Value)} {il : List Nd} {w : World} {sr xr qr cr : Array Value} {v : Value} {W : World} (h : GS w sr xr qr cr (Fq n sa ta ba rows tA tl bA wA wvs wvs wh gA gl none [] ivs il) 54 10 v ivs.length ivs.flatten W) (hl : ∀ x ∈ ivs, x.length = 10) : ∃ iA ic, v = .slice iA ivs.length ic ∧ GS w sr xr qr cr (Fq n sa ta ba rows tA tl bA wA wvs wvs wh gA gl iA ivs ivs il) 57 2 (.slice none 0 0) 0 [] W := by
  obtain ⟨iA, ic, rfl, hS⟩ := own_setl h.own hl rfl (okG w (.slice none 0 0)) (fun b hb _ => ⟨hb, fun e => by cases e⟩)
  have hF := (fq_stay ..).mono h.hold (ok' := okG w (.slice none 0 0)) fun b hb _ => ⟨hb.1, fun e => by cases e⟩
  exact ⟨iA, ic, rfl, h.cm, World.ownsRow_nil _ _ _ _, hF.strs, hF.tabs, hF.begs, hF.qt, hF.qb, hF.wc, hF.wn, hF.gc, hS, hF.nn⟩
theorem GS.nd {n : Nat} {sa ta ba : Option Addr} {rows : List Row} {tA : Option Addr} {tl : List Int} {bA wA : Option Addr} {wvs : List (List Value)} {wh : List Nd} {gA : Option Addr} {gl : List Int} {us : List (List Value)} {il : List Nd} {w : World} {sr xr qr cr : Array Value} {v : Value} {k : Nat} {xs : List Value} {W : World} (h : GS w sr xr qr cr (Fq n sa ta ba rows tA tl bA wA wvs wvs wh gA gl none [] us il) 54 10 v k xs W) {x : List Value} {p : Nd} (hx : NdAt clP (okG w v) W n x p) : GS w sr xr qr cr (Fq n sa ta ba rows tA tl bA wA wvs wvs wh gA gl none [] (us ++ [x]) (il ++ [p])) 54 10 v k xs W :=
  ⟨h.cm, h.own, h.hold.strs, h.hold.tabs, h.hold.begs, h.hold.qt, h.hold.qb, h.hold.wc, h.hold.wn, h.hold.gc, h.hold.ic, h.hold.nn.app ⟨rfl, fun i y q hy hq => by
    have hi : i = 0 := by have := (List.getElem?_eq_some_iff.1 hy).1; simpa using this
    subst hi
    cases hy
    cases hq
    exact hx⟩⟩
theorem leaf_nd {ok : Nat → Prop} {W : World} {n : Nat} (hn : 0 < n) (b : Int) (k : Nat) (c : Col) : NdAt clP ok W n (ndZ (colN b k c)) (colN b k c) := by
  cases n with
  | zero => omega
  | succ n => exact ⟨none, 0, [], by rw [show clP (colN b k c).lit = zeroV from clP_zero]; rfl, CellsAt.nil_at _ _ _, fun h => absurd rfl h, rfl, fun i x q hx => by cases hx⟩
set_option maxRecDepth 100000 in
set_option maxHeartbeats 16000000 in
theorem seg3 (n : Nat) (sa ta ba : Option Addr) (rows : List Row) (tA : Option Addr) (tl : List Int) (bA wA : Option Addr) (wvs : List (List Value)) (wh : List Nd) (gA : Option Addr) (gl : List Int) (ivs : List (List Value)) (il : List Nd) (w : World) (sr : Array Value) (xr0 xr1 xr2 xr3 xr4 xr6 xr7 xr8 xr9 xr11 : Value) (star : Bool) (oA : Option Addr) (q oc : Nat) (ol : List (Ex × Bool)) (tc bc wc gc c1 c2 c3 : Nat) (wd : Int) (gr fo : Bool) (lim : Int) (R : Except Int Qy) (v : Value)
    (hn : 0 < n) (hq : q = ol.length) (hq9 : q ≤ 12) (hol : CellsAt w 11 oA (ol.map ordL)) (hR : RowsOk w rows) (hm : rows.length ≤ 4) (hc12 : ∀ r ∈ rows, r.cols.length ≤ 12) (hl : ∀ x ∈ ivs, x.length = 10) (hil : ivs.length ≤ 30)
    (hRR : R = match eachR (ordR rows gr gl) ol with | .error e => .error e | .ok os => .ok ⟨tl, rows.map Row.beg, wd, wh, gl, gr, il ++ (if star then starR rows else []), os, lim⟩)
    (a : Act) (W : World) (hS : Slots w a)
    (hG : GS w sr #[xr0, xr1, xr2, xr3, xr4, .bool star, xr6, xr7, xr8, xr9, .slice oA q oc, xr11] #[.slice tA tl.length tc, .slice bA rows.length bc, .int .i64 wd, .slice wA wvs.length wc, .slice gA gl.length gc, .bool gr, v, .slice none 0 0, .int .i64 lim] #[.slice sa rows.length c1, .slice ta rows.length c2, .slice ba rows.length c3, .bool false, .bool fo] (Fq n sa ta ba rows tA tl bA wA wvs wvs wh gA gl none [] ivs il) 54 10 v ivs.length ivs.flatten W) :
    (chC 11).wp Tryz.prog (bodyPost Tryz.prog Tryz.f22 (ChooseO n w R)) a W := by
  have HG := Lib.hid hG
  have xb5 : W.cell? ⟨w.heap.size + 1, 5, none⟩ = some (.bool star) := cell_of_row _ _ 5 _ _ _ hG.cm.xb
  cases star with
  | false =>
    have hRR2 : R = match eachR (ordR rows gr gl) ol with | .error e => .error e | .ok os => .ok ⟨tl, rows.map Row.beg, wd, wh, gl, gr, il, os, lim⟩ := by
      rw [hRR]
      cases eachR (ordR rows gr gl) ol with
      | error e => rfl
      | ok os => show Except.ok _ = Except.ok _; rw [if_neg (by decide), List.append_nil]
    obtain ⟨iA, ic, rfl, hG2⟩ := hG.items hl
    have HSEG := fun a W hS hG => seg4 n sa ta ba rows tA tl bA wA wvs wh gA gl iA ivs il w sr xr0 xr1 xr2 xr3 xr4 (.bool false) xr6 xr7 xr8 xr9 xr11 oA q oc ol tc bc wc gc ic c1 c2 c3 wd gr fo lim R hq hq9 hol hR (by omega) hRR2 a W hS hG
    have HG2 := Lib.hid hG2
    clear hG hG2 HG hRR hRR2
    obtain ⟨u, hu, hug⟩ := open288 hS.size
    have p2 := hS.s2; have p3 := hS.s3; have p4 := hS.s4; have p5 := hS.s5; have p6 := hS.s6
    have hdf := hS.df
    rw [hug _ (by omega)] at p2 p3 p4 p5 p6
    obtain ⟨tm, df⟩ := a
    dsimp only at hu hdf
    subst hu hdf
    clear hS hug
    rw [p2, p3, p4, p5, p6]
    clear p2 p3 p4 p5 p6
    conv => arg 2; whnf
    refine wp_seq_k fun K hK => ?_
    have HK := Lib.hid (show ∀ a w', (chC 12).wp Tryz.prog (bodyPost Tryz.prog Tryz.f22 (ChooseO n w R)) a w' → K a w' from hK)
    clear hK
    go_wp2_with fail
    refine HK.out _ _ (HSEG _ _ ⟨?_, ?_, ?_, ?_, ?_, ?_, ?_⟩ HG2.out) <;> rfl
  | true =>
    have hRR2 : R = match eachR (ordR rows gr gl) ol with | .error e => .error e | .ok os => .ok ⟨tl, rows.map Row.beg, wd, wh, gl, gr, il ++ starR rows, os, lim⟩ := hRR
    have HSEG := Lib.hid (show ∀ iA ic ivs a W, Slots w a → GS w sr #[xr0, xr1, xr2, xr3, xr4, .bool true, xr6, xr7, xr8, xr9, .slice oA q oc, xr11] #[.slice tA tl.length tc, .slice bA rows.length bc, .int .i64 wd, .slice wA wvs.length wc, .slice gA gl.length gc, .bool gr, .slice iA ivs.length ic, .slice none 0 0, .int .i64 lim] #[.slice sa rows.length c1, .slice ta rows.length c2, .slice ba rows.length c3, .bool false, .bool fo] (Fq n sa ta ba rows tA tl bA wA wvs wvs wh gA gl iA ivs ivs (il ++ starR rows)) 57 2 (.slice none 0 0) 0 [] W → (chC 12).wp Tryz.prog (bodyPost Tryz.prog Tryz.f22 (ChooseO n w R)) a W from fun iA ic ivs a W hS hG => seg4 n sa ta ba rows tA tl bA wA wvs wh gA gl iA ivs (il ++ starR rows) w sr xr0 xr1 xr2 xr3 xr4 (.bool true) xr6 xr7 xr8 xr9 xr11 oA q oc ol tc bc wc gc ic c1 c2 c3 wd gr fo lim R hq hq9 hol hR (by omega) hRR2 a W hS hG)
    have HL := Lib.hid hl
    have HRO := Lib.hid hR
    have HC12 := Lib.hid hc12
    obtain ⟨s0, s1, s2, s3, s4⟩ := row5 hG.cm.sc
    obtain ⟨m, hmm⟩ : ∃ m, m = rows.length := ⟨_, rfl⟩
    have HM := Lib.hid hmm
    rw [← hmm] at HG HSEG hm s0 s1 s2
    clear hG hRR hRR2 hl hR hc12 hol hq hmm
    obtain ⟨u, hu, hug⟩ := open288 hS.size
    have p2 := hS.s2; have p3 := hS.s3; have p4 := hS.s4; have p5 := hS.s5; have p6 := hS.s6
    have hdf := hS.df
    rw [hug _ (by omega)] at p2 p3 p4 p5 p6
    obtain ⟨tm, df⟩ := a
    dsimp only at hu hdf
    subst hu hdf
    clear hS hug
    rw [p2, p3, p4, p5, p6]
    clear p2 p3 p4 p5 p6
    conv => arg 2; whnf
    refine wp_seq_k fun K hK => ?_
    have HK := Lib.hid (show ∀ a w', (chC 12).wp Tryz.prog (bodyPost Tryz.prog Tryz.f22 (ChooseO n w R)) a w' → K a w' from hK)
    clear hK
    go_wp2_with fail
    clear xb5 s0 s1 s2 s3 s4
    refine wp_loop (fun a' wr => Slots w a' ∧ a'.tmps.getD 218 undef = .slice ta m c2 ∧ a'.tmps.getD 219 undef = .int .i64 m ∧ ∃ (j : Nat) (v : Value) (us : List (List Value)), j ≤ m ∧ a'.tmps.getD 220 undef = .int .i64 j ∧ us.length ≤ 30 + j * 12 ∧ Hid (∀ x ∈ us, x.length = 10) ∧ Hid (GS w sr #[xr0, xr1, xr2, xr3, xr4, .bool true, xr6, xr7, xr8, xr9, .slice oA q oc, xr11] #[.slice tA tl.length tc, .slice bA m bc, .int .i64 wd, .slice wA wvs.length wc, .slice gA gl.length gc, .bool gr, v, .slice none 0 0, .int .i64 lim] #[.slice sa m c1, .slice ta m c2, .slice ba m c3, .bool false, .bool fo] (Fq n sa ta ba rows tA tl bA wA wvs wvs wh gA gl none [] us (il ++ starR (rows.take j))) 54 10 v us.length us.flatten wr)) (fun a' _ => m - (intOf (a'.tmps.getD 220 undef)).toNat) ?start ?round
    case start =>
      refine ⟨⟨?_, ?_, ?_, ?_, ?_, ?_, ?_⟩, ?_, ?_, 0, v, ivs, Nat.zero_le _, ?_, by omega, HL, ?_⟩
      all_goals first | rfl | skip
      have := HG.out
      exact Lib.hid (by rw [List.take_zero]; show GS w sr _ _ _ (Fq n sa ta ba rows tA tl bA wA wvs wvs wh gA gl none [] ivs (il ++ [])) 54 10 v _ _ W; rw [List.append_nil]; exact this)
    case round =>
      clear HG HL
      rintro a wr ⟨hS, h218, h219, j, v, us, hj, h220, hus, HL, HG⟩
      obtain ⟨u, hu, hug⟩ := open288 hS.size
      have p2 := hS.s2; have p3 := hS.s3; have p4 := hS.s4; have p5 := hS.s5; have p6 := hS.s6
      have hdf := hS.df
      rw [hug _ (by omega)] at p2 p3 p4 p5 p6 h218 h219 h220
      obtain ⟨tm, df⟩ := a
      dsimp only at hu hdf
      subst hu hdf
      clear hS hug
      rw [p2, p3, p4, p5, p6, h218, h219, h220]
      clear p2 p3 p4 p5 p6 h218 h219 h220
      by_cases hjm : j < m
      · have hjn : ((j : Int) < (m : Int)) = True := eq_true (by omega)
        obtain ⟨r, hr⟩ : ∃ r, rows[j]? = some r := ⟨_, List.getElem?_eq_getElem (by have := HM.out; omega)⟩
        have HC12j := HC12.out r (List.mem_of_getElem? hr)
        obtain ⟨⟨hcols, hcn, _, _⟩, hb0, hb1, _⟩ := HRO.out r (List.mem_of_getElem? hr)
        obtain ⟨tb, tf, rfl, htb, htc⟩ := setl_at HG.out.hold.tabs.1 (j := j) (x := tabL r.tab) (by rw [List.getElem?_map, hr]; rfl)
        have HRJ := Lib.hid hr
        have HCO := Lib.hid hcols
        obtain ⟨⟨rn, rca, rcn, rcc, rr1, rr2, rr3⟩, hrt⟩ : ∃ t, t = r.tab := ⟨_, rfl⟩
        rw [← hrt] at htc hcn HCO
        have t0 : wr.cell? ⟨tb, tf + j * 5, none⟩ = some (.string rn) := htc 0 _ rfl
        have t1 : wr.cell? ⟨tb, tf + j * 5 + 1, none⟩ = some (.slice rca rcn rcc) := htc 1 _ rfl
        have t2 : wr.cell? ⟨tb, tf + j * 5 + 2, none⟩ = some (.int .i64 rr1) := htc 2 _ rfl
        have t3 : wr.cell? ⟨tb, tf + j * 5 + 3, none⟩ = some (.int .i64 rr2) := htc 3 _ rfl
        have t4 : wr.cell? ⟨tb, tf + j * 5 + 4, none⟩ = some (.int .i64 rr3) := htc 4 _ rfl
        have hcn2 : rcn = r.cols.length := hcn
        have HCN := Lib.hid hcn2
        have hcn12 : rcn ≤ 12 := by omega
        have HBT := Lib.hid (show 0 ≤ r.beg ∧ r.beg ≤ 100000 from ⟨hb0, hb1⟩)
        have HW1 := fun O => Lib.hid (HG.out.keep (fq_stay ..) (below1 wr O))
        clear htc hr hcols hcn hcn2 hrt htb HC12j hb0 hb1
        go_wp2_with fail
        clear t0 t1 t2 t3 t4
        have HG5 := HW1 (.cells #[.string rn, .slice rca rcn rcc, .int .i64 rr1, .int .i64 rr2, .int .i64 rr3] 65)
        generalize wr.alloc (.cells #[.string rn, .slice rca rcn rcc, .int .i64 rr1, .int .i64 rr2, .int .i64 rr3] 65) = w5 at HG5 ⊢
        clear HW1 HG
        refine wp_loop (fun a' wx => Slots w a' ∧ a'.tmps.getD 218 undef = .slice (some ⟨tb, tf, none⟩) m c2 ∧ a'.tmps.getD 219 undef = .int .i64 m ∧ a'.tmps.getD 220 undef = .int .i64 j ∧ a'.tmps.getD 15 undef = .int .i64 j ∧ a'.tmps.getD 226 undef = .slice rca rcn rcc ∧ a'.tmps.getD 227 undef = .int .i64 rcn ∧ ∃ (k : Nat) (v : Value) (us : List (List Value)), k ≤ rcn ∧ a'.tmps.getD 228 undef = .int .i64 k ∧ us.length ≤ 30 + j * 12 + k ∧ Hid (∀ x ∈ us, x.length = 10) ∧ Hid (GS w sr #[xr0, xr1, xr2, xr3, xr4, .bool true, xr6, xr7, xr8, xr9, .slice oA q oc, xr11] #[.slice tA tl.length tc, .slice bA m bc, .int .i64 wd, .slice wA wvs.length wc, .slice gA gl.length gc, .bool gr, v, .slice none 0 0, .int .i64 lim] #[.slice sa m c1, .slice (some ⟨tb, tf, none⟩) m c2, .slice ba m c3, .bool false, .bool fo] (Fq n sa (some ⟨tb, tf, none⟩) ba rows tA tl bA wA wvs wvs wh gA gl none [] us (il ++ starR (rows.take j) ++ (r.cols.take k).mapIdx (colN r.beg))) 54 10 v us.length us.flatten wx)) (fun a' _ => rcn - (intOf (a'.tmps.getD 228 undef)).toNat) ?start ?round
        case start =>
          refine ⟨⟨?_, ?_, ?_, ?_, ?_, ?_, ?_⟩, ?_, ?_, ?_, ?_, ?_, ?_, 0, v, us, Nat.zero_le _, ?_, by omega, HL, ?_⟩
          all_goals first | rfl | skip
          have := HG5.out
          exact Lib.hid (by rw [List.take_zero, List.mapIdx_nil, List.append_nil]; exact this)
        case round =>
          clear HG5 HL
          rintro a wx ⟨hS, h218, h219, h220, h15, h226, h227, k, v, us, hk, h228, hus2, HL, HG⟩
          obtain ⟨u, hu, hug⟩ := open288 hS.size
          have p2 := hS.s2; have p3 := hS.s3; have p4 := hS.s4; have p5 := hS.s5; have p6 := hS.s6
          have hdf := hS.df
          rw [hug _ (by omega)] at p2 p3 p4 p5 p6 h218 h219 h220 h15 h226 h227 h228
          obtain ⟨tm, df⟩ := a
          dsimp only at hu hdf
          subst hu hdf
          clear hS hug
          rw [p2, p3, p4, p5, p6, h218, h219, h220, h15, h226, h227, h228]
          clear p2 p3 p4 p5 p6 h218 h219 h220 h15 h226 h227 h228
          by_cases hkc : k < rcn
          · have hkn : ((k : Int) < (rcn : Int)) = True := eq_true (by omega)
            obtain ⟨col, hcl⟩ : ∃ y, r.cols[k]? = some y := ⟨_, List.getElem?_eq_getElem (by have := HCN.out; omega)⟩
            obtain ⟨cb, co, hca, hcb, hcc⟩ := setl_at HCO.out (j := k) (x := colL col) (by rw [List.getElem?_map, hcl]; rfl)
            obtain rfl : rca = some ⟨cb, co, none⟩ := hca
            have HCL := Lib.hid hcl
            obtain ⟨cn, ct, cx⟩ := col
            have t0 : wx.cell? ⟨cb, co + k * 3, none⟩ = some (.string cn) := cell_kept (hcc 0 _ rfl) HG.out.cm.below
            have t1 : wx.cell? ⟨cb, co + k * 3 + 1, none⟩ = some (.int .i64 ct) := cell_kept (hcc 1 _ rfl) HG.out.cm.below
            have t2 : wx.cell? ⟨cb, co + k * 3 + 2, none⟩ = some (.bool cx) := cell_kept (hcc 2 _ rfl) HG.out.cm.below
            obtain ⟨bb, bo, rfl, hbb, hbc⟩ := setl_at HG.out.hold.begs.1 (j := j) (x := intL r.beg) (by rw [List.getElem?_map, HRJ.out]; rfl)
            have b0 : wx.cell? ⟨bb, bo + j, none⟩ = some (.int .i64 r.beg) := by have := hbc 0 _ rfl; rwa [Nat.mul_one, Nat.add_zero] at this
            have HW2 := fun O => Lib.hid (HG.out.keep (fq_stay ..) (below1 wx O))
            have z0 : (wx.alloc (.cells #[.string cn, .int .i64 ct, .bool cx] 81)).cell? ⟨bb, bo + j, none⟩ = some (.int .i64 r.beg) := cell_kept b0 (below1 wx _)
            have z1 : (wx.alloc (.cells #[.string cn, .int .i64 ct, .bool cx] 81)).cell? ⟨wx.heap.size, 1, none⟩ = some (.int .i64 ct) := cell_of_row _ _ _ _ _ _ (heap_alloc_new wx _)
            obtain ⟨xb, hxb⟩ : ∃ n, n = wx.heap.size := ⟨_, rfl⟩
            clear hcc hbc hcb hbb hcl
            go_upto_region 39 with (fail)
            have HG6 := HW2 (.cells #[.string cn, .int .i64 ct, .bool cx] 81)
            rw [← hxb] at z1 ⊢
            clear b0 t0 t1 t2 hxb HW2 HG
            generalize wx.alloc (.cells #[.string cn, .int .i64 ct, .bool cx] 81) = w6 at HG6 z0 z1 ⊢
            have q6 := cell_of_row _ _ 6 _ _ _ HG6.out.cm.q
            have y6 := frozen_of_row _ _ 6 _ _ HG6.out.cm.q
            have c2' : w6.cell? ⟨w.heap.size + 4, 2, none⟩ = some (.slice (some ⟨bb, bo, none⟩) m c3) := cell_of_row _ _ 2 _ _ _ HG6.out.cm.sc
            have hz6 := heap_lt HG6.out.cm.q
            have hz7 := heap_lt HG6.out.cm.sc
            have hwr : IntKind.i64.wrap (r.beg + (k : Int)) = r.beg + (k : Int) := IntWalk.i64_in _ (by have := HBT.out; omega)
            go_region_law (first
              | (refine step_one 45 54 10 112 nodeZ Tryz.underlying45 info54 rfl (by omega) (by omega) _ (by rfl) (.tmp 234) (.tmp 245) (by rfl) (w.heap.size + 5) v us.length us.flatten (by rfl) (own_kept HG6.out.own (show Below w6.heap.size w6 _ from by go_grown) (Nat.le_refl _)) _ 1 (ndZ (colN r.beg k ⟨cn, ct, cx⟩)) (by rfl) (by rfl) (by rfl) (show ((w6.alloc _).drew).heap[w6.heap.size]? = _ from heap_alloc_new w6 _) (by omega) (by have := HG6.out.cm.lt; simp; omega) ?_
                 intro v8 w8 hown hgr hv8
                 obtain ⟨A8, c8, rfl⟩ := own_slice hown
                 have HM := Lib.hid (((HG6.out.nd (leaf_nd hn r.beg k ⟨cn, ct, cx⟩)).keep (fq_stay ..) (below1 w6 _).drew).app (fq_stay ..) hown hgr (by first | exact hv8 | simpa using hv8))
                 have y6b := frozen_of_row _ _ 6 _ _ HM.out.cm.q
                 have q6b := cell_of_row _ _ 6 _ _ _ HM.out.cm.q
                 have hz8 := heap_lt HM.out.cm.q
                 clear hown hgr hv8)
              | fail)
            all_goals
              have HM2 := Lib.hid (HM.out.setQ (fq_stay ..) 6 (.slice A8 (us.length + 1) c8))
              clear HM HG6
              go_wp2_with fail
              refine ⟨⟨⟨?_, ?_, ?_, ?_, ?_, ?_, ?_⟩, ?_, ?_, ?_, ?_, ?_, ?_, k + 1, .slice A8 (us.length + 1) c8, us ++ [ndZ (colN r.beg k ⟨cn, ct, cx⟩)], by omega, ?_, by rw [List.length_append]; show us.length + 1 ≤ _; omega, Lib.hid ?_, Lib.hid ?_⟩, ?_⟩
              all_goals first | rfl | skip
              · intro x hx
                rcases List.mem_append.1 hx with h | h
                · exact HL.out x h
                · obtain rfl : x = ndZ _ := by simpa using h
                  rfl
              · have := HM2.out
                rw [star_snoc HCL.out, ← List.append_assoc, List.length_append, List.flatten_append]
                simpa using this
              · show rcn - (intOf (.int .i64 _)).toNat < rcn - (intOf (.int .i64 _)).toNat
                simp [intOf] <;> omega
          · obtain rfl : k = rcn := by omega
            have hkn : ((k : Int) < (k : Int)) = False := eq_false (by omega)
            go_wp2_with fail
            refine ⟨⟨⟨?_, ?_, ?_, ?_, ?_, ?_, ?_⟩, ?_, ?_, j + 1, v, us, by omega, ?_, by omega, HL, Lib.hid ?_⟩, ?_⟩
            all_goals first | rfl | skip
            · have := HG.out
              rw [show r.cols.take k = r.cols from List.take_of_length_le (by have := HCN.out; omega)] at this
              rw [star_more HRJ.out, ← List.append_assoc]
              exact this
            · show m - (intOf (.int .i64 _)).toNat < m - (intOf (.int .i64 _)).toNat
              simp [intOf] <;> omega
      · obtain rfl : j = m := by omega
        have hjn : ((j : Int) < (j : Int)) = False := eq_false (by omega)
        have hT : rows.take j = rows := List.take_of_length_le (by have := HM.out; omega)
        rw [hT] at HG
        obtain ⟨iA, ic, rfl, hG2⟩ := HG.out.items HL.out
        have HG2 := Lib.hid hG2
        clear hG2 HG
        go_wp2_with fail
        refine HK.out _ _ (HSEG.out _ _ _ _ _ ⟨?_, ?_, ?_, ?_, ?_, ?_, ?_⟩ HG2.out) <;> rfl
end Go.Proofs.YthdmfaepjemopaaGreatDoor
namespace Go.Proofs.YthdmfaepjemopaaGreatDoor
open Go.RowKit

set_option maxRecDepth 100000 in
set_option maxHeartbeats 4000000 in
theorem folds_any (x : Ex) (w : World) : Calls Tryz.prog 38 #[exV x] w (RetV (.bool (foldK x.kind)) w) := by
  obtain ⟨k, op, ⟨lk, ln, lf, ls⟩, tn, nm, ng, xa, xc, xs⟩ := x
  unfold exV
  dsimp only [Ex.kind, Ex.op, Ex.lit, Ex.table, Ex.name, Ex.neg, Ex.A, Ex.c, Ex.args]
  generalize xs.length = q
  have sf := store_float
  by_cases h : 10 ≤ k
  · have g1 : ((10 : Int) ≤ k) = True := eq_true h
    have e : foldK k = decide (k ≤ 13) := by unfold foldK; rw [decide_eq_true h, Bool.true_and]
    rw [e]
    go_enter Tryz.func38, Tryz.ntmps38
    go_wp2_with fail
    go_ret
    exact ⟨rfl, below1 w _⟩
  · have g1 : ((10 : Int) ≤ k) = False := eq_false h
    have e : foldK k = false := by unfold foldK; rw [decide_eq_false h, Bool.false_and]
    rw [e]
    go_enter Tryz.func38, Tryz.ntmps38
    go_wp2_with fail
    go_ret
    exact ⟨rfl, below1 w _⟩
set_option maxRecDepth 100000 in
set_option maxHeartbeats 4000000 in
theorem index_expr (A : Option Addr) (c : Nat) (l : List Ex) (w : World) (hc : CellsAt w 10 A (l.map exL)) : Calls Tryz.prog 66 #[.slice A l.length c, .func (.func 38) #[] #[]] w (fun e w' => ∃ r : Int, e = .returned (.int .i64 r) ∧ decide (0 ≤ r) = l.any (fun x => foldK x.kind) ∧ Below w.heap.size w w') := by
  obtain ⟨n, hn⟩ : ∃ n, n = l.length := ⟨_, rfl⟩
  have hs : n ≤ maxLen := by rw [hn]; have := hc.1; rwa [List.length_map] at this
  unfold maxLen at hs
  have H := Lib.hid hc
  rw [← hn]
  have HN := Lib.hid hn
  have eg : ∀ args w, (callFunc 38 args).run Tryz.prog w = .ok (.enter 38 args) w := Go.Proofs.enters_of Tryz.func38 (by kernel_rfl) rfl
  clear hc hn
  go_enter Tryz.func66, Tryz.ntmps66
  go_wp2_with fail
  go_loopw [8] (fun i wr => ∃ k : Nat, k ≤ n ∧ i = .int .i64 k ∧ Below w.heap.size w wr ∧ Hid (∀ x ∈ l.take k, foldK x.kind = false)) (fun i _ => n - (intOf i).toNat)
  case atStart => exact ⟨0, Nat.zero_le _, rfl, Below.refl _ _, Lib.hid (fun x hx => by cases hx)⟩
  case round =>
    obtain ⟨k, hk, rfl, hB, HC⟩ := hrel
    obtain ⟨wo, rfl⟩ : ∃ wo : World, wo = wr := ⟨_, rfl⟩
    have HB := Lib.hid hB
    clear hB
    have sf := store_float
    by_cases hlt : k < n
    · have hkn : ((k : Int) < (n : Int)) = True := eq_true (by omega)
      obtain ⟨y, hy⟩ : ∃ y, l[k]? = some y := ⟨_, List.getElem?_eq_getElem (by have := HN.out; omega)⟩
      obtain ⟨eb, eo, rfl, heb, hyc⟩ := ex_at H.out hy
      have t0 : wo.cell? ⟨eb, eo + k * 10, none⟩ = some (.int .i64 y.kind) := cell_kept (hyc 0 _ rfl) HB.out
      have t1 := cell_kept (hyc 1 _ rfl) HB.out
      have t2 := cell_kept (hyc 2 _ rfl) HB.out
      have t3 := cell_kept (hyc 3 _ rfl) HB.out
      have t4 := cell_kept (hyc 4 _ rfl) HB.out
      have t5 := cell_kept (hyc 5 _ rfl) HB.out
      have t6 := cell_kept (hyc 6 _ rfl) HB.out
      have t7 := cell_kept (hyc 7 _ rfl) HB.out
      have t8 := cell_kept (hyc 8 _ rfl) HB.out
      have t9 := cell_kept (hyc 9 _ rfl) HB.out
      have HF := folds_any y wo
      have HYJ := Lib.hid hy
      clear hyc hy heb
      cases hq : foldK y.kind with
      | true =>
        rw [hq] at HF
        have HR := Lib.hid (show decide ((0 : Int) ≤ (k : Int)) = l.any (fun x => foldK x.kind) by
          rw [List.any_eq_true.2 ⟨y, List.mem_of_getElem? HYJ.out, hq⟩, decide_eq_true (by omega)])
        clear hq
        go_wp2_with (first
          | (go_at_fn 38; (with_reducible refine HF.mono ?_); rintro e w2 ⟨rfl, hB2⟩)
          | fail)
        go_ret
        exact ⟨k, rfl, HR.out, HB.out.trans (hB2.mono HB.out.size)⟩
      | false =>
        rw [hq] at HF
        have HD := Lib.hid (show ∀ x ∈ l.take (k + 1), foldK x.kind = false from fun x hx => by
          rw [List.take_add_one, HYJ.out, List.mem_append] at hx
          rcases hx with hx | hx
          · exact HC.out x hx
          · obtain rfl : x = y := by simpa using hx
            exact hq)
        clear hq
        go_wp2_with (first
          | (go_at_fn 38; (with_reducible refine HF.mono ?_); rintro e w2 ⟨rfl, hB2⟩)
          | fail)
        go_roundw
        case rel => exact ⟨k + 1, by omega, by go_num, HB.out.trans (hB2.mono HB.out.size), HD⟩
        case measure => simp [intOf] <;> omega
    · obtain rfl : k = n := by omega
      have hkn : ((k : Int) < (k : Int)) = False := eq_false (by omega)
      have HR := Lib.hid (show decide ((0 : Int) ≤ (-1 : Int)) = l.any (fun x => foldK x.kind) by
        have := HC.out
        rw [List.take_of_length_le (by have := HN.out; omega)] at this
        rw [eq_comm, show decide ((0 : Int) ≤ (-1 : Int)) = false from rfl, List.any_eq_false]
        intro x hx
        rw [this x hx]
        decide)
      go_wp2_with fail
      go_ret
      exact ⟨-1, rfl, HR.out, HB.out⟩
set_option maxHeartbeats 4000000 in
theorem has_fold (A : Option Addr) (c : Nat) (l : List Ex) (w : World) (hc : CellsAt w 10 A (l.map exL)) : Calls Tryz.prog 37 #[.slice A l.length c, .func (.func 38) #[] #[]] w (RetV (.bool (l.any fun x => foldK x.kind)) w) := by
  have HI := Lib.hid (index_expr A c l w hc)
  generalize l.any (fun x => foldK x.kind) = b at HI
  generalize l.length = n at HI
  clear hc
  go_enter Tryz.func37, Tryz.ntmps37
  go_wp2_with (first
    | (go_at_call 66; (with_reducible refine HI.out.mono ?_); rintro e w' ⟨r, rfl, hr, hB⟩)
    | fail)
  go_ret
  exact ⟨rfl, hB⟩
end Go.Proofs.YthdmfaepjemopaaGreatDoor
namespace Go.Proofs.YthdmfaepjemopaaGreatDoor
open Go.RowKit

def itemR (n : Nat) (rows : List Row) (gr : Bool) (gl : List Int) (x : Ex) : Except Int Nd := match bindR n rows (foldK x.kind) x with
  | .error e => .error e
  | .ok p => if gr = false ∨ foldK x.kind = true ∨ (p.kind = 2 ∧ gl.contains p.pos = true) then .ok p else .error 132
set_option maxRecDepth 100000 in
set_option maxHeartbeats 16000000 in
theorem seg2a (n : Nat) (sa ta ba : Option Addr) (rows : List Row) (tA : Option Addr) (tl : List Int) (bA wA : Option Addr) (wvs : List (List Value)) (wh : List Nd) (gA : Option Addr) (gl : List Int) (w : World) (sr : Array Value) (xr0 xr1 xr2 xr3 xr4 xr7 xr8 xr9 xr11 : Value) (star : Bool) (xA : Option Addr) (xq xc : Nat) (xs : List Ex) (oA : Option Addr) (q oc : Nat) (ol : List (Ex × Bool)) (tc bc wc gc c1 c2 c3 : Nat) (wd : Int) (gr fo0 : Bool) (lim : Int) (R : Except Int Qy)
    (hn : 0 < n) (hxq : xq = xs.length) (hx30 : xq ≤ 30) (hxs : ExsAt w n xA xs) (hxm : ∀ x ∈ xs, SmallX n x) (hq : q = ol.length) (hq9 : q ≤ 12) (hol : CellsAt w 11 oA (ol.map ordL)) (hR : RowsOk w rows) (hm : rows.length ≤ 4) (hc12 : ∀ r ∈ rows, r.cols.length ≤ 12)
    (hRR : R = match eachR (itemR n rows gr gl) xs with | .error e => .error e | .ok il => match eachR (ordR rows gr gl) ol with | .error e => .error e | .ok os => .ok ⟨tl, rows.map Row.beg, wd, wh, gl, gr, il ++ (if star then starR rows else []), os, lim⟩)
    (a : Act) (W : World) (hS : Slots w a)
    (hG : GS w sr #[xr0, xr1, xr2, xr3, xr4, .bool star, .slice xA xq xc, xr7, xr8, xr9, .slice oA q oc, xr11] #[.slice tA tl.length tc, .slice bA rows.length bc, .int .i64 wd, .slice wA wvs.length wc, .slice gA gl.length gc, .bool gr, .slice none 0 0, .slice none 0 0, .int .i64 lim] #[.slice sa rows.length c1, .slice ta rows.length c2, .slice ba rows.length c3, .bool false, .bool fo0] (Fq n sa ta ba rows tA tl bA wA wvs wvs wh gA gl none [] [] []) 54 10 (.slice none 0 0) 0 [] W) :
    (chC 10).wp Tryz.prog (bodyPost Tryz.prog Tryz.f22 (ChooseO n w R)) a W := by
  have HG := Lib.hid hG
  have xb6 : W.cell? ⟨w.heap.size + 1, 6, none⟩ = some (.slice xA xq xc) := cell_of_row _ _ 6 _ _ _ hG.cm.xb
  have HSEG := Lib.hid (show ∀ ivs il v fo a W, eachR (itemR n rows gr gl) xs = .ok il → (∀ x ∈ ivs, x.length = 10) → ivs.length ≤ 30 → Slots w a → GS w sr #[xr0, xr1, xr2, xr3, xr4, .bool star, .slice xA xq xc, xr7, xr8, xr9, .slice oA q oc, xr11] #[.slice tA tl.length tc, .slice bA rows.length bc, .int .i64 wd, .slice wA wvs.length wc, .slice gA gl.length gc, .bool gr, v, .slice none 0 0, .int .i64 lim] #[.slice sa rows.length c1, .slice ta rows.length c2, .slice ba rows.length c3, .bool false, .bool fo] (Fq n sa ta ba rows tA tl bA wA wvs wvs wh gA gl none [] ivs il) 54 10 v ivs.length ivs.flatten W → (chC 11).wp Tryz.prog (bodyPost Tryz.prog Tryz.f22 (ChooseO n w R)) a W from fun ivs il v fo a W hil hl h30 hS hG => seg3 n sa ta ba rows tA tl bA wA wvs wh gA gl ivs il w sr xr0 xr1 xr2 xr3 xr4 (.slice xA xq xc) xr7 xr8 xr9 xr11 star oA q oc ol tc bc wc gc c1 c2 c3 wd gr fo lim R v hn hq hq9 hol hR hm hc12 hl h30 (by rw [hRR, hil]; first | done | (cases eachR (ordR rows gr gl) ol <;> rfl)) a W hS hG)
  have HRN := Lib.hid (show ∀ (j : Nat) (y : Ex) (il : List Nd), eachR (itemR n rows gr gl) (xs.take j) = .ok il → xs[j]? = some y → ∀ er, itemR n rows gr gl y = .error er → R = .error er from fun j y il h1 h2 er h3 => by rw [hRR, each_fail h2 h1 h3])
  have HXQ := Lib.hid hxq
  have HXS := Lib.hid hxs
  have HXM := Lib.hid hxm
  have HRO := Lib.hid hR
  have HC2N := fun w => check_no 132 w
  have HC2Y := fun w => check_yes 132 w
  clear hG hRR hR hc12 hol hq hxs hxm hxq
  obtain ⟨u, hu, hug⟩ := open288 hS.size
  have p2 := hS.s2; have p3 := hS.s3; have p4 := hS.s4; have p5 := hS.s5; have p6 := hS.s6
  have hdf := hS.df
  rw [hug _ (by omega)] at p2 p3 p4 p5 p6
  obtain ⟨tm, df⟩ := a
  dsimp only at hu hdf
  subst hu hdf
  clear hS hug
  rw [p2, p3, p4, p5, p6]
  clear p2 p3 p4 p5 p6
  conv => arg 2; whnf
  refine wp_seq_k fun K hK => ?_
  have HK := Lib.hid (show ∀ a w', (chC 11).wp Tryz.prog (bodyPost Tryz.prog Tryz.f22 (ChooseO n w R)) a w' → K a w' from hK)
  clear hK
  go_wp2_with fail
  clear xb6
  refine wp_loop (fun a' wr => Slots w a' ∧ a'.tmps.getD 176 undef = .slice xA xq xc ∧ a'.tmps.getD 177 undef = .int .i64 xq ∧ ∃ (j : Nat) (v : Value) (us : List (List Value)) (il : List Nd) (fo : Bool), j ≤ xq ∧ a'.tmps.getD 178 undef = .int .i64 j ∧ us.length = j ∧ Hid (eachR (itemR n rows gr gl) (xs.take j) = .ok il) ∧ Hid (∀ x ∈ us, x.length = 10) ∧ Hid (GS w sr #[xr0, xr1, xr2, xr3, xr4, .bool star, .slice xA xq xc, xr7, xr8, xr9, .slice oA q oc, xr11] #[.slice tA tl.length tc, .slice bA rows.length bc, .int .i64 wd, .slice wA wvs.length wc, .slice gA gl.length gc, .bool gr, v, .slice none 0 0, .int .i64 lim] #[.slice sa rows.length c1, .slice ta rows.length c2, .slice ba rows.length c3, .bool false, .bool fo] (Fq n sa ta ba rows tA tl bA wA wvs wvs wh gA gl none [] us il) 54 10 v us.length us.flatten wr)) (fun a' _ => xq - (intOf (a'.tmps.getD 178 undef)).toNat) ?start ?round
  case start =>
    refine ⟨⟨?_, ?_, ?_, ?_, ?_, ?_, ?_⟩, ?_, ?_, 0, .slice none 0 0, [], [], fo0, Nat.zero_le _, ?_, rfl, Lib.hid rfl, Lib.hid (fun x hx => by cases hx), HG⟩
    all_goals rfl
  case round =>
    clear HG
    rintro a wr ⟨hS, h176, h177, j, v, us, il, fo, hj, h178, hus, HE, HL, HG⟩
    obtain ⟨u, hu, hug⟩ := open288 hS.size
    have p2 := hS.s2; have p3 := hS.s3; have p4 := hS.s4; have p5 := hS.s5; have p6 := hS.s6
    have hdf := hS.df
    rw [hug _ (by omega)] at p2 p3 p4 p5 p6 h176 h177 h178
    obtain ⟨tm, df⟩ := a
    dsimp only at hu hdf
    subst hu hdf
    clear hS hug
    rw [p2, p3, p4, p5, p6, h176, h177, h178]
    clear p2 p3 p4 p5 p6 h176 h177 h178
    have HUS := Lib.hid hus
    clear hus
    by_cases hjq : j < xq
    · have hjn : ((j : Int) < (xq : Int)) = True := eq_true (by omega)
      obtain ⟨x, hx⟩ : ∃ y, xs[j]? = some y := ⟨_, List.getElem?_eq_getElem (by have := HXQ.out; omega)⟩
      obtain ⟨eb, eo, rfl, heb, hyc⟩ := ex_at HXS.out.1 hx
      have HXJ := Lib.hid hx
      have hzs := heap_lt HG.out.cm.sc
      have t0 : wr.cell? ⟨eb, eo + j * 10, none⟩ = some (.int .i64 x.kind) := cell_kept (hyc 0 _ rfl) HG.out.cm.below
      have t1 := cell_kept (hyc 1 _ rfl) HG.out.cm.below
      have t2 := cell_kept (hyc 2 _ rfl) HG.out.cm.below
      have t3 := cell_kept (hyc 3 _ rfl) HG.out.cm.below
      have t4 := cell_kept (hyc 4 _ rfl) HG.out.cm.below
      have t5 := cell_kept (hyc 5 _ rfl) HG.out.cm.below
      have t6 := cell_kept (hyc 6 _ rfl) HG.out.cm.below
      have t7 := cell_kept (hyc 7 _ rfl) HG.out.cm.below
      have t8 := cell_kept (hyc 8 _ rfl) HG.out.cm.below
      have t9 := cell_kept (hyc 9 _ rfl) HG.out.cm.below
      obtain ⟨fk, hfk⟩ : ∃ f, f = foldK x.kind := ⟨_, rfl⟩
      have HFK := Lib.hid hfk
      have HF := Lib.hid (show ∀ W, Calls Tryz.prog 38 #[exV x] W (RetV (.bool fk) W) from fun W => by rw [hfk]; exact folds_any x W)
      have sf := store_float
      clear hyc hx heb hfk
      go_upto_region 28 with (first
        | (go_at_call 38; (with_reducible refine (HF.out _).mono ?_); rintro e w2 ⟨rfl, hB2⟩
           have HG2 := Lib.hid ((HG.out.keep (fq_stay ..) (below1 wr _)).keep (fq_stay ..) hB2)
           have HG3 := Lib.hid (HG2.out.setC (fq_stay ..) 4 (.bool fk))
           have HBX := Lib.hid ((heap_setFar (W := w2) (b := w.heap.size + 4) (j := 4) (k := wr.heap.size) (.bool fk) (by omega)).trans ((hB2.block wr.heap.size (by simp)).trans (heap_alloc_new wr _)))
           have y4 := frozen_of_row _ _ 4 _ _ HG2.out.cm.sc
           have q4 := cell_of_row _ _ 4 _ _ _ HG2.out.cm.sc
           have hz2 := heap_lt HG2.out.cm.sc
           have HZ2 := Lib.hid (Nat.lt_of_lt_of_le (show wr.heap.size < (wr.alloc _).heap.size by simp) hB2.size)
           clear hB2)
        | fail)
      clear t0 t1 t2 t3 t4 t5 t6 t7 t8 t9 y4 q4 hz2 hzs
      have HZ3 := Lib.hid (show wr.heap.size < (w2.setCell ⟨w.heap.size + 4, 4, none⟩ (.bool fk)).heap.size by simpa [World.setCell] using HZ2.out)
      generalize (w2.setCell ⟨w.heap.size + 4, 4, none⟩ (.bool fk)) = w3 at HG3 HBX HZ3 ⊢
      clear HG2 HZ2
      have HG3 := Lib.hid (show GS w sr #[xr0, xr1, xr2, xr3, xr4, .bool star, .slice (some ⟨eb, eo, none⟩) xq xc, xr7, xr8, xr9, .slice oA q oc, xr11] #[.slice tA tl.length tc, .slice bA rows.length bc, .int .i64 wd, .slice wA wvs.length wc, .slice gA gl.length gc, .bool gr, v, .slice none 0 0, .int .i64 lim] #[.slice sa rows.length c1, .slice ta rows.length c2, .slice ba rows.length c3, .bool false, .bool fk] (Fq n sa ta ba rows tA tl bA wA wvs wvs wh gA gl none [] us il) 54 10 v us.length us.flatten w3 from HG3.out)
      obtain ⟨s0, s1, s2, s3, s4⟩ := row5 HG3.out.cm.sc
      obtain ⟨x0, x1, x2, x3, x4, x5, x6, x7, x8, x9⟩ := row10 HBX.out
      have HEX := Lib.hid (show Calls Tryz.prog 25 #[.agg #[.slice sa rows.length c1, .slice ta rows.length c2, .slice ba rows.length c3, .bool false, .bool fk], exV x] w3 (ExprO n w3 (bindR n rows fk x)) from by
        have := expr_any (s := ⟨sa, c1, ta, c2, ba, c3, rows⟩) (by show rows.length ≤ 1000; omega) n x false fk w3 (sc_of HG3.out.hold HG3.out.cm.below HRO.out c1 c2 c3) ((HXS.out.2 x (List.mem_of_getElem? HXJ.out)).keep HG3.out.cm.below) (HXM.out x (List.mem_of_getElem? HXJ.out))
        rwa [Bool.not_false, Bool.and_true] at this)
      cases hb : bindR n rows fk x with
      | error er =>
        obtain rfl : R = .error er := HRN.out j x il HE.out HXJ.out er (by unfold itemR; rw [← HFK.out, hb])
        rw [hb] at HEX
        clear hb
        go_wp2_with (first
          | (go_at_call 25; (with_reducible refine HEX.out.mono ?_); rintro e w5 ⟨hB5, rfl⟩)
          | fail)
        exact ⟨rfl, HG3.out.cm.below.trans (hB5.mono HG3.out.cm.below.size), rfl⟩
      | ok p =>
        rw [hb] at HEX
        have HIT := Lib.hid (show itemR n rows gr gl x = if gr = false ∨ fk = true ∨ (p.kind = 2 ∧ gl.contains p.pos = true) then .ok p else .error 132 from by unfold itemR; rw [← HFK.out, hb])
        clear hb
        go_upto_region 29 with (first
          | (go_at_call 25; (with_reducible refine HEX.out.mono ?_); rintro e w5 ⟨hB5, A5, c5, q5, rfl, hN5⟩
             have HG5 := Lib.hid (HG3.out.keep (fq_stay ..) hB5)
             have HN5 := Lib.hid (show NdAt clP (okG w v) w5 n (ndL p (clP p.lit) A5 q5 c5) p from hN5.mono fun b h1 h2 => ⟨Nat.le_trans HG3.out.cm.lt h1, fun e => by have := (own_base HG3.out.own b e).2; omega⟩)
             clear hB5 hN5)
          | fail)
        have HNX := Lib.hid (heap_alloc_new w5 (.cells #[.int .i64 p.kind, .string p.op, .int .i64 (clP p.lit).k, .int .i64 (clP p.lit).n, .float .f64 (clP p.lit).f, .string (clP p.lit).s, .int .i64 p.pos, .bool p.neg, .int .i64 p.ty, .slice A5 q5 c5] 54))
        have HG6 := Lib.hid (HG5.out.keep (fq_stay ..) (below1 w5 (.cells #[.int .i64 p.kind, .string p.op, .int .i64 (clP p.lit).k, .int .i64 (clP p.lit).n, .float .f64 (clP p.lit).f, .string (clP p.lit).s, .int .i64 p.pos, .bool p.neg, .int .i64 p.ty, .slice A5 q5 c5] 54)))
        have HN6 := Lib.hid (HN5.out.keep (below1 w5 (.cells #[.int .i64 p.kind, .string p.op, .int .i64 (clP p.lit).k, .int .i64 (clP p.lit).n, .float .f64 (clP p.lit).f, .string (clP p.lit).s, .int .i64 p.pos, .bool p.neg, .int .i64 p.ty, .slice A5 q5 c5] 54)))
        obtain ⟨nb, hnb⟩ : ∃ b, b = w5.heap.size := ⟨_, rfl⟩
        rw [← hnb] at HNX ⊢
        clear hnb s0 s1 s2 s3 s4 x0 x1 x2 x3 x4 x5 x6 x7 x8 x9 HEX HG5 HN5 HBX HZ3
        generalize w5.alloc (.cells #[.int .i64 p.kind, .string p.op, .int .i64 (clP p.lit).k, .int .i64 (clP p.lit).n, .float .f64 (clP p.lit).f, .string (clP p.lit).s, .int .i64 p.pos, .bool p.neg, .int .i64 p.ty, .slice A5 q5 c5] 54) = w6 at HNX HG6 HN6 ⊢
        obtain ⟨q0, q1, q2, q3, q4, q5', q6, q7, q8⟩ := row9 HG6.out.cm.q
        have s4 : w6.cell? ⟨w.heap.size + 4, 4, none⟩ = some (.bool fk) := cell_of_row _ _ 4 _ _ _ HG6.out.cm.sc
        obtain ⟨n0, n1, n2, n3, n4, n5, n6, n7, n8, n9⟩ := row10 HNX.out
        cases gr with
        | false =>
          have HR := Lib.hid (each_snoc HXJ.out HE.out (HIT.out.trans (if_pos (Or.inl rfl))))
          go_upto_region 30 with (first
            | (go_at_call 24; (with_reducible refine (HC2Y _).mono ?_); rintro e w' ⟨rfl, rfl⟩)
            | fail)
          have HT := Lib.hid (And.intro HG6.out (And.intro HNX.out HN6.out))
          clear q0 q1 q2 q3 q4 q5' q6 q7 q8 s4 n0 n1 n2 n3 n4 n5 n6 n7 n8 n9
          obtain ⟨n0, n1, n2, n3, n4, n5, n6, n7, n8, n9⟩ := row10 HT.out.2.1
          have q6 := cell_of_row _ _ 6 _ _ _ HT.out.1.cm.q
          go_wp2_with (first
            | (at_builtin; refine list_one 45 54 10 112 nodeZ Tryz.underlying45 info54 rfl (by omega) (by omega) _ rfl _ _ rfl (w.heap.size + 5) v us.length us.flatten rfl (HT.out.1.keep (fq_stay ..) (below1 w6 _)).own _ 1 (ndL p (clP p.lit) A5 q5 c5) rfl rfl rfl (heap_alloc_new w6 _) ?c3 ?c4 ?_)
            | fail)
          case c3 => have := HUS.out; omega
          case c4 => have := HT.out.1.cm.lt; simp; omega
          intro v8 w8 hown hgr hv8
          obtain ⟨A8, c8, rfl⟩ := own_slice hown
          have HM := Lib.hid (((HT.out.1.nd HT.out.2.2).keep (fq_stay ..) (below1 w6 _)).app (fq_stay ..) hown hgr (by first | exact hv8 | simpa using hv8))
          have HM2 := Lib.hid (HM.out.setQ (fq_stay ..) 6 (.slice A8 (us.length + 1) c8))
          have y6b := frozen_of_row _ _ 6 _ _ HM.out.cm.q
          have q6b := cell_of_row _ _ 6 _ _ _ HM.out.cm.q
          have hz8 := heap_lt HM.out.cm.q
          clear hown hgr hv8
          go_wp2_with fail
          refine ⟨⟨⟨?_, ?_, ?_, ?_, ?_, ?_, ?_⟩, ?_, ?_, j + 1, .slice A8 (us.length + 1) c8, us ++ [ndL p (clP p.lit) A5 q5 c5], il ++ [p], fk, by omega, ?_, by rw [List.length_append, HUS.out]; rfl, HR, Lib.hid ?_, Lib.hid ?_⟩, ?_⟩
          all_goals first | rfl | skip
          · intro y hy
            rcases List.mem_append.1 hy with h | h
            · exact HL.out y h
            · obtain rfl : y = ndL p (clP p.lit) A5 q5 c5 := by simpa using h
              rfl
          · have := HM2.out
            rw [List.length_append, List.flatten_append]
            simpa using this
          · show xq - (intOf (.int .i64 _)).toNat < xq - (intOf (.int .i64 _)).toNat
            simp [intOf] <;> omega
        | true =>
          cases fk with
          | true =>
            have HR := Lib.hid (each_snoc HXJ.out HE.out (HIT.out.trans (if_pos (Or.inr (Or.inl rfl)))))
            go_upto_region 30 with (first
              | (go_at_call 24; (with_reducible refine (HC2Y _).mono ?_); rintro e w' ⟨rfl, rfl⟩)
              | fail)
            have HT := Lib.hid (And.intro HG6.out (And.intro HNX.out HN6.out))
            clear q0 q1 q2 q3 q4 q5' q6 q7 q8 s4 n0 n1 n2 n3 n4 n5 n6 n7 n8 n9
            obtain ⟨n0, n1, n2, n3, n4, n5, n6, n7, n8, n9⟩ := row10 HT.out.2.1
            have q6 := cell_of_row _ _ 6 _ _ _ HT.out.1.cm.q
            go_wp2_with (first
              | (at_builtin; refine list_one 45 54 10 112 nodeZ Tryz.underlying45 info54 rfl (by omega) (by omega) _ rfl _ _ rfl (w.heap.size + 5) v us.length us.flatten rfl (HT.out.1.keep (fq_stay ..) (below1 w6 _)).own _ 1 (ndL p (clP p.lit) A5 q5 c5) rfl rfl rfl (heap_alloc_new w6 _) ?c3 ?c4 ?_)
              | fail)
            case c3 => have := HUS.out; omega
            case c4 => have := HT.out.1.cm.lt; simp; omega
            intro v8 w8 hown hgr hv8
            obtain ⟨A8, c8, rfl⟩ := own_slice hown
            have HM := Lib.hid (((HT.out.1.nd HT.out.2.2).keep (fq_stay ..) (below1 w6 _)).app (fq_stay ..) hown hgr (by first | exact hv8 | simpa using hv8))
            have HM2 := Lib.hid (HM.out.setQ (fq_stay ..) 6 (.slice A8 (us.length + 1) c8))
            have y6b := frozen_of_row _ _ 6 _ _ HM.out.cm.q
            have q6b := cell_of_row _ _ 6 _ _ _ HM.out.cm.q
            have hz8 := heap_lt HM.out.cm.q
            clear hown hgr hv8
            go_wp2_with fail
            refine ⟨⟨⟨?_, ?_, ?_, ?_, ?_, ?_, ?_⟩, ?_, ?_, j + 1, .slice A8 (us.length + 1) c8, us ++ [ndL p (clP p.lit) A5 q5 c5], il ++ [p], true, by omega, ?_, by rw [List.length_append, HUS.out]; rfl, HR, Lib.hid ?_, Lib.hid ?_⟩, ?_⟩
            all_goals first | rfl | skip
            · intro y hy
              rcases List.mem_append.1 hy with h | h
              · exact HL.out y h
              · obtain rfl : y = ndL p (clP p.lit) A5 q5 c5 := by simpa using h
                rfl
            · have := HM2.out
              rw [List.length_append, List.flatten_append]
              simpa using this
            · show xq - (intOf (.int .i64 _)).toNat < xq - (intOf (.int .i64 _)).toNat
              simp [intOf] <;> omega
          | false =>
            by_cases hk2 : p.kind = 2
            · have hkk : (p.kind == 2) = true := beq_iff_eq.2 hk2
              have HAS := Lib.hid (has_ints gA gc gl p.pos w6 HG6.out.hold.gc.ints)
              cases hh : gl.contains p.pos with
              | false =>
                obtain rfl : R = .error 132 := HRN.out j x il HE.out HXJ.out 132 (HIT.out.trans (if_neg (fun h => by rcases h with h | h | h <;> first | (cases h; done) | (rw [hh] at h; cases h.2; done))))
                rw [hh] at HAS
                clear hk2 hh
                go_wp2_with (first
                  | (go_at_call 39; (with_reducible refine HAS.out.mono ?_); rintro e w7 ⟨rfl, hB7⟩
                     have HG7 := Lib.hid (HG6.out.keep (fq_stay ..) hB7)
                     clear hB7)
                  | (go_at_call 24; (with_reducible refine (HC2N _).mono ?_); rintro e w' ⟨rfl, rfl⟩)
                  | fail)
                exact ⟨rfl, HG7.out.cm.below, rfl⟩
              | true =>
                have HR := Lib.hid (each_snoc HXJ.out HE.out (HIT.out.trans (if_pos (Or.inr (Or.inr ⟨hk2, hh⟩)))))
                rw [hh] at HAS
                clear hk2 hh
                go_upto_region 30 with (first
                  | (go_at_call 39; (with_reducible refine HAS.out.mono ?_); rintro e w7 ⟨rfl, hB7⟩
                     have HG7 := Lib.hid (HG6.out.keep (fq_stay ..) hB7)
                     have HN7 := Lib.hid (HN6.out.keep hB7)
                     have HNX7 := Lib.hid ((hB7.block nb (heap_lt HNX.out)).trans HNX.out)
                     clear hB7)
                  | (go_at_call 24; (with_reducible refine (HC2Y _).mono ?_); rintro e w' ⟨rfl, rfl⟩)
                  | fail)
                have HT := Lib.hid (And.intro HG7.out (And.intro HNX7.out HN7.out))
                clear q0 q1 q2 q3 q4 q5' q6 q7 q8 s4 n0 n1 n2 n3 n4 n5 n6 n7 n8 n9
                obtain ⟨n0, n1, n2, n3, n4, n5, n6, n7, n8, n9⟩ := row10 HT.out.2.1
                have q6 := cell_of_row _ _ 6 _ _ _ HT.out.1.cm.q
                go_wp2_with (first
                  | (at_builtin; refine list_one 45 54 10 112 nodeZ Tryz.underlying45 info54 rfl (by omega) (by omega) _ rfl _ _ rfl (w.heap.size + 5) v us.length us.flatten rfl (HT.out.1.keep (fq_stay ..) (below1 w7 _)).own _ 1 (ndL p (clP p.lit) A5 q5 c5) rfl rfl rfl (heap_alloc_new w7 _) ?c3 ?c4 ?_)
                  | fail)
                case c3 => have := HUS.out; omega
                case c4 => have := HT.out.1.cm.lt; simp; omega
                intro v8 w8 hown hgr hv8
                obtain ⟨A8, c8, rfl⟩ := own_slice hown
                have HM := Lib.hid (((HT.out.1.nd HT.out.2.2).keep (fq_stay ..) (below1 w7 _)).app (fq_stay ..) hown hgr (by first | exact hv8 | simpa using hv8))
                have HM2 := Lib.hid (HM.out.setQ (fq_stay ..) 6 (.slice A8 (us.length + 1) c8))
                have y6b := frozen_of_row _ _ 6 _ _ HM.out.cm.q
                have q6b := cell_of_row _ _ 6 _ _ _ HM.out.cm.q
                have hz8 := heap_lt HM.out.cm.q
                clear hown hgr hv8
                go_wp2_with fail
                refine ⟨⟨⟨?_, ?_, ?_, ?_, ?_, ?_, ?_⟩, ?_, ?_, j + 1, .slice A8 (us.length + 1) c8, us ++ [ndL p (clP p.lit) A5 q5 c5], il ++ [p], false, by omega, ?_, by rw [List.length_append, HUS.out]; rfl, HR, Lib.hid ?_, Lib.hid ?_⟩, ?_⟩
                all_goals first | rfl | skip
                · intro y hy
                  rcases List.mem_append.1 hy with h | h
                  · exact HL.out y h
                  · obtain rfl : y = ndL p (clP p.lit) A5 q5 c5 := by simpa using h
                    rfl
                · have := HM2.out
                  rw [List.length_append, List.flatten_append]
                  simpa using this
                · show xq - (intOf (.int .i64 _)).toNat < xq - (intOf (.int .i64 _)).toNat
                  simp [intOf] <;> omega
            · obtain rfl : R = .error 132 := HRN.out j x il HE.out HXJ.out 132 (HIT.out.trans (if_neg (fun h => by rcases h with h | h | h <;> first | (cases h; done) | exact hk2 h.1)))
              have hkk : (p.kind == 2) = false := beq_eq_false_iff_ne.2 hk2
              clear hk2
              go_wp2_with (first
                | (go_at_call 24; (with_reducible refine (HC2N _).mono ?_); rintro e w' ⟨rfl, rfl⟩)
                | fail)
              exact ⟨rfl, HG6.out.cm.below, rfl⟩
    · obtain rfl : j = xq := by omega
      have hjn : ((j : Int) < (j : Int)) = False := eq_false (by omega)
      have hT := HE.out
      rw [List.take_of_length_le (by have := HXQ.out; omega)] at hT
      have HT := Lib.hid hT
      clear hT
      go_wp2_with fail
      refine HK.out _ _ (HSEG.out us il v fo _ _ HT.out HL.out (by have := HUS.out; omega) ⟨?_, ?_, ?_, ?_, ?_, ?_, ?_⟩ HG.out) <;> rfl
end Go.Proofs.YthdmfaepjemopaaGreatDoor
