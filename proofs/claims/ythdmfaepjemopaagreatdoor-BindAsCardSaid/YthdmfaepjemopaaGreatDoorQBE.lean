/- The walk of BindSound: its guards, the orders, Select. -/
import Derived.Test.YthdmfaepjemopaaGreatDoorQBA
import Derived.Test.YthdmfaepjemopaaGreatDoorQAY
import Derived.Test.YthdmfaepjemopaaGreatDoorQBD
namespace Go.Proofs.YthdmfaepjemopaaGreatDoor
open Go.RowKit

structure S2 (w : World) (a : Act) : Prop where
  size : a.tmps.size = 191
  df : a.defers = []
  s2 : a.tmps.getD 2 undef = .pointer (some ⟨w.heap.size, 0, none⟩)
  s3 : a.tmps.getD 3 undef = .pointer (some ⟨w.heap.size + 1, 0, none⟩)
theorem BX.two12 {w W : World} {u0 u1 v0 v1 v2 v3 v4 v5 v6 v7 v8 v9 v10 v11 : Value} (h : BX w [.cells #[u0, u1] 25, .cells #[v0, v1, v2, v3, v4, v5, v6, v7, v8, v9, v10, v11] 33] W) : W.cell? ⟨w.heap.size, 0, none⟩ = some u0 ∧ W.cell? ⟨w.heap.size, 1, none⟩ = some u1 ∧ W.cell? ⟨w.heap.size + 1, 0, none⟩ = some v0 ∧ W.cell? ⟨w.heap.size + 1, 1, none⟩ = some v1 ∧ W.cell? ⟨w.heap.size + 1, 2, none⟩ = some v2 ∧ W.cell? ⟨w.heap.size + 1, 3, none⟩ = some v3 ∧ W.cell? ⟨w.heap.size + 1, 4, none⟩ = some v4 ∧ W.cell? ⟨w.heap.size + 1, 5, none⟩ = some v5 ∧ W.cell? ⟨w.heap.size + 1, 6, none⟩ = some v6 ∧ W.cell? ⟨w.heap.size + 1, 7, none⟩ = some v7 ∧ W.cell? ⟨w.heap.size + 1, 8, none⟩ = some v8 ∧ W.cell? ⟨w.heap.size + 1, 9, none⟩ = some v9 ∧ W.cell? ⟨w.heap.size + 1, 10, none⟩ = some v10 ∧ W.cell? ⟨w.heap.size + 1, 11, none⟩ = some v11 := by
  have h0 := h.row0 _ _ rfl
  have h1 := h.row 1 _ _ rfl
  exact ⟨cell_of_row _ _ 0 _ _ _ h0, cell_of_row _ _ 1 _ _ _ h0, cell_of_row _ _ 0 _ _ _ h1, cell_of_row _ _ 1 _ _ _ h1, cell_of_row _ _ 2 _ _ _ h1, cell_of_row _ _ 3 _ _ _ h1, cell_of_row _ _ 4 _ _ _ h1, cell_of_row _ _ 5 _ _ _ h1, cell_of_row _ _ 6 _ _ _ h1, cell_of_row _ _ 7 _ _ _ h1, cell_of_row _ _ 8 _ _ _ h1, cell_of_row _ _ 9 _ _ _ h1, cell_of_row _ _ 10 _ _ _ h1, cell_of_row _ _ 11 _ _ _ h1⟩
set_option maxRecDepth 100000 in
set_option maxHeartbeats 16000000 in
theorem snd3e (n : Nat) (_ts : List (Tab × List Col)) (w : World) (A : Option Addr) (m c : Nat) (ia : Option Addr) (il ik : Nat) (k : Int) (xtab : ByteArray) (ya : Option Addr) (yn yc : Nat) (za : Option Addr) (zn zc : Nat) (va : Option Addr) (vn vc : Nat) (star : Bool) (xA : Option Addr) (xq xc : Nat) (fA : Option Addr) (fq fc : Nat) (hA : Option Addr) (hq hc : Nat) (uA : Option Addr) (uq uc : Nat) (pA : Option Addr) (pq pc : Nat) (lim : Int) (er : Int) (a : Act) (W : World) (hS : S2 w a) (hM : BX w [.cells #[.slice A m c, .slice ia il ik] 25, .cells #[.int .i64 k, .string xtab, .slice ya yn yc, .slice za zn zc, .slice va vn vc, .bool star, .slice xA xq xc, .slice fA fq fc, .slice hA hq hc, .slice uA uq uc, .slice pA pq pc, .int .i64 lim] 33] W) (HSEL : Calls Tryz.prog 9 #[.agg #[.slice A m c, .slice ia il ik], .agg #[.int .i64 k, .string xtab, .slice ya yn yc, .slice za zn zc, .slice va vn vc, .bool star, .slice xA xq xc, .slice fA fq fc, .slice hA hq hc, .slice uA uq uc, .slice pA pq pc, .int .i64 lim]] W (SelectO n W (.error er))) (her : er ≠ 0) : (sfC 3).wp Tryz.prog (bodyPost Tryz.prog Tryz.f3 (RetV (.bool true) w)) a W := by
  have HSEL := Lib.hid (show Calls Tryz.prog 9 #[.agg #[.slice A m c, .slice ia il ik], .agg #[.int .i64 k, .string xtab, .slice ya yn yc, .slice za zn zc, .slice va vn vc, .bool star, .slice xA xq xc, .slice fA fq fc, .slice hA hq hc, .slice uA uq uc, .slice pA pq pc, .int .i64 lim]] W (fun e w' => Below W.heap.size W w' ∧ e = .returned (.tuple #[.agg #[.slice none 0 0, .slice none 0 0, .int .i64 0, .slice none 0 0, .slice none 0 0, .bool false, .slice none 0 0, .slice none 0 0, .int .i64 0], .int .i64 er])) from HSEL)
  have he0 : (er == 0) = false := beq_eq_false_iff_ne.2 her
  have he1 : (er = 0) = False := eq_false her
  have HM := Lib.hid hM
  clear hM her
  obtain ⟨s0, s1, s2, s3, s4, s5, s6, s7, s8, s9, s10, s11, s12, s13⟩ := HM.out.two12
  obtain ⟨u, hu, hug⟩ := open191 hS.size
  have p2 := hS.s2; have p3 := hS.s3
  have hdf := hS.df
  rw [hug _ (by omega)] at p2 p3
  obtain ⟨tm, df⟩ := a
  dsimp only at hu hdf
  subst hu hdf
  clear hS hug
  rw [p2, p3]
  clear p2 p3
  conv => arg 2; whnf
  go_wp2_with (first
    | (go_at_call 9; (with_reducible refine HSEL.out.mono ?_); rintro e w5 ⟨hB5, rfl⟩
       have HB5 := fun O => Lib.hid ((HM.out.keep hB5).keep (below1 w5 O))
       clear hB5)
    | fail)
  exact bodyPost_ret (results_tmp rfl _ _ _) rfl ⟨rfl, (HB5 _).out.below⟩
set_option maxRecDepth 100000 in
set_option maxHeartbeats 16000000 in
theorem snd3 (n : Nat) (ts : List (Tab × List Col)) (w : World) (A : Option Addr) (m c : Nat) (ia : Option Addr) (il ik : Nat) (k : Int) (xtab : ByteArray) (ya : Option Addr) (yn yc : Nat) (za : Option Addr) (zn zc : Nat) (va : Option Addr) (vn vc : Nat) (star : Bool) (xA : Option Addr) (xq xc : Nat) (fA : Option Addr) (fq fc : Nat) (hA : Option Addr) (hq hc : Nat) (uA : Option Addr) (uq uc : Nat) (pA : Option Addr) (pq pc : Nat) (lim : Int) (_hn : 0 < n) (x : St) (R : Except Int Qy) (a : Act) (W : World) (hS : S2 w a) (hM : BX w [.cells #[.slice A m c, .slice ia il ik] 25, .cells #[.int .i64 k, .string xtab, .slice ya yn yc, .slice za zn zc, .slice va vn vc, .bool star, .slice xA xq xc, .slice fA fq fc, .slice hA hq hc, .slice uA uq uc, .slice pA pq pc, .int .i64 lim] 33] W) (hD : DeepAt W A ts) (h12 : ∀ p ∈ ts, p.2.length ≤ 12) (hm : m = ts.length)
    (HSEL : Calls Tryz.prog 9 #[.agg #[.slice A m c, .slice ia il ik], .agg #[.int .i64 k, .string xtab, .slice ya yn yc, .slice za zn zc, .slice va vn vc, .bool star, .slice xA xq xc, .slice fA fq fc, .slice hA hq hc, .slice uA uq uc, .slice pA pq pc, .int .i64 lim]] W (SelectO n W R)) (herr : ∀ er, R = .error er → er ≠ 0) (hok : ∀ q, R = .ok q → SoundQ ts n x q) (hfq : fq = x.fs.length) (hxq : xq = x.xs.length) (hst : star = x.star) : (sfC 3).wp Tryz.prog (bodyPost Tryz.prog Tryz.f3 (RetV (.bool true) w)) a W := by
  cases R with
  | error er => exact snd3e n ts w A m c ia il ik k xtab ya yn yc za zn zc va vn vc star xA xq xc fA fq fc hA hq hc uA uq uc pA pq pc lim er a W hS hM HSEL (herr er rfl)
  | ok q =>
    have hQ := hok q rfl
    subst hm
    obtain ⟨T, hT⟩ : ∃ T, T = tyR ts q.tabs := ⟨_, rfl⟩
    have HQ := Lib.hid hQ
    have g1 : ((T.length : Int) == q.width) = true := by rw [beq_iff_eq, hT]; exact hQ.wid
    have g2 : ((q.tabs.length : Int) == (fq : Int)) = true := by rw [beq_iff_eq, hfq, hQ.tabs]
    have g3 : ((q.begs.length : Int) == (fq : Int)) = true := by rw [beq_iff_eq, hfq, hQ.begs]
    have g1b : ((T.length : Int) != q.width) = false := bne_eq_false_iff_eq.2 (beq_iff_eq.1 g1)
    have g2b : ((q.tabs.length : Int) != (fq : Int)) = false := bne_eq_false_iff_eq.2 (beq_iff_eq.1 g2)
    have g3b : ((q.begs.length : Int) != (fq : Int)) = false := bne_eq_false_iff_eq.2 (beq_iff_eq.1 g3)
    have g1n : ((T.length : Int) = q.width) = True := eq_true (beq_iff_eq.1 g1)
    have g2i : ((q.tabs.length : Int) = (fq : Int)) = True := eq_true (beq_iff_eq.1 g2)
    have g3i : ((q.begs.length : Int) = (fq : Int)) = True := eq_true (beq_iff_eq.1 g3)
    have g2' : (q.tabs.length == fq) = true := by rw [beq_iff_eq, hfq, hQ.tabs]
    have g3' : (q.begs.length == fq) = true := by rw [beq_iff_eq, hfq, hQ.begs]
    have g2n : (q.tabs.length = fq) = True := eq_true (by rw [hfq, hQ.tabs])
    have g3n : (q.begs.length = fq) = True := eq_true (by rw [hfq, hQ.begs])
    have HSTA := Lib.hid (show star = true ∨ q.items.length = xq from by rw [hst, hxq]; exact hQ.star)
    have HT := Lib.hid hT
    have HS9 := Lib.hid HSEL
    have HM := Lib.hid hM
    have HD := Lib.hid hD
    have H12 := Lib.hid h12
    clear hM hD HSEL herr hok hfq hxq hst hQ hT h12
    obtain ⟨s0, s1, s2, s3, s4, s5, s6, s7, s8, s9, s10, s11, s12, s13⟩ := HM.out.two12
    obtain ⟨u, hu, hug⟩ := open191 hS.size
    have p2 := hS.s2; have p3 := hS.s3
    have hdf := hS.df
    rw [hug _ (by omega)] at p2 p3
    obtain ⟨tm, df⟩ := a
    dsimp only at hu hdf
    subst hu hdf
    clear hS hug
    rw [p2, p3]
    clear p2 p3
    conv => arg 2; whnf
    refine wp_seq_k fun K0 hK0 => ?_
    have HK0 := Lib.hid hK0
    clear hK0
    go_wp2_with (first
      | (go_at_call 9; (with_reducible refine HS9.out.mono ?_); rintro e w5 ⟨hB5, v, rfl, hQ⟩
         obtain ⟨tA, tc, bA, bc, wA, wc, wvs, gA, gc, iA, ic, ivs, oA, oc, rfl, h2, h3, h4, h5, h6, h7, h8, h9⟩ := hQ
         have HB5 := fun O => Lib.hid ((HM.out.keep hB5).keep (below1 w5 O))
         have HW5 := Lib.hid hB5
         have HI := Lib.hid h2.ints
         have HWC := Lib.hid h4.1
         have HWN := Lib.hid h5
         have HIC := Lib.hid h7.1
         have HIN := Lib.hid h8
         have HOC := Lib.hid h9.1
         clear hB5 h2 h3 h4 h5 h6 h7 h8 h9)
      | fail)
    refine HK0.out _ _ ?_
    obtain ⟨w6, hw6⟩ : ∃ w6, w6 = (w5.alloc (.cells #[.slice tA q.tabs.length tc, .slice bA q.begs.length bc, .int .i64 q.width, .slice wA wvs.length wc, .slice gA q.grp.length gc, .bool q.gr, .slice iA ivs.length ic, .slice oA q.ord.length oc, .int .i64 q.lim] 48)) := ⟨_, rfl⟩
    have HB6 := Lib.hid (HB5 (.cells #[.slice tA q.tabs.length tc, .slice bA q.begs.length bc, .int .i64 q.width, .slice wA wvs.length wc, .slice gA q.grp.length gc, .bool q.gr, .slice iA ivs.length ic, .slice oA q.ord.length oc, .int .i64 q.lim] 48)).out
    have HX6 := Lib.hid (heap_alloc_new w5 (.cells #[.slice tA q.tabs.length tc, .slice bA q.begs.length bc, .int .i64 q.width, .slice wA wvs.length wc, .slice gA q.grp.length gc, .bool q.gr, .slice iA ivs.length ic, .slice oA q.ord.length oc, .int .i64 q.lim] 48))
    have HL6 := Lib.hid (below1 w5 (.cells #[.slice tA q.tabs.length tc, .slice bA q.begs.length bc, .int .i64 q.width, .slice wA wvs.length wc, .slice gA q.grp.length gc, .bool q.gr, .slice iA ivs.length ic, .slice oA q.ord.length oc, .int .i64 q.lim] 48))
    rw [← hw6] at HB6 HX6 HL6
    try rw [← hw6]
    obtain ⟨qb, hqb⟩ : ∃ b, b = w5.heap.size := ⟨_, rfl⟩
    rw [← hqb] at HX6
    try rw [← hqb]
    have HV := Lib.hid (HW5.out.trans (HL6.out.mono HW5.out.size))
    clear hw6 hqb HB5 s0 s1 s2 s3 s4 s5 s6 s7 s8 s9 s10 s11 s12 s13
    refine wp_seq_k fun K1 hK1 => ?_
    have HK1 := Lib.hid hK1
    clear hK1
    go_wp2_with fail
    refine HK1.out _ _ ?_
    refine wp_seq_k fun K2 hK2 => ?_
    have HK2 := Lib.hid hK2
    clear hK2
    obtain ⟨s0, s1, s2, s3, s4, s5, s6, s7, s8, s9, s10, s11, s12, s13⟩ := HB6.out.two12
    obtain ⟨v0, v1, v2, v3, v4, v5, v6, v7, v8⟩ := row9 HX6.out
    have HWD := Lib.hid (wid_any A c ia il ik ts q.tabs tA tc bA q.begs.length bc q.width wA wvs.length wc gA q.grp.length gc q.gr iA ivs.length ic oA q.ord.length oc q.lim w6 (HD.out.keep HV.out) H12.out (HI.out.keep HL6.out) (by rw [HQ.out.tabs]; exact HQ.out.four) HQ.out.lim)
    rw [← HT.out] at HWD
    go_wp2_with (first
      | (go_at_call 10; (with_reducible refine HWD.out.mono ?_); rintro e w7 ⟨hB7, B, cB, rfl, hI7⟩
         have HB7 := Lib.hid (HB6.out.keep hB7)
         have HX7 := Lib.hid ((hB7.block _ (heap_lt HX6.out)).trans HX6.out)
         have HU := Lib.hid (HL6.out.trans (hB7.mono HL6.out.size))
         have HI7 := Lib.hid hI7
         clear hB7 hI7)
      | fail)
    clear s0 s1 s2 s3 s4 s5 s6 s7 s8 s9 s10 s11 s12 s13 v0 v1 v2 v3 v4 v5 v6 v7 v8 HWD
    refine HK2.out _ _ ?_
    refine wp_seq_k fun K3 hK3 => ?_
    have HK3 := Lib.hid (show ∀ a w', (sfC 7).wp Tryz.prog (bodyPost Tryz.prog Tryz.f3 (RetV (.bool true) w)) a w' → K3 a w' from hK3)
    clear hK3
    obtain ⟨s0, s1, s2, s3, s4, s5, s6, s7, s8, s9, s10, s11, s12, s13⟩ := HB7.out.two12
    obtain ⟨v0, v1, v2, v3, v4, v5, v6, v7, v8⟩ := row9 HX7.out
    go_wp2_with fail
    refine HK3.out _ _ ?_
    refine snd7 w qb T B cB _ _ _ _ _ _ _ _ _ _ _ _ _ _ star xA xq xc q.width wA wvs.length wc q.gr iA ivs.length ic oA q.ord.length oc (fun b => W.heap.size ≤ b) n q.wh wvs q.items ivs q.ord _ w7 ⟨?_, ?_, ?_, ?_, ?_, ?_⟩ ⟨HB7.out.below, HB7.out.row 1 _ _ rfl, HX7.out⟩ HI7.out rfl (CellsAt.keep HU.out HWC.out) (HWN.out.keep HU.out) (by rw [HT.out]; exact HQ.out.wh) rfl (CellsAt.keep HU.out HIC.out) (HIN.out.keep HU.out) (by rw [HT.out]; exact HQ.out.items) (by rw [HIN.out.1]; exact HSTA.out) rfl (CellsAt.keep HU.out HOC.out) HQ.out.ord
    all_goals rfl
theorem one_few (n : Nat) (y : Ex) (W : World) (O : Obj) (hy : ExAt W n y) (hs : StrX n y) : Calls Tryz.prog 8 #[.slice (some ⟨W.heap.size + 1, 0, none⟩) 1 1] ((W.alloc O).alloc (.cells #[.int .i64 y.kind, .string y.op, .int .i64 y.lit.k, .int .i64 y.lit.n, .float .f64 y.lit.f, .string y.lit.s, .string y.table, .string y.name, .bool y.neg, .slice y.A y.args.length y.c] 41)) (RetV (.bool (fewR n [y])) ((W.alloc O).alloc (.cells #[.int .i64 y.kind, .string y.op, .int .i64 y.lit.k, .int .i64 y.lit.n, .float .f64 y.lit.f, .string y.lit.s, .string y.table, .string y.name, .bool y.neg, .slice y.A y.args.length y.c] 41))) := by
  have hB : Below W.heap.size W ((W.alloc O).alloc (.cells #[.int .i64 y.kind, .string y.op, .int .i64 y.lit.k, .int .i64 y.lit.n, .float .f64 y.lit.f, .string y.lit.s, .string y.table, .string y.name, .bool y.neg, .slice y.A y.args.length y.c] 41)) := (below1 W O).alloc (below1 W O).size _
  refine few_any n (some ⟨W.heap.size + 1, 0, none⟩) 1 [y] _ ⟨⟨by show 1 ≤ maxLen; unfold maxLen; omega, Or.inr ⟨W.heap.size + 1, 0, rfl, by simp, fun j x hx => ?_⟩⟩, fun a ha => (List.mem_singleton.1 ha) ▸ hy.keep hB⟩ (fun a ha => (List.mem_singleton.1 ha) ▸ hs)
  have hj : j = 0 := by have := (List.getElem?_eq_some_iff.1 hx).1; simpa using this
  subst hj
  cases hx
  refine ⟨rfl, fun i v hv => ?_⟩
  rw [cell_of_row _ _ (0 + 0 * 10 + i) _ _ _ (alloc_at2 (W.alloc O) _ _ (by simp))]
  rw [show 0 + 0 * 10 + i = i by omega]
  simpa [exL] using hv
set_option maxRecDepth 100000 in
set_option maxHeartbeats 16000000 in
theorem snd2 (n : Nat) (_ts : List (Tab × List Col)) (w : World) (A : Option Addr) (m c : Nat) (ia : Option Addr) (il ik : Nat) (k : Int) (xtab : ByteArray) (ya : Option Addr) (yn yc : Nat) (za : Option Addr) (zn zc : Nat) (va : Option Addr) (vn vc : Nat) (star : Bool) (xA : Option Addr) (xq xc : Nat) (fA : Option Addr) (fq fc : Nat) (hA : Option Addr) (hq hc : Nat) (uA : Option Addr) (uq uc : Nat) (pA : Option Addr) (pq pc : Nat) (lim : Int) (ol : List (Ex × Bool)) (a : Act) (W : World) (hS : S2 w a) (hM : BX w [.cells #[.slice A m c, .slice ia il ik] 25, .cells #[.int .i64 k, .string xtab, .slice ya yn yc, .slice za zn zc, .slice va vn vc, .bool star, .slice xA xq xc, .slice fA fq fc, .slice hA hq hc, .slice uA uq uc, .slice pA pq pc, .int .i64 lim] 33] W) (hpq : pq = ol.length) (hO : CellsAt W 11 pA (ol.map ordL)) (hOE : ∀ o ∈ ol, ExAt W n o.1 ∧ StrX n o.1)
    (HSEG : ∀ a W', S2 w a → Below W.heap.size W W' → BX w [.cells #[.slice A m c, .slice ia il ik] 25, .cells #[.int .i64 k, .string xtab, .slice ya yn yc, .slice za zn zc, .slice va vn vc, .bool star, .slice xA xq xc, .slice fA fq fc, .slice hA hq hc, .slice uA uq uc, .slice pA pq pc, .int .i64 lim] 33] W' → (sfC 3).wp Tryz.prog (bodyPost Tryz.prog Tryz.f3 (RetV (.bool true) w)) a W') : (sfC 2).wp Tryz.prog (bodyPost Tryz.prog Tryz.f3 (RetV (.bool true) w)) a W := by
  have HSEG := Lib.hid HSEG
  have HM := Lib.hid hM
  have HO := Lib.hid hO
  have HOE := Lib.hid hOE
  have HON := Lib.hid hpq
  have hqm : pq ≤ 9223372036854775807 := by have := hO.1; rw [List.length_map, ← hpq] at this; exact this
  clear hM hO hOE hpq
  obtain ⟨s0, s1, s2, s3, s4, s5, s6, s7, s8, s9, s10, s11, s12, s13⟩ := HM.out.two12
  obtain ⟨u, hu, hug⟩ := open191 hS.size
  have p2 := hS.s2; have p3 := hS.s3
  have hdf := hS.df
  rw [hug _ (by omega)] at p2 p3
  obtain ⟨tm, df⟩ := a
  dsimp only at hu hdf
  subst hu hdf
  clear hS hug
  rw [p2, p3]
  clear p2 p3
  conv => arg 2; whnf
  refine wp_seq_k fun K hK => ?_
  have HK := Lib.hid (show ∀ a w', (sfC 3).wp Tryz.prog (bodyPost Tryz.prog Tryz.f3 (RetV (.bool true) w)) a w' → K a w' from hK)
  clear hK
  go_wp2_with fail
  clear s0 s1 s2 s3 s4 s5 s6 s7 s8 s9 s10 s11 s12 s13
  refine wp_loop (fun a' wr => S2 w a' ∧ a'.tmps.getD 55 undef = .slice pA pq pc ∧ a'.tmps.getD 56 undef = .int .i64 pq ∧ ∃ (j : Nat), j ≤ pq ∧ a'.tmps.getD 57 undef = .int .i64 j ∧ Hid (Below W.heap.size W wr)) (fun a' _ => pq - (intOf (a'.tmps.getD 57 undef)).toNat) ?start ?round
  case start =>
    refine ⟨⟨?_, ?_, ?_, ?_⟩, ?_, ?_, 0, Nat.zero_le _, ?_, Lib.hid (Below.refl _ _)⟩
    all_goals rfl
  case round =>
    rintro a wr ⟨hS, hsl, hln, j, hj, hix, HB⟩
    obtain ⟨u, hu, hug⟩ := open191 hS.size
    have p2 := hS.s2; have p3 := hS.s3
    have hdf := hS.df
    rw [hug _ (by omega)] at p2 p3 hsl hln hix
    obtain ⟨tm, df⟩ := a
    dsimp only at hu hdf
    subst hu hdf
    clear hS hug
    rw [p2, p3, hsl, hln, hix]
    clear p2 p3 hsl hln hix
    by_cases hjq : j < pq
    · have hjn : ((j : Int) < (pq : Int)) = True := eq_true (by omega)
      obtain ⟨o, ho⟩ : ∃ o, ol[j]? = some o := ⟨_, List.getElem?_eq_getElem (by have := HON.out; omega)⟩
      obtain ⟨eb, eo, rfl, heb, hyc⟩ := setl_at HO.out (x := ordL o) (by rw [List.getElem?_map, ho]; rfl)
      have hoe := HOE.out o (List.mem_of_getElem? ho)
      obtain ⟨y, od⟩ := o
      dsimp only at hoe
      have t0 : wr.cell? ⟨eb, eo + j * 11, none⟩ = some (.int .i64 y.kind) := cell_kept (hyc 0 _ rfl) HB.out
      have t1 := cell_kept (hyc 1 _ rfl) HB.out
      have t2 := cell_kept (hyc 2 _ rfl) HB.out
      have t3 := cell_kept (hyc 3 _ rfl) HB.out
      have t4 := cell_kept (hyc 4 _ rfl) HB.out
      have t5 := cell_kept (hyc 5 _ rfl) HB.out
      have t6 := cell_kept (hyc 6 _ rfl) HB.out
      have t7 := cell_kept (hyc 7 _ rfl) HB.out
      have t8 := cell_kept (hyc 8 _ rfl) HB.out
      have t9 := cell_kept (hyc 9 _ rfl) HB.out
      have t10 := cell_kept (hyc 10 _ rfl) HB.out
      have sf := store_float
      have HSZ := Lib.hid HB.out.size
      have HF := Lib.hid (fun O => one_few n y wr O (hoe.1.keep HB.out) hoe.2)
      have HBL := fun O O2 => Lib.hid ((below1 wr O).alloc (below1 wr O).size O2)
      obtain ⟨b, hb⟩ : ∃ b, b = fewR n [y] := ⟨_, rfl⟩
      rw [← hb] at HF
      clear hyc hoe ho hb
      cases b with
      | false =>
        go_wp2_with (first
          | (go_at_call 8; (with_reducible refine (HF.out _).mono ?_); rintro e w5 ⟨rfl, hB5⟩
             have HB5 := Lib.hid (HB.out.trans (((HBL _ _).out.trans (hB5.mono (HBL _ _).out.size)).mono HSZ.out))
             clear hB5)
          | fail)
        exact bodyPost_ret (results_tmp rfl _ _ _) rfl ⟨rfl, HM.out.below.trans (HB5.out.mono HM.out.below.size)⟩
      | true =>
        go_wp2_with (first
          | (go_at_call 8; (with_reducible refine (HF.out _).mono ?_); rintro e w5 ⟨rfl, hB5⟩
             have HB5 := Lib.hid (HB.out.trans (((HBL _ _).out.trans (hB5.mono (HBL _ _).out.size)).mono HSZ.out))
             clear hB5)
          | fail)
        refine ⟨⟨⟨?_, ?_, ?_, ?_⟩, ?_, ?_, j + 1, by omega, ?_, HB5⟩, ?_⟩
        all_goals first | rfl | skip
        show pq - (intOf (.int .i64 _)).toNat < pq - (intOf (.int .i64 _)).toNat
        simp [intOf] <;> omega
    · obtain rfl : j = pq := by omega
      have hjn : ((j : Int) < (j : Int)) = False := eq_false (by omega)
      go_wp2_with fail
      refine HK.out _ _ (HSEG.out _ _ ⟨?_, ?_, ?_, ?_⟩ HB.out (HM.out.keep HB.out))
      all_goals rfl
set_option maxRecDepth 100000 in
set_option maxHeartbeats 16000000 in
theorem snd_x0 (_n : Nat) (_ts : List (Tab × List Col)) (w : World) (A : Option Addr) (m c : Nat) (ia : Option Addr) (il ik : Nat) (k : Int) (xtab : ByteArray) (ya : Option Addr) (yn yc : Nat) (za : Option Addr) (zn zc : Nat) (va : Option Addr) (vn vc : Nat) (star : Bool) (xA : Option Addr) (xq xc : Nat) (fA : Option Addr) (fq fc : Nat) (hA : Option Addr) (hq hc : Nat) (uA : Option Addr) (uq uc : Nat) (pA : Option Addr) (pq pc : Nat) (lim : Int) (_b1 b2 b3 b4 : Bool) (HSM : ∀ W, Below w.heap.size w W → Calls Tryz.prog 7 #[.agg #[.slice A m c, .slice ia il ik]] W (RetV (.bool false) W)) (HFX : ∀ W, Below w.heap.size w W → Calls Tryz.prog 8 #[.slice xA xq xc] W (RetV (.bool b2) W)) (HFH : ∀ W, Below w.heap.size w W → Calls Tryz.prog 8 #[.slice hA hq hc] W (RetV (.bool b3) W)) (HFU : ∀ W, Below w.heap.size w W → Calls Tryz.prog 8 #[.slice uA uq uc] W (RetV (.bool b4) W))  : Calls Tryz.prog 3 #[.agg #[.slice A m c, .slice ia il ik], .agg #[.int .i64 k, .string xtab, .slice ya yn yc, .slice za zn zc, .slice va vn vc, .bool star, .slice xA xq xc, .slice fA fq fc, .slice hA hq hc, .slice uA uq uc, .slice pA pq pc, .int .i64 lim]] w (RetV (.bool true) w) := by
  have HLV := Lib.hid lives_any
  have HSM := Lib.hid HSM
  have HFX := Lib.hid HFX
  have HFH := Lib.hid HFH
  have HFU := Lib.hid HFU
  go_enter Tryz.func3, Tryz.ntmps3
  go_wp2_with (first
    | (go_at_call 6; (with_reducible refine (HLV.out _).mono ?_); rintro e wa ⟨rfl, hB⟩
       have HBa := Lib.hid ((BX.two w _ _).keep hB)
       obtain ⟨sa0, sa1, sa2, sa3, sa4, sa5, sa6, sa7, sa8, sa9, sa10, sa11, sa12, sa13⟩ := HBa.out.two12
       clear hB)
    | (go_at_call 7; (with_reducible refine (HSM.out _ HBa.out.below).mono ?_); rintro e wb ⟨rfl, hB⟩
       have HBb := Lib.hid (HBa.out.keep hB)
       obtain ⟨sb0, sb1, sb2, sb3, sb4, sb5, sb6, sb7, sb8, sb9, sb10, sb11, sb12, sb13⟩ := HBb.out.two12
       clear hB)
    | (go_at_call 6; (with_reducible refine (HLV.out _).mono ?_); rintro e wz ⟨rfl, hB⟩
       have HBz := Lib.hid (HBb.out.keep hB)
       clear hB)
    | fail)
  go_ret
  exact ⟨rfl, HBz.out.below⟩
set_option maxRecDepth 100000 in
set_option maxHeartbeats 16000000 in
theorem snd_x1 (_n : Nat) (_ts : List (Tab × List Col)) (w : World) (A : Option Addr) (m c : Nat) (ia : Option Addr) (il ik : Nat) (k : Int) (xtab : ByteArray) (ya : Option Addr) (yn yc : Nat) (za : Option Addr) (zn zc : Nat) (va : Option Addr) (vn vc : Nat) (star : Bool) (xA : Option Addr) (xq xc : Nat) (fA : Option Addr) (fq fc : Nat) (hA : Option Addr) (hq hc : Nat) (uA : Option Addr) (uq uc : Nat) (pA : Option Addr) (pq pc : Nat) (lim : Int) (_b1 _b2 b3 b4 : Bool) (HSM : ∀ W, Below w.heap.size w W → Calls Tryz.prog 7 #[.agg #[.slice A m c, .slice ia il ik]] W (RetV (.bool true) W)) (HFX : ∀ W, Below w.heap.size w W → Calls Tryz.prog 8 #[.slice xA xq xc] W (RetV (.bool false) W)) (HFH : ∀ W, Below w.heap.size w W → Calls Tryz.prog 8 #[.slice hA hq hc] W (RetV (.bool b3) W)) (HFU : ∀ W, Below w.heap.size w W → Calls Tryz.prog 8 #[.slice uA uq uc] W (RetV (.bool b4) W))  : Calls Tryz.prog 3 #[.agg #[.slice A m c, .slice ia il ik], .agg #[.int .i64 k, .string xtab, .slice ya yn yc, .slice za zn zc, .slice va vn vc, .bool star, .slice xA xq xc, .slice fA fq fc, .slice hA hq hc, .slice uA uq uc, .slice pA pq pc, .int .i64 lim]] w (RetV (.bool true) w) := by
  have HLV := Lib.hid lives_any
  have HSM := Lib.hid HSM
  have HFX := Lib.hid HFX
  have HFH := Lib.hid HFH
  have HFU := Lib.hid HFU
  go_enter Tryz.func3, Tryz.ntmps3
  go_wp2_with (first
    | (go_at_call 6; (with_reducible refine (HLV.out _).mono ?_); rintro e wa ⟨rfl, hB⟩
       have HBa := Lib.hid ((BX.two w _ _).keep hB)
       obtain ⟨sa0, sa1, sa2, sa3, sa4, sa5, sa6, sa7, sa8, sa9, sa10, sa11, sa12, sa13⟩ := HBa.out.two12
       clear hB)
    | (go_at_call 7; (with_reducible refine (HSM.out _ HBa.out.below).mono ?_); rintro e wb ⟨rfl, hB⟩
       have HBb := Lib.hid (HBa.out.keep hB)
       obtain ⟨sb0, sb1, sb2, sb3, sb4, sb5, sb6, sb7, sb8, sb9, sb10, sb11, sb12, sb13⟩ := HBb.out.two12
       clear hB)
    | (go_at_call 8; (with_reducible refine (HFX.out _ HBb.out.below).mono ?_); rintro e wc ⟨rfl, hB⟩
       have HBc := Lib.hid (HBb.out.keep hB)
       obtain ⟨sc0, sc1, sc2, sc3, sc4, sc5, sc6, sc7, sc8, sc9, sc10, sc11, sc12, sc13⟩ := HBc.out.two12
       clear hB)
    | (go_at_call 6; (with_reducible refine (HLV.out _).mono ?_); rintro e wz ⟨rfl, hB⟩
       have HBz := Lib.hid (HBc.out.keep hB)
       clear hB)
    | fail)
  go_ret
  exact ⟨rfl, HBz.out.below⟩
set_option maxRecDepth 100000 in
set_option maxHeartbeats 16000000 in
theorem snd_x2 (_n : Nat) (_ts : List (Tab × List Col)) (w : World) (A : Option Addr) (m c : Nat) (ia : Option Addr) (il ik : Nat) (k : Int) (xtab : ByteArray) (ya : Option Addr) (yn yc : Nat) (za : Option Addr) (zn zc : Nat) (va : Option Addr) (vn vc : Nat) (star : Bool) (xA : Option Addr) (xq xc : Nat) (fA : Option Addr) (fq fc : Nat) (hA : Option Addr) (hq hc : Nat) (uA : Option Addr) (uq uc : Nat) (pA : Option Addr) (pq pc : Nat) (lim : Int) (_b1 _b2 _b3 b4 : Bool) (HSM : ∀ W, Below w.heap.size w W → Calls Tryz.prog 7 #[.agg #[.slice A m c, .slice ia il ik]] W (RetV (.bool true) W)) (HFX : ∀ W, Below w.heap.size w W → Calls Tryz.prog 8 #[.slice xA xq xc] W (RetV (.bool true) W)) (HFH : ∀ W, Below w.heap.size w W → Calls Tryz.prog 8 #[.slice hA hq hc] W (RetV (.bool false) W)) (HFU : ∀ W, Below w.heap.size w W → Calls Tryz.prog 8 #[.slice uA uq uc] W (RetV (.bool b4) W))  : Calls Tryz.prog 3 #[.agg #[.slice A m c, .slice ia il ik], .agg #[.int .i64 k, .string xtab, .slice ya yn yc, .slice za zn zc, .slice va vn vc, .bool star, .slice xA xq xc, .slice fA fq fc, .slice hA hq hc, .slice uA uq uc, .slice pA pq pc, .int .i64 lim]] w (RetV (.bool true) w) := by
  have HLV := Lib.hid lives_any
  have HSM := Lib.hid HSM
  have HFX := Lib.hid HFX
  have HFH := Lib.hid HFH
  have HFU := Lib.hid HFU
  go_enter Tryz.func3, Tryz.ntmps3
  go_wp2_with (first
    | (go_at_call 6; (with_reducible refine (HLV.out _).mono ?_); rintro e wa ⟨rfl, hB⟩
       have HBa := Lib.hid ((BX.two w _ _).keep hB)
       obtain ⟨sa0, sa1, sa2, sa3, sa4, sa5, sa6, sa7, sa8, sa9, sa10, sa11, sa12, sa13⟩ := HBa.out.two12
       clear hB)
    | (go_at_call 7; (with_reducible refine (HSM.out _ HBa.out.below).mono ?_); rintro e wb ⟨rfl, hB⟩
       have HBb := Lib.hid (HBa.out.keep hB)
       obtain ⟨sb0, sb1, sb2, sb3, sb4, sb5, sb6, sb7, sb8, sb9, sb10, sb11, sb12, sb13⟩ := HBb.out.two12
       clear hB)
    | (go_at_call 8; (with_reducible refine (HFX.out _ HBb.out.below).mono ?_); rintro e wc ⟨rfl, hB⟩
       have HBc := Lib.hid (HBb.out.keep hB)
       obtain ⟨sc0, sc1, sc2, sc3, sc4, sc5, sc6, sc7, sc8, sc9, sc10, sc11, sc12, sc13⟩ := HBc.out.two12
       clear hB)
    | (go_at_call 8; (with_reducible refine (HFH.out _ HBc.out.below).mono ?_); rintro e wd ⟨rfl, hB⟩
       have HBd := Lib.hid (HBc.out.keep hB)
       obtain ⟨sd0, sd1, sd2, sd3, sd4, sd5, sd6, sd7, sd8, sd9, sd10, sd11, sd12, sd13⟩ := HBd.out.two12
       clear hB)
    | (go_at_call 6; (with_reducible refine (HLV.out _).mono ?_); rintro e wz ⟨rfl, hB⟩
       have HBz := Lib.hid (HBd.out.keep hB)
       clear hB)
    | fail)
  go_ret
  exact ⟨rfl, HBz.out.below⟩
set_option maxRecDepth 100000 in
set_option maxHeartbeats 16000000 in
theorem snd_x3 (_n : Nat) (_ts : List (Tab × List Col)) (w : World) (A : Option Addr) (m c : Nat) (ia : Option Addr) (il ik : Nat) (k : Int) (xtab : ByteArray) (ya : Option Addr) (yn yc : Nat) (za : Option Addr) (zn zc : Nat) (va : Option Addr) (vn vc : Nat) (star : Bool) (xA : Option Addr) (xq xc : Nat) (fA : Option Addr) (fq fc : Nat) (hA : Option Addr) (hq hc : Nat) (uA : Option Addr) (uq uc : Nat) (pA : Option Addr) (pq pc : Nat) (lim : Int) (_b1 _b2 _b3 _b4 : Bool) (HSM : ∀ W, Below w.heap.size w W → Calls Tryz.prog 7 #[.agg #[.slice A m c, .slice ia il ik]] W (RetV (.bool true) W)) (HFX : ∀ W, Below w.heap.size w W → Calls Tryz.prog 8 #[.slice xA xq xc] W (RetV (.bool true) W)) (HFH : ∀ W, Below w.heap.size w W → Calls Tryz.prog 8 #[.slice hA hq hc] W (RetV (.bool true) W)) (HFU : ∀ W, Below w.heap.size w W → Calls Tryz.prog 8 #[.slice uA uq uc] W (RetV (.bool false) W))  : Calls Tryz.prog 3 #[.agg #[.slice A m c, .slice ia il ik], .agg #[.int .i64 k, .string xtab, .slice ya yn yc, .slice za zn zc, .slice va vn vc, .bool star, .slice xA xq xc, .slice fA fq fc, .slice hA hq hc, .slice uA uq uc, .slice pA pq pc, .int .i64 lim]] w (RetV (.bool true) w) := by
  have HLV := Lib.hid lives_any
  have HSM := Lib.hid HSM
  have HFX := Lib.hid HFX
  have HFH := Lib.hid HFH
  have HFU := Lib.hid HFU
  go_enter Tryz.func3, Tryz.ntmps3
  go_wp2_with (first
    | (go_at_call 6; (with_reducible refine (HLV.out _).mono ?_); rintro e wa ⟨rfl, hB⟩
       have HBa := Lib.hid ((BX.two w _ _).keep hB)
       obtain ⟨sa0, sa1, sa2, sa3, sa4, sa5, sa6, sa7, sa8, sa9, sa10, sa11, sa12, sa13⟩ := HBa.out.two12
       clear hB)
    | (go_at_call 7; (with_reducible refine (HSM.out _ HBa.out.below).mono ?_); rintro e wb ⟨rfl, hB⟩
       have HBb := Lib.hid (HBa.out.keep hB)
       obtain ⟨sb0, sb1, sb2, sb3, sb4, sb5, sb6, sb7, sb8, sb9, sb10, sb11, sb12, sb13⟩ := HBb.out.two12
       clear hB)
    | (go_at_call 8; (with_reducible refine (HFX.out _ HBb.out.below).mono ?_); rintro e wc ⟨rfl, hB⟩
       have HBc := Lib.hid (HBb.out.keep hB)
       obtain ⟨sc0, sc1, sc2, sc3, sc4, sc5, sc6, sc7, sc8, sc9, sc10, sc11, sc12, sc13⟩ := HBc.out.two12
       clear hB)
    | (go_at_call 8; (with_reducible refine (HFH.out _ HBc.out.below).mono ?_); rintro e wd ⟨rfl, hB⟩
       have HBd := Lib.hid (HBc.out.keep hB)
       obtain ⟨sd0, sd1, sd2, sd3, sd4, sd5, sd6, sd7, sd8, sd9, sd10, sd11, sd12, sd13⟩ := HBd.out.two12
       clear hB)
    | (go_at_call 8; (with_reducible refine (HFU.out _ HBd.out.below).mono ?_); rintro e we ⟨rfl, hB⟩
       have HBe := Lib.hid (HBd.out.keep hB)
       obtain ⟨se0, se1, se2, se3, se4, se5, se6, se7, se8, se9, se10, se11, se12, se13⟩ := HBe.out.two12
       clear hB)
    | (go_at_call 6; (with_reducible refine (HLV.out _).mono ?_); rintro e wz ⟨rfl, hB⟩
       have HBz := Lib.hid (HBe.out.keep hB)
       clear hB)
    | fail)
  go_ret
  exact ⟨rfl, HBz.out.below⟩
set_option maxRecDepth 100000 in
set_option maxHeartbeats 16000000 in
theorem snd_x4 (_n : Nat) (_ts : List (Tab × List Col)) (w : World) (A : Option Addr) (m c : Nat) (ia : Option Addr) (il ik : Nat) (k : Int) (xtab : ByteArray) (ya : Option Addr) (yn yc : Nat) (za : Option Addr) (zn zc : Nat) (va : Option Addr) (vn vc : Nat) (star : Bool) (xA : Option Addr) (xq xc : Nat) (fA : Option Addr) (fq fc : Nat) (hA : Option Addr) (hq hc : Nat) (uA : Option Addr) (uq uc : Nat) (pA : Option Addr) (pq pc : Nat) (lim : Int) (_b1 _b2 _b3 _b4 : Bool) (HSM : ∀ W, Below w.heap.size w W → Calls Tryz.prog 7 #[.agg #[.slice A m c, .slice ia il ik]] W (RetV (.bool true) W)) (HFX : ∀ W, Below w.heap.size w W → Calls Tryz.prog 8 #[.slice xA xq xc] W (RetV (.bool true) W)) (HFH : ∀ W, Below w.heap.size w W → Calls Tryz.prog 8 #[.slice hA hq hc] W (RetV (.bool true) W)) (HFU : ∀ W, Below w.heap.size w W → Calls Tryz.prog 8 #[.slice uA uq uc] W (RetV (.bool true) W)) (c5 : ((12 : Int) < (fq : Int)) = True) : Calls Tryz.prog 3 #[.agg #[.slice A m c, .slice ia il ik], .agg #[.int .i64 k, .string xtab, .slice ya yn yc, .slice za zn zc, .slice va vn vc, .bool star, .slice xA xq xc, .slice fA fq fc, .slice hA hq hc, .slice uA uq uc, .slice pA pq pc, .int .i64 lim]] w (RetV (.bool true) w) := by
  have HLV := Lib.hid lives_any
  have HSM := Lib.hid HSM
  have HFX := Lib.hid HFX
  have HFH := Lib.hid HFH
  have HFU := Lib.hid HFU
  go_enter Tryz.func3, Tryz.ntmps3
  go_wp2_with (first
    | (go_at_call 6; (with_reducible refine (HLV.out _).mono ?_); rintro e wa ⟨rfl, hB⟩
       have HBa := Lib.hid ((BX.two w _ _).keep hB)
       obtain ⟨sa0, sa1, sa2, sa3, sa4, sa5, sa6, sa7, sa8, sa9, sa10, sa11, sa12, sa13⟩ := HBa.out.two12
       clear hB)
    | (go_at_call 7; (with_reducible refine (HSM.out _ HBa.out.below).mono ?_); rintro e wb ⟨rfl, hB⟩
       have HBb := Lib.hid (HBa.out.keep hB)
       obtain ⟨sb0, sb1, sb2, sb3, sb4, sb5, sb6, sb7, sb8, sb9, sb10, sb11, sb12, sb13⟩ := HBb.out.two12
       clear hB)
    | (go_at_call 8; (with_reducible refine (HFX.out _ HBb.out.below).mono ?_); rintro e wc ⟨rfl, hB⟩
       have HBc := Lib.hid (HBb.out.keep hB)
       obtain ⟨sc0, sc1, sc2, sc3, sc4, sc5, sc6, sc7, sc8, sc9, sc10, sc11, sc12, sc13⟩ := HBc.out.two12
       clear hB)
    | (go_at_call 8; (with_reducible refine (HFH.out _ HBc.out.below).mono ?_); rintro e wd ⟨rfl, hB⟩
       have HBd := Lib.hid (HBc.out.keep hB)
       obtain ⟨sd0, sd1, sd2, sd3, sd4, sd5, sd6, sd7, sd8, sd9, sd10, sd11, sd12, sd13⟩ := HBd.out.two12
       clear hB)
    | (go_at_call 8; (with_reducible refine (HFU.out _ HBd.out.below).mono ?_); rintro e we ⟨rfl, hB⟩
       have HBe := Lib.hid (HBd.out.keep hB)
       obtain ⟨se0, se1, se2, se3, se4, se5, se6, se7, se8, se9, se10, se11, se12, se13⟩ := HBe.out.two12
       clear hB)
    | (go_at_call 6; (with_reducible refine (HLV.out _).mono ?_); rintro e wz ⟨rfl, hB⟩
       have HBz := Lib.hid (HBe.out.keep hB)
       clear hB)
    | fail)
  go_ret
  exact ⟨rfl, HBz.out.below⟩
set_option maxRecDepth 100000 in
set_option maxHeartbeats 16000000 in
theorem snd_x5 (_n : Nat) (_ts : List (Tab × List Col)) (w : World) (A : Option Addr) (m c : Nat) (ia : Option Addr) (il ik : Nat) (k : Int) (xtab : ByteArray) (ya : Option Addr) (yn yc : Nat) (za : Option Addr) (zn zc : Nat) (va : Option Addr) (vn vc : Nat) (star : Bool) (xA : Option Addr) (xq xc : Nat) (fA : Option Addr) (fq fc : Nat) (hA : Option Addr) (hq hc : Nat) (uA : Option Addr) (uq uc : Nat) (pA : Option Addr) (pq pc : Nat) (lim : Int) (_b1 _b2 _b3 _b4 : Bool) (HSM : ∀ W, Below w.heap.size w W → Calls Tryz.prog 7 #[.agg #[.slice A m c, .slice ia il ik]] W (RetV (.bool true) W)) (HFX : ∀ W, Below w.heap.size w W → Calls Tryz.prog 8 #[.slice xA xq xc] W (RetV (.bool true) W)) (HFH : ∀ W, Below w.heap.size w W → Calls Tryz.prog 8 #[.slice hA hq hc] W (RetV (.bool true) W)) (HFU : ∀ W, Below w.heap.size w W → Calls Tryz.prog 8 #[.slice uA uq uc] W (RetV (.bool true) W)) (c5 : ((12 : Int) < (fq : Int)) = False) (c6 : ((12 : Int) < (pq : Int)) = True) : Calls Tryz.prog 3 #[.agg #[.slice A m c, .slice ia il ik], .agg #[.int .i64 k, .string xtab, .slice ya yn yc, .slice za zn zc, .slice va vn vc, .bool star, .slice xA xq xc, .slice fA fq fc, .slice hA hq hc, .slice uA uq uc, .slice pA pq pc, .int .i64 lim]] w (RetV (.bool true) w) := by
  have HLV := Lib.hid lives_any
  have HSM := Lib.hid HSM
  have HFX := Lib.hid HFX
  have HFH := Lib.hid HFH
  have HFU := Lib.hid HFU
  go_enter Tryz.func3, Tryz.ntmps3
  go_wp2_with (first
    | (go_at_call 6; (with_reducible refine (HLV.out _).mono ?_); rintro e wa ⟨rfl, hB⟩
       have HBa := Lib.hid ((BX.two w _ _).keep hB)
       obtain ⟨sa0, sa1, sa2, sa3, sa4, sa5, sa6, sa7, sa8, sa9, sa10, sa11, sa12, sa13⟩ := HBa.out.two12
       clear hB)
    | (go_at_call 7; (with_reducible refine (HSM.out _ HBa.out.below).mono ?_); rintro e wb ⟨rfl, hB⟩
       have HBb := Lib.hid (HBa.out.keep hB)
       obtain ⟨sb0, sb1, sb2, sb3, sb4, sb5, sb6, sb7, sb8, sb9, sb10, sb11, sb12, sb13⟩ := HBb.out.two12
       clear hB)
    | (go_at_call 8; (with_reducible refine (HFX.out _ HBb.out.below).mono ?_); rintro e wc ⟨rfl, hB⟩
       have HBc := Lib.hid (HBb.out.keep hB)
       obtain ⟨sc0, sc1, sc2, sc3, sc4, sc5, sc6, sc7, sc8, sc9, sc10, sc11, sc12, sc13⟩ := HBc.out.two12
       clear hB)
    | (go_at_call 8; (with_reducible refine (HFH.out _ HBc.out.below).mono ?_); rintro e wd ⟨rfl, hB⟩
       have HBd := Lib.hid (HBc.out.keep hB)
       obtain ⟨sd0, sd1, sd2, sd3, sd4, sd5, sd6, sd7, sd8, sd9, sd10, sd11, sd12, sd13⟩ := HBd.out.two12
       clear hB)
    | (go_at_call 8; (with_reducible refine (HFU.out _ HBd.out.below).mono ?_); rintro e we ⟨rfl, hB⟩
       have HBe := Lib.hid (HBd.out.keep hB)
       obtain ⟨se0, se1, se2, se3, se4, se5, se6, se7, se8, se9, se10, se11, se12, se13⟩ := HBe.out.two12
       clear hB)
    | (go_at_call 6; (with_reducible refine (HLV.out _).mono ?_); rintro e wz ⟨rfl, hB⟩
       have HBz := Lib.hid (HBe.out.keep hB)
       clear hB)
    | fail)
  go_ret
  exact ⟨rfl, HBz.out.below⟩
set_option maxRecDepth 100000 in
set_option maxHeartbeats 16000000 in
theorem snd_go (_n : Nat) (_ts : List (Tab × List Col)) (w : World) (A : Option Addr) (m c : Nat) (ia : Option Addr) (il ik : Nat) (k : Int) (xtab : ByteArray) (ya : Option Addr) (yn yc : Nat) (za : Option Addr) (zn zc : Nat) (va : Option Addr) (vn vc : Nat) (star : Bool) (xA : Option Addr) (xq xc : Nat) (fA : Option Addr) (fq fc : Nat) (hA : Option Addr) (hq hc : Nat) (uA : Option Addr) (uq uc : Nat) (pA : Option Addr) (pq pc : Nat) (lim : Int) (_b1 _b2 _b3 _b4 : Bool) (HSM : ∀ W, Below w.heap.size w W → Calls Tryz.prog 7 #[.agg #[.slice A m c, .slice ia il ik]] W (RetV (.bool true) W)) (HFX : ∀ W, Below w.heap.size w W → Calls Tryz.prog 8 #[.slice xA xq xc] W (RetV (.bool true) W)) (HFH : ∀ W, Below w.heap.size w W → Calls Tryz.prog 8 #[.slice hA hq hc] W (RetV (.bool true) W)) (HFU : ∀ W, Below w.heap.size w W → Calls Tryz.prog 8 #[.slice uA uq uc] W (RetV (.bool true) W)) (c5 : ((12 : Int) < (fq : Int)) = False) (c6 : ((12 : Int) < (pq : Int)) = False)
    (HSEG : ∀ a W, S2 w a → BX w [.cells #[.slice A m c, .slice ia il ik] 25, .cells #[.int .i64 k, .string xtab, .slice ya yn yc, .slice za zn zc, .slice va vn vc, .bool star, .slice xA xq xc, .slice fA fq fc, .slice hA hq hc, .slice uA uq uc, .slice pA pq pc, .int .i64 lim] 33] W → (sfC 2).wp Tryz.prog (bodyPost Tryz.prog Tryz.f3 (RetV (.bool true) w)) a W) : Calls Tryz.prog 3 #[.agg #[.slice A m c, .slice ia il ik], .agg #[.int .i64 k, .string xtab, .slice ya yn yc, .slice za zn zc, .slice va vn vc, .bool star, .slice xA xq xc, .slice fA fq fc, .slice hA hq hc, .slice uA uq uc, .slice pA pq pc, .int .i64 lim]] w (RetV (.bool true) w) := by
  have HLV := Lib.hid lives_any
  have HSM := Lib.hid HSM
  have HFX := Lib.hid HFX
  have HFH := Lib.hid HFH
  have HFU := Lib.hid HFU
  have HS := Lib.hid HSEG
  clear HSEG
  go_enter Tryz.func3, Tryz.ntmps3
  refine wp_seq_k fun K0 hK0 => ?_
  have HK0 := Lib.hid hK0
  clear hK0
  go_wp2_with fail
  refine HK0.out _ _ ?_
  refine wp_seq_k fun K1 hK1 => ?_
  have HK1 := Lib.hid (show ∀ a w', (sfC 2).wp Tryz.prog (bodyPost Tryz.prog Tryz.f3 (RetV (.bool true) w)) a w' → K1 a w' from hK1)
  clear hK1
  go_wp2_with (first
    | (go_at_call 6; (with_reducible refine (HLV.out _).mono ?_); rintro e wa ⟨rfl, hB⟩
       have HBa := Lib.hid ((BX.two w _ _).keep hB)
       obtain ⟨sa0, sa1, sa2, sa3, sa4, sa5, sa6, sa7, sa8, sa9, sa10, sa11, sa12, sa13⟩ := HBa.out.two12
       clear hB)
    | (go_at_call 7; (with_reducible refine (HSM.out _ HBa.out.below).mono ?_); rintro e wb ⟨rfl, hB⟩
       have HBb := Lib.hid (HBa.out.keep hB)
       obtain ⟨sb0, sb1, sb2, sb3, sb4, sb5, sb6, sb7, sb8, sb9, sb10, sb11, sb12, sb13⟩ := HBb.out.two12
       clear hB)
    | (go_at_call 8; (with_reducible refine (HFX.out _ HBb.out.below).mono ?_); rintro e wc ⟨rfl, hB⟩
       have HBc := Lib.hid (HBb.out.keep hB)
       obtain ⟨sc0, sc1, sc2, sc3, sc4, sc5, sc6, sc7, sc8, sc9, sc10, sc11, sc12, sc13⟩ := HBc.out.two12
       clear hB)
    | (go_at_call 8; (with_reducible refine (HFH.out _ HBc.out.below).mono ?_); rintro e wd ⟨rfl, hB⟩
       have HBd := Lib.hid (HBc.out.keep hB)
       obtain ⟨sd0, sd1, sd2, sd3, sd4, sd5, sd6, sd7, sd8, sd9, sd10, sd11, sd12, sd13⟩ := HBd.out.two12
       clear hB)
    | (go_at_call 8; (with_reducible refine (HFU.out _ HBd.out.below).mono ?_); rintro e we ⟨rfl, hB⟩
       have HBe := Lib.hid (HBd.out.keep hB)
       obtain ⟨se0, se1, se2, se3, se4, se5, se6, se7, se8, se9, se10, se11, se12, se13⟩ := HBe.out.two12
       clear hB)
    | fail)
  refine HK1.out _ _ (HS.out _ _ ⟨?_, ?_, ?_, ?_⟩ HBe.out) <;> rfl
end Go.Proofs.YthdmfaepjemopaaGreatDoor
