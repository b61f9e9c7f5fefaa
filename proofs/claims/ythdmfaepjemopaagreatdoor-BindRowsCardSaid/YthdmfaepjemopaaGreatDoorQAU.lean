/- The walk of choose, from the items on. The walk of choose, from behind the groups on. -/
import Derived.Test.YthdmfaepjemopaaGreatDoorQAT
namespace Go.Proofs.YthdmfaepjemopaaGreatDoor
open Go.RowKit

def itemR (n : Nat) (rows : List Row) (gr : Bool) (gl : List Int) (x : Ex) : Except Int Nd := match bindR n rows (foldK x.kind) x with
  | .error e => .error e
  | .ok p => if gr = false ∨ foldK x.kind = true ∨ (p.kind = 2 ∧ gl.contains p.pos = true) then .ok p else .error 132
set_option maxRecDepth 100000 in
set_option maxHeartbeats 16000000 in
theorem seg2a (n : Nat) (sa ta ba : Option Addr) (rows : List Row) (tA : Option Addr) (tl : List Int) (bA wA : Option Addr) (wvs : List (List Value)) (wh : List Nd) (gA : Option Addr) (gl : List Int) (w : World) (sr : Array Value) (xr0 xr1 xr2 xr3 xr4 xr7 xr8 xr9 xr11 : Value) (star : Bool) (xA : Option Addr) (xq xc : Nat) (xs : List Ex) (oA : Option Addr) (q oc : Nat) (ol : List (Ex × Bool)) (tc bc wc gc c1 c2 c3 : Nat) (wd : Int) (gr fo0 : Bool) (lim : Int) (R : Except Int Qy)
    (hn : 0 < n) (hxq : xq = xs.length) (hx30 : xq ≤ 30) (hxs : ExsAt w n xA xs) (hxm : ∀ x ∈ xs, SmallX n x) (hq : q = ol.length) (hq9 : q ≤ 12) (hol : CellsAt w 11 oA (ol.map ordL)) (hR : RowsOk w rows) (hm : rows.length ≤ 4) (hc12 : ∀ r ∈ rows, r.cols.length ≤ 12)
    (hRR : R = match eachR (itemR n rows gr gl) xs with | .error e => .error e | .ok il => match eachR (ordR rows gr gl) ol with | .error e => .error e | .ok os => .ok ⟨tl, rows.map Row.beg, wd, wh, gl, gr, il ++ (if star then starR rows else []), os, lim⟩)
    (a : Act) (W : World) (hS : Slots w a)
    (hG : GS w sr #[xr0, xr1, xr2, xr3, xr4, .bool star, .slice xA xq xc, xr7, xr8, xr9, .slice oA q oc, xr11] #[.slice tA tl.length tc, .slice bA rows.length bc, .int .i64 wd, .slice wA wvs.length wc, .slice gA gl.length gc, .bool gr, .slice none 0 0, .slice none 0 0, .int .i64 lim] #[.slice sa rows.length c1, .slice ta rows.length c2, .slice ba rows.length c3, .bool false, .bool fo0] (Fq n sa ta ba rows tA tl bA wA wvs wvs wh gA gl none [] [] []) 54 10 (.slice none 0 0) 0 [] W) :
    (chC 10).wp Tryz.prog (bodyPost Tryz.prog Tryz.f22 (ChooseO n w R)) a W := by
  have HG := Lib.hid hG
  have xb6 : W.cell? ⟨w.heap.size + 1, 6, none⟩ = some (.slice xA xq xc) := cell_of_row _ _ 6 _ _ _ hG.cm.xb
  have HSEG := Lib.hid (show ∀ ivs il v fo a W, eachR (itemR n rows gr gl) xs = .ok il → (∀ x ∈ ivs, x.length = 10) → ivs.length ≤ 30 → Slots w a → GS w sr #[xr0, xr1, xr2, xr3, xr4, .bool star, .slice xA xq xc, xr7, xr8, xr9, .slice oA q oc, xr11] #[.slice tA tl.length tc, .slice bA rows.length bc, .int .i64 wd, .slice wA wvs.length wc, .slice gA gl.length gc, .bool gr, v, .slice none 0 0, .int .i64 lim] #[.slice sa rows.length c1, .slice ta rows.length c2, .slice ba rows.length c3, .bool false, .bool fo] (Fq n sa ta ba rows tA tl bA wA wvs wvs wh gA gl none [] ivs il) 54 10 v ivs.length ivs.flatten W → (chC 11).wp Tryz.prog (bodyPost Tryz.prog Tryz.f22 (ChooseO n w R)) a W from fun ivs il v fo a W hil hl h30 hS hG => seg3 n sa ta ba rows tA tl bA wA wvs wh gA gl ivs il w sr xr0 xr1 xr2 xr3 xr4 (.slice xA xq xc) xr7 xr8 xr9 xr11 star oA q oc ol tc bc wc gc c1 c2 c3 wd gr fo lim R v hn hq hq9 hol hR hm hc12 hl h30 (by rw [hRR, hil]; first | done | (cases eachR (ordR rows gr gl) ol <;> rfl)) a W hS hG)
  have HRN := Lib.hid (show ∀ (j : Nat) (y : Ex) (il : List Nd), eachR (itemR n rows gr gl) (xs.take j) = .ok il → xs[j]? = some y → ∀ er, itemR n rows gr gl y = .error er → R = .error er from fun j y il h1 h2 er h3 => by rw [hRR, each_fail h2 h1 h3])
  have HXQ := Lib.hid hxq
  have HXS := Lib.hid hxs
  have HXM := Lib.hid hxm
  have HRO := Lib.hid hR
  have HC2N := fun w => check_no 132 w
  have HC2Y := fun w => check_yes 132 w
  clear hG hRR hR hc12 hol hq hxs hxm hxq
  obtain ⟨u, hu, hug⟩ := open288 hS.size
  have p2 := hS.s2; have p3 := hS.s3; have p4 := hS.s4; have p5 := hS.s5; have p6 := hS.s6
  have hdf := hS.df
  rw [hug _ (by omega)] at p2 p3 p4 p5 p6
  obtain ⟨tm, df⟩ := a
  dsimp only at hu hdf
  subst hu hdf
  clear hS hug
  rw [p2, p3, p4, p5, p6]
  clear p2 p3 p4 p5 p6
  conv => arg 2; whnf
  refine wp_seq_k fun K hK => ?_
  have HK := Lib.hid (show ∀ a w', (chC 11).wp Tryz.prog (bodyPost Tryz.prog Tryz.f22 (ChooseO n w R)) a w' → K a w' from hK)
  clear hK
  go_wp2_with fail
  clear xb6
  refine wp_loop (fun a' wr => Slots w a' ∧ a'.tmps.getD 176 undef = .slice xA xq xc ∧ a'.tmps.getD 177 undef = .int .i64 xq ∧ ∃ (j : Nat) (v : Value) (us : List (List Value)) (il : List Nd) (fo : Bool), j ≤ xq ∧ a'.tmps.getD 178 undef = .int .i64 j ∧ us.length = j ∧ Hid (eachR (itemR n rows gr gl) (xs.take j) = .ok il) ∧ Hid (∀ x ∈ us, x.length = 10) ∧ Hid (GS w sr #[xr0, xr1, xr2, xr3, xr4, .bool star, .slice xA xq xc, xr7, xr8, xr9, .slice oA q oc, xr11] #[.slice tA tl.length tc, .slice bA rows.length bc, .int .i64 wd, .slice wA wvs.length wc, .slice gA gl.length gc, .bool gr, v, .slice none 0 0, .int .i64 lim] #[.slice sa rows.length c1, .slice ta rows.length c2, .slice ba rows.length c3, .bool false, .bool fo] (Fq n sa ta ba rows tA tl bA wA wvs wvs wh gA gl none [] us il) 54 10 v us.length us.flatten wr)) (fun a' _ => xq - (intOf (a'.tmps.getD 178 undef)).toNat) ?start ?round
  case start =>
    refine ⟨⟨?_, ?_, ?_, ?_, ?_, ?_, ?_⟩, ?_, ?_, 0, .slice none 0 0, [], [], fo0, Nat.zero_le _, ?_, rfl, Lib.hid rfl, Lib.hid (fun x hx => by cases hx), HG⟩
    all_goals rfl
  case round =>
    clear HG
    rintro a wr ⟨hS, h176, h177, j, v, us, il, fo, hj, h178, hus, HE, HL, HG⟩
    obtain ⟨u, hu, hug⟩ := open288 hS.size
    have p2 := hS.s2; have p3 := hS.s3; have p4 := hS.s4; have p5 := hS.s5; have p6 := hS.s6
    have hdf := hS.df
    rw [hug _ (by omega)] at p2 p3 p4 p5 p6 h176 h177 h178
    obtain ⟨tm, df⟩ := a
    dsimp only at hu hdf
    subst hu hdf
    clear hS hug
    rw [p2, p3, p4, p5, p6, h176, h177, h178]
    clear p2 p3 p4 p5 p6 h176 h177 h178
    have HUS := Lib.hid hus
    clear hus
    by_cases hjq : j < xq
    · have hjn : ((j : Int) < (xq : Int)) = True := eq_true (by omega)
      obtain ⟨x, hx⟩ : ∃ y, xs[j]? = some y := ⟨_, List.getElem?_eq_getElem (by have := HXQ.out; omega)⟩
      obtain ⟨eb, eo, rfl, heb, hyc⟩ := ex_at HXS.out.1 hx
      have HXJ := Lib.hid hx
      have hzs := heap_lt HG.out.cm.sc
      have t0 : wr.cell? ⟨eb, eo + j * 10, none⟩ = some (.int .i64 x.kind) := cell_kept (hyc 0 _ rfl) HG.out.cm.below
      have t1 := cell_kept (hyc 1 _ rfl) HG.out.cm.below
      have t2 := cell_kept (hyc 2 _ rfl) HG.out.cm.below
      have t3 := cell_kept (hyc 3 _ rfl) HG.out.cm.below
      have t4 := cell_kept (hyc 4 _ rfl) HG.out.cm.below
      have t5 := cell_kept (hyc 5 _ rfl) HG.out.cm.below
      have t6 := cell_kept (hyc 6 _ rfl) HG.out.cm.below
      have t7 := cell_kept (hyc 7 _ rfl) HG.out.cm.below
      have t8 := cell_kept (hyc 8 _ rfl) HG.out.cm.below
      have t9 := cell_kept (hyc 9 _ rfl) HG.out.cm.below
      obtain ⟨fk, hfk⟩ : ∃ f, f = foldK x.kind := ⟨_, rfl⟩
      have HFK := Lib.hid hfk
      have HF := Lib.hid (show ∀ W, Calls Tryz.prog 38 #[exV x] W (RetV (.bool fk) W) from fun W => by rw [hfk]; exact folds_any x W)
      have sf := store_float
      clear hyc hx heb hfk
      go_upto_region 28 with (first
        | (go_at_call 38; (with_reducible refine (HF.out _).mono ?_); rintro e w2 ⟨rfl, hB2⟩
           have HG2 := Lib.hid ((HG.out.keep (fq_stay ..) (below1 wr _)).keep (fq_stay ..) hB2)
           have HG3 := Lib.hid (HG2.out.setC (fq_stay ..) 4 (.bool fk))
           have HBX := Lib.hid ((heap_setFar (W := w2) (b := w.heap.size + 4) (j := 4) (k := wr.heap.size) (.bool fk) (by omega)).trans ((hB2.block wr.heap.size (by simp)).trans (heap_alloc_new wr _)))
           have y4 := frozen_of_row _ _ 4 _ _ HG2.out.cm.sc
           have q4 := cell_of_row _ _ 4 _ _ _ HG2.out.cm.sc
           have hz2 := heap_lt HG2.out.cm.sc
           have HZ2 := Lib.hid (Nat.lt_of_lt_of_le (show wr.heap.size < (wr.alloc _).heap.size by simp) hB2.size)
           clear hB2)
        | fail)
      clear t0 t1 t2 t3 t4 t5 t6 t7 t8 t9 y4 q4 hz2 hzs
      have HZ3 := Lib.hid (show wr.heap.size < (w2.setCell ⟨w.heap.size + 4, 4, none⟩ (.bool fk)).heap.size by simpa [World.setCell] using HZ2.out)
      generalize (w2.setCell ⟨w.heap.size + 4, 4, none⟩ (.bool fk)) = w3 at HG3 HBX HZ3 ⊢
      clear HG2 HZ2
      have HG3 := Lib.hid (show GS w sr #[xr0, xr1, xr2, xr3, xr4, .bool star, .slice (some ⟨eb, eo, none⟩) xq xc, xr7, xr8, xr9, .slice oA q oc, xr11] #[.slice tA tl.length tc, .slice bA rows.length bc, .int .i64 wd, .slice wA wvs.length wc, .slice gA gl.length gc, .bool gr, v, .slice none 0 0, .int .i64 lim] #[.slice sa rows.length c1, .slice ta rows.length c2, .slice ba rows.length c3, .bool false, .bool fk] (Fq n sa ta ba rows tA tl bA wA wvs wvs wh gA gl none [] us il) 54 10 v us.length us.flatten w3 from HG3.out)
      obtain ⟨s0, s1, s2, s3, s4⟩ := row5 HG3.out.cm.sc
      obtain ⟨x0, x1, x2, x3, x4, x5, x6, x7, x8, x9⟩ := row10 HBX.out
      have HEX := Lib.hid (show Calls Tryz.prog 25 #[.agg #[.slice sa rows.length c1, .slice ta rows.length c2, .slice ba rows.length c3, .bool false, .bool fk], exV x] w3 (ExprO n w3 (bindR n rows fk x)) from by
        have := expr_any (s := ⟨sa, c1, ta, c2, ba, c3, rows⟩) (by show rows.length ≤ 1000; omega) n x false fk w3 (sc_of HG3.out.hold HG3.out.cm.below HRO.out c1 c2 c3) ((HXS.out.2 x (List.mem_of_getElem? HXJ.out)).keep HG3.out.cm.below) (HXM.out x (List.mem_of_getElem? HXJ.out))
        rwa [Bool.not_false, Bool.and_true] at this)
      cases hb : bindR n rows fk x with
      | error er =>
        obtain rfl : R = .error er := HRN.out j x il HE.out HXJ.out er (by unfold itemR; rw [← HFK.out, hb])
        rw [hb] at HEX
        clear hb
        go_wp2_with (first
          | (go_at_call 25; (with_reducible refine HEX.out.mono ?_); rintro e w5 ⟨hB5, rfl⟩)
          | fail)
        exact ⟨rfl, HG3.out.cm.below.trans (hB5.mono HG3.out.cm.below.size), rfl⟩
      | ok p =>
        rw [hb] at HEX
        have HIT := Lib.hid (show itemR n rows gr gl x = if gr = false ∨ fk = true ∨ (p.kind = 2 ∧ gl.contains p.pos = true) then .ok p else .error 132 from by unfold itemR; rw [← HFK.out, hb])
        clear hb
        go_upto_region 29 with (first
          | (go_at_call 25; (with_reducible refine HEX.out.mono ?_); rintro e w5 ⟨hB5, A5, c5, q5, rfl, hN5⟩
             have HG5 := Lib.hid (HG3.out.keep (fq_stay ..) hB5)
             have HN5 := Lib.hid (show NdAt clP (okG w v) w5 n (ndL p (clP p.lit) A5 q5 c5) p from hN5.mono fun b h1 h2 => ⟨Nat.le_trans HG3.out.cm.lt h1, fun e => by have := (own_base HG3.out.own b e).2; omega⟩)
             clear hB5 hN5)
          | fail)
        have HNX := Lib.hid (heap_alloc_new w5 (.cells #[.int .i64 p.kind, .string p.op, .int .i64 (clP p.lit).k, .int .i64 (clP p.lit).n, .float .f64 (clP p.lit).f, .string (clP p.lit).s, .int .i64 p.pos, .bool p.neg, .int .i64 p.ty, .slice A5 q5 c5] 54))
        have HG6 := Lib.hid (HG5.out.keep (fq_stay ..) (below1 w5 (.cells #[.int .i64 p.kind, .string p.op, .int .i64 (clP p.lit).k, .int .i64 (clP p.lit).n, .float .f64 (clP p.lit).f, .string (clP p.lit).s, .int .i64 p.pos, .bool p.neg, .int .i64 p.ty, .slice A5 q5 c5] 54)))
        have HN6 := Lib.hid (HN5.out.keep (below1 w5 (.cells #[.int .i64 p.kind, .string p.op, .int .i64 (clP p.lit).k, .int .i64 (clP p.lit).n, .float .f64 (clP p.lit).f, .string (clP p.lit).s, .int .i64 p.pos, .bool p.neg, .int .i64 p.ty, .slice A5 q5 c5] 54)))
        obtain ⟨nb, hnb⟩ : ∃ b, b = w5.heap.size := ⟨_, rfl⟩
        rw [← hnb] at HNX ⊢
        clear hnb s0 s1 s2 s3 s4 x0 x1 x2 x3 x4 x5 x6 x7 x8 x9 HEX HG5 HN5 HBX HZ3
        generalize w5.alloc (.cells #[.int .i64 p.kind, .string p.op, .int .i64 (clP p.lit).k, .int .i64 (clP p.lit).n, .float .f64 (clP p.lit).f, .string (clP p.lit).s, .int .i64 p.pos, .bool p.neg, .int .i64 p.ty, .slice A5 q5 c5] 54) = w6 at HNX HG6 HN6 ⊢
        obtain ⟨q0, q1, q2, q3, q4, q5', q6, q7, q8⟩ := row9 HG6.out.cm.q
        have s4 : w6.cell? ⟨w.heap.size + 4, 4, none⟩ = some (.bool fk) := cell_of_row _ _ 4 _ _ _ HG6.out.cm.sc
        obtain ⟨n0, n1, n2, n3, n4, n5, n6, n7, n8, n9⟩ := row10 HNX.out
        cases gr with
        | false =>
          have HR := Lib.hid (each_snoc HXJ.out HE.out (HIT.out.trans (if_pos (Or.inl rfl))))
          go_upto_region 30 with (first
            | (go_at_call 24; (with_reducible refine (HC2Y _).mono ?_); rintro e w' ⟨rfl, rfl⟩)
            | fail)
          have HT := Lib.hid (And.intro HG6.out (And.intro HNX.out HN6.out))
          clear q0 q1 q2 q3 q4 q5' q6 q7 q8 s4 n0 n1 n2 n3 n4 n5 n6 n7 n8 n9
          obtain ⟨n0, n1, n2, n3, n4, n5, n6, n7, n8, n9⟩ := row10 HT.out.2.1
          have q6 := cell_of_row _ _ 6 _ _ _ HT.out.1.cm.q
          go_wp2_with (first
            | (at_builtin; refine list_one 45 54 10 112 nodeZ Tryz.underlying45 info54 rfl (by omega) (by omega) _ rfl _ _ rfl (w.heap.size + 5) v us.length us.flatten rfl (HT.out.1.keep (fq_stay ..) (below1 w6 _)).own _ 1 (ndL p (clP p.lit) A5 q5 c5) rfl rfl rfl (heap_alloc_new w6 _) ?c3 ?c4 ?_)
            | fail)
          case c3 => have := HUS.out; omega
          case c4 => have := HT.out.1.cm.lt; simp; omega
          intro v8 w8 hown hgr hv8
          obtain ⟨A8, c8, rfl⟩ := own_slice hown
          have HM := Lib.hid (((HT.out.1.nd HT.out.2.2).keep (fq_stay ..) (below1 w6 _)).app (fq_stay ..) hown hgr (by first | exact hv8 | simpa using hv8))
          have HM2 := Lib.hid (HM.out.setQ (fq_stay ..) 6 (.slice A8 (us.length + 1) c8))
          have y6b := frozen_of_row _ _ 6 _ _ HM.out.cm.q
          have q6b := cell_of_row _ _ 6 _ _ _ HM.out.cm.q
          have hz8 := heap_lt HM.out.cm.q
          clear hown hgr hv8
          go_wp2_with fail
          refine ⟨⟨⟨?_, ?_, ?_, ?_, ?_, ?_, ?_⟩, ?_, ?_, j + 1, .slice A8 (us.length + 1) c8, us ++ [ndL p (clP p.lit) A5 q5 c5], il ++ [p], fk, by omega, ?_, by rw [List.length_append, HUS.out]; rfl, HR, Lib.hid ?_, Lib.hid ?_⟩, ?_⟩
          all_goals first | rfl | skip
          · intro y hy
            rcases List.mem_append.1 hy with h | h
            · exact HL.out y h
            · obtain rfl : y = ndL p (clP p.lit) A5 q5 c5 := by simpa using h
              rfl
          · have := HM2.out
            rw [List.length_append, List.flatten_append]
            simpa using this
          · show xq - (intOf (.int .i64 _)).toNat < xq - (intOf (.int .i64 _)).toNat
            simp [intOf] <;> omega
        | true =>
          cases fk with
          | true =>
            have HR := Lib.hid (each_snoc HXJ.out HE.out (HIT.out.trans (if_pos (Or.inr (Or.inl rfl)))))
            go_upto_region 30 with (first
              | (go_at_call 24; (with_reducible refine (HC2Y _).mono ?_); rintro e w' ⟨rfl, rfl⟩)
              | fail)
            have HT := Lib.hid (And.intro HG6.out (And.intro HNX.out HN6.out))
            clear q0 q1 q2 q3 q4 q5' q6 q7 q8 s4 n0 n1 n2 n3 n4 n5 n6 n7 n8 n9
            obtain ⟨n0, n1, n2, n3, n4, n5, n6, n7, n8, n9⟩ := row10 HT.out.2.1
            have q6 := cell_of_row _ _ 6 _ _ _ HT.out.1.cm.q
            go_wp2_with (first
              | (at_builtin; refine list_one 45 54 10 112 nodeZ Tryz.underlying45 info54 rfl (by omega) (by omega) _ rfl _ _ rfl (w.heap.size + 5) v us.length us.flatten rfl (HT.out.1.keep (fq_stay ..) (below1 w6 _)).own _ 1 (ndL p (clP p.lit) A5 q5 c5) rfl rfl rfl (heap_alloc_new w6 _) ?c3 ?c4 ?_)
              | fail)
            case c3 => have := HUS.out; omega
            case c4 => have := HT.out.1.cm.lt; simp; omega
            intro v8 w8 hown hgr hv8
            obtain ⟨A8, c8, rfl⟩ := own_slice hown
            have HM := Lib.hid (((HT.out.1.nd HT.out.2.2).keep (fq_stay ..) (below1 w6 _)).app (fq_stay ..) hown hgr (by first | exact hv8 | simpa using hv8))
            have HM2 := Lib.hid (HM.out.setQ (fq_stay ..) 6 (.slice A8 (us.length + 1) c8))
            have y6b := frozen_of_row _ _ 6 _ _ HM.out.cm.q
            have q6b := cell_of_row _ _ 6 _ _ _ HM.out.cm.q
            have hz8 := heap_lt HM.out.cm.q
            clear hown hgr hv8
            go_wp2_with fail
            refine ⟨⟨⟨?_, ?_, ?_, ?_, ?_, ?_, ?_⟩, ?_, ?_, j + 1, .slice A8 (us.length + 1) c8, us ++ [ndL p (clP p.lit) A5 q5 c5], il ++ [p], true, by omega, ?_, by rw [List.length_append, HUS.out]; rfl, HR, Lib.hid ?_, Lib.hid ?_⟩, ?_⟩
            all_goals first | rfl | skip
            · intro y hy
              rcases List.mem_append.1 hy with h | h
              · exact HL.out y h
              · obtain rfl : y = ndL p (clP p.lit) A5 q5 c5 := by simpa using h
                rfl
            · have := HM2.out
              rw [List.length_append, List.flatten_append]
              simpa using this
            · show xq - (intOf (.int .i64 _)).toNat < xq - (intOf (.int .i64 _)).toNat
              simp [intOf] <;> omega
          | false =>
            by_cases hk2 : p.kind = 2
            · have hkk : (p.kind == 2) = true := beq_iff_eq.2 hk2
              have HAS := Lib.hid (has_ints gA gc gl p.pos w6 HG6.out.hold.gc.ints)
              cases hh : gl.contains p.pos with
              | false =>
                obtain rfl : R = .error 132 := HRN.out j x il HE.out HXJ.out 132 (HIT.out.trans (if_neg (fun h => by rcases h with h | h | h <;> first | (cases h; done) | (rw [hh] at h; cases h.2; done))))
                rw [hh] at HAS
                clear hk2 hh
                go_wp2_with (first
                  | (go_at_call 39; (with_reducible refine HAS.out.mono ?_); rintro e w7 ⟨rfl, hB7⟩
                     have HG7 := Lib.hid (HG6.out.keep (fq_stay ..) hB7)
                     clear hB7)
                  | (go_at_call 24; (with_reducible refine (HC2N _).mono ?_); rintro e w' ⟨rfl, rfl⟩)
                  | fail)
                exact ⟨rfl, HG7.out.cm.below, rfl⟩
              | true =>
                have HR := Lib.hid (each_snoc HXJ.out HE.out (HIT.out.trans (if_pos (Or.inr (Or.inr ⟨hk2, hh⟩)))))
                rw [hh] at HAS
                clear hk2 hh
                go_upto_region 30 with (first
                  | (go_at_call 39; (with_reducible refine HAS.out.mono ?_); rintro e w7 ⟨rfl, hB7⟩
                     have HG7 := Lib.hid (HG6.out.keep (fq_stay ..) hB7)
                     have HN7 := Lib.hid (HN6.out.keep hB7)
                     have HNX7 := Lib.hid ((hB7.block nb (heap_lt HNX.out)).trans HNX.out)
                     clear hB7)
                  | (go_at_call 24; (with_reducible refine (HC2Y _).mono ?_); rintro e w' ⟨rfl, rfl⟩)
                  | fail)
                have HT := Lib.hid (And.intro HG7.out (And.intro HNX7.out HN7.out))
                clear q0 q1 q2 q3 q4 q5' q6 q7 q8 s4 n0 n1 n2 n3 n4 n5 n6 n7 n8 n9
                obtain ⟨n0, n1, n2, n3, n4, n5, n6, n7, n8, n9⟩ := row10 HT.out.2.1
                have q6 := cell_of_row _ _ 6 _ _ _ HT.out.1.cm.q
                go_wp2_with (first
                  | (at_builtin; refine list_one 45 54 10 112 nodeZ Tryz.underlying45 info54 rfl (by omega) (by omega) _ rfl _ _ rfl (w.heap.size + 5) v us.length us.flatten rfl (HT.out.1.keep (fq_stay ..) (below1 w7 _)).own _ 1 (ndL p (clP p.lit) A5 q5 c5) rfl rfl rfl (heap_alloc_new w7 _) ?c3 ?c4 ?_)
                  | fail)
                case c3 => have := HUS.out; omega
                case c4 => have := HT.out.1.cm.lt; simp; omega
                intro v8 w8 hown hgr hv8
                obtain ⟨A8, c8, rfl⟩ := own_slice hown
                have HM := Lib.hid (((HT.out.1.nd HT.out.2.2).keep (fq_stay ..) (below1 w7 _)).app (fq_stay ..) hown hgr (by first | exact hv8 | simpa using hv8))
                have HM2 := Lib.hid (HM.out.setQ (fq_stay ..) 6 (.slice A8 (us.length + 1) c8))
                have y6b := frozen_of_row _ _ 6 _ _ HM.out.cm.q
                have q6b := cell_of_row _ _ 6 _ _ _ HM.out.cm.q
                have hz8 := heap_lt HM.out.cm.q
                clear hown hgr hv8
                go_wp2_with fail
                refine ⟨⟨⟨?_, ?_, ?_, ?_, ?_, ?_, ?_⟩, ?_, ?_, j + 1, .slice A8 (us.length + 1) c8, us ++ [ndL p (clP p.lit) A5 q5 c5], il ++ [p], false, by omega, ?_, by rw [List.length_append, HUS.out]; rfl, HR, Lib.hid ?_, Lib.hid ?_⟩, ?_⟩
                all_goals first | rfl | skip
                · intro y hy
                  rcases List.mem_append.1 hy with h | h
                  · exact HL.out y h
                  · obtain rfl : y = ndL p (clP p.lit) A5 q5 c5 := by simpa using h
                    rfl
                · have := HM2.out
                  rw [List.length_append, List.flatten_append]
                  simpa using this
                · show xq - (intOf (.int .i64 _)).toNat < xq - (intOf (.int .i64 _)).toNat
                  simp [intOf] <;> omega
            · obtain rfl : R = .error 132 := HRN.out j x il HE.out HXJ.out 132 (HIT.out.trans (if_neg (fun h => by rcases h with h | h | h <;> first | (cases h; done) | exact hk2 h.1)))
              have hkk : (p.kind == 2) = false := beq_eq_false_iff_ne.2 hk2
              clear hk2
              go_wp2_with (first
                | (go_at_call 24; (with_reducible refine (HC2N _).mono ?_); rintro e w' ⟨rfl, rfl⟩)
                | fail)
              exact ⟨rfl, HG6.out.cm.below, rfl⟩
    · obtain rfl : j = xq := by omega
      have hjn : ((j : Int) < (j : Int)) = False := eq_false (by omega)
      have hT := HE.out
      rw [List.take_of_length_le (by have := HXQ.out; omega)] at hT
      have HT := Lib.hid hT
      clear hT
      go_wp2_with fail
      refine HK.out _ _ (HSEG.out us il v fo _ _ HT.out HL.out (by have := HUS.out; omega) ⟨?_, ?_, ?_, ?_, ?_, ?_, ?_⟩ HG.out) <;> rfl
end Go.Proofs.YthdmfaepjemopaaGreatDoor
namespace Go.Proofs.YthdmfaepjemopaaGreatDoor
open Go.RowKit

def grR (gl : List Int) (xs : List Ex) : Bool := !gl.isEmpty || xs.any fun x => foldK x.kind
def restR (n : Nat) (rows : List Row) (tl : List Int) (wd : Int) (wh : List Nd) (gl : List Int) (xs : List Ex) (star : Bool) (ol : List (Ex × Bool)) (lim : Int) : Except Int Qy := if (grR gl xs && star) = true then .error 132 else match eachR (itemR n rows (grR gl xs) gl) xs with
  | .error e => .error e
  | .ok il => match eachR (ordR rows (grR gl xs) gl) ol with
    | .error e => .error e
    | .ok os => .ok ⟨tl, rows.map Row.beg, wd, wh, gl, grR gl xs, il ++ (if star then starR rows else []), os, lim⟩
set_option maxRecDepth 100000 in
set_option maxHeartbeats 16000000 in
theorem seg2at (n : Nat) (sa ta ba : Option Addr) (rows : List Row) (tA : Option Addr) (tl : List Int) (bA wA : Option Addr) (wvs : List (List Value)) (wh : List Nd) (gA : Option Addr) (g0 : Int) (gs : List Int) (w : World) (sr : Array Value) (xr0 xr1 xr2 xr3 xr4 xr7 xr8 xr9 xr11 : Value) (xA : Option Addr) (xq xc : Nat) (xs : List Ex) (oA : Option Addr) (q oc : Nat) (ol : List (Ex × Bool)) (tc bc wc gc c1 c2 c3 : Nat) (wd : Int) (lim : Int)
    (_hn : 0 < n) (_hxq : xq = xs.length) (_hx30 : xq ≤ 30) (_hxs : ExsAt w n xA xs) (_hxm : ∀ x ∈ xs, SmallX n x) (_hq : q = ol.length) (_hq9 : q ≤ 12) (_hol : CellsAt w 11 oA (ol.map ordL)) (_hR : RowsOk w rows) (_hm : rows.length ≤ 4) (_hc12 : ∀ r ∈ rows, r.cols.length ≤ 12)
    (a : Act) (W : World) (hS : Slots w a)
    (hG : GS w sr #[xr0, xr1, xr2, xr3, xr4, .bool true, .slice xA xq xc, xr7, xr8, xr9, .slice oA q oc, xr11] #[.slice tA tl.length tc, .slice bA rows.length bc, .int .i64 wd, .slice wA wvs.length wc, .slice gA (g0 :: gs).length gc, .bool false, .slice none 0 0, .slice none 0 0, .int .i64 lim] #[.slice sa rows.length c1, .slice ta rows.length c2, .slice ba rows.length c3, .bool false, .bool false] (Fq n sa ta ba rows tA tl bA wA wvs wvs wh gA (g0 :: gs) none [] [] []) 54 10 (.slice none 0 0) 0 [] W) :
    (chC 8).wp Tryz.prog (bodyPost Tryz.prog Tryz.f22 (ChooseO n w (restR n rows tl wd wh (g0 :: gs) xs true ol lim))) a W := by
  have hgr : grR (g0 :: gs) xs = true := by unfold grR; rfl
  have xb5 : W.cell? ⟨w.heap.size + 1, 5, none⟩ = some (.bool true) := cell_of_row _ _ 5 _ _ _ hG.cm.xb
  have xb6 : W.cell? ⟨w.heap.size + 1, 6, none⟩ = some (.slice xA xq xc) := cell_of_row _ _ 6 _ _ _ hG.cm.xb
  have q4 : W.cell? ⟨w.heap.size + 3, 4, none⟩ = some (.slice gA (gs.length + 1) gc) := cell_of_row _ _ 4 _ _ _ hG.cm.q
  have q5 := cell_of_row _ _ 5 _ _ _ hG.cm.q
  have y5 := frozen_of_row _ _ 5 _ _ hG.cm.q
  have hzq := heap_lt hG.cm.q
  have hgn : ((0 : Int) < ((gs.length + 1 : Nat) : Int)) = True := eq_true (by omega)
  have hRE : restR n rows tl wd wh (g0 :: gs) xs true ol lim = .error 132 := by unfold restR; rw [hgr]; rfl
  rw [hRE]
  have HG := Lib.hid hG
  have HCK := fun w => check_no 132 w
  clear hG hgr hRE _hxs _hol _hR _hc12 _hxm _hxq _hq
  obtain ⟨u, hu, hug⟩ := open288 hS.size
  have p2 := hS.s2; have p3 := hS.s3; have p4 := hS.s4; have p5 := hS.s5; have p6 := hS.s6
  have hdf := hS.df
  rw [hug _ (by omega)] at p2 p3 p4 p5 p6
  obtain ⟨tm, df⟩ := a
  dsimp only at hu hdf
  subst hu hdf
  clear hS hug
  rw [p2, p3, p4, p5, p6]
  clear p2 p3 p4 p5 p6
  conv => arg 2; whnf
  go_wp2_with (first
    | (go_at_call 24; (with_reducible refine (HCK _).mono ?_); rintro e w' ⟨rfl, rfl⟩)
    | fail)
  exact ⟨rfl, (HG.out.setQ (fq_stay ..) 5 (.bool true)).cm.below, rfl⟩
set_option maxRecDepth 100000 in
set_option maxHeartbeats 16000000 in
theorem seg2af (n : Nat) (sa ta ba : Option Addr) (rows : List Row) (tA : Option Addr) (tl : List Int) (bA wA : Option Addr) (wvs : List (List Value)) (wh : List Nd) (gA : Option Addr) (g0 : Int) (gs : List Int) (w : World) (sr : Array Value) (xr0 xr1 xr2 xr3 xr4 xr7 xr8 xr9 xr11 : Value) (xA : Option Addr) (xq xc : Nat) (xs : List Ex) (oA : Option Addr) (q oc : Nat) (ol : List (Ex × Bool)) (tc bc wc gc c1 c2 c3 : Nat) (wd : Int) (lim : Int)
    (hn : 0 < n) (hxq : xq = xs.length) (hx30 : xq ≤ 30) (hxs : ExsAt w n xA xs) (hxm : ∀ x ∈ xs, SmallX n x) (hq : q = ol.length) (hq9 : q ≤ 12) (hol : CellsAt w 11 oA (ol.map ordL)) (hR : RowsOk w rows) (hm : rows.length ≤ 4) (hc12 : ∀ r ∈ rows, r.cols.length ≤ 12)
    (a : Act) (W : World) (hS : Slots w a)
    (hG : GS w sr #[xr0, xr1, xr2, xr3, xr4, .bool false, .slice xA xq xc, xr7, xr8, xr9, .slice oA q oc, xr11] #[.slice tA tl.length tc, .slice bA rows.length bc, .int .i64 wd, .slice wA wvs.length wc, .slice gA (g0 :: gs).length gc, .bool false, .slice none 0 0, .slice none 0 0, .int .i64 lim] #[.slice sa rows.length c1, .slice ta rows.length c2, .slice ba rows.length c3, .bool false, .bool false] (Fq n sa ta ba rows tA tl bA wA wvs wvs wh gA (g0 :: gs) none [] [] []) 54 10 (.slice none 0 0) 0 [] W) :
    (chC 8).wp Tryz.prog (bodyPost Tryz.prog Tryz.f22 (ChooseO n w (restR n rows tl wd wh (g0 :: gs) xs false ol lim))) a W := by
  have hgr : grR (g0 :: gs) xs = true := by unfold grR; rfl
  have xb5 : W.cell? ⟨w.heap.size + 1, 5, none⟩ = some (.bool false) := cell_of_row _ _ 5 _ _ _ hG.cm.xb
  have xb6 : W.cell? ⟨w.heap.size + 1, 6, none⟩ = some (.slice xA xq xc) := cell_of_row _ _ 6 _ _ _ hG.cm.xb
  have q4 : W.cell? ⟨w.heap.size + 3, 4, none⟩ = some (.slice gA (gs.length + 1) gc) := cell_of_row _ _ 4 _ _ _ hG.cm.q
  have q5 := cell_of_row _ _ 5 _ _ _ hG.cm.q
  have y5 := frozen_of_row _ _ 5 _ _ hG.cm.q
  have hzq := heap_lt hG.cm.q
  have hgn : ((0 : Int) < ((gs.length + 1 : Nat) : Int)) = True := eq_true (by omega)
  obtain ⟨R, hRD⟩ : ∃ R, R = restR n rows tl wd wh (g0 :: gs) xs false ol lim := ⟨_, rfl⟩
  rw [← hRD]
  have hRE : R = match eachR (itemR n rows true (g0 :: gs)) xs with | .error e => .error e | .ok il => match eachR (ordR rows true (g0 :: gs)) ol with | .error e => .error e | .ok os => .ok ⟨tl, rows.map Row.beg, wd, wh, (g0 :: gs), true, il ++ (if false then starR rows else []), os, lim⟩ := by
    rw [hRD]
    unfold restR
    rw [hgr, if_neg (by decide)]
    all_goals
      cases eachR (itemR n rows true (g0 :: gs)) xs with
      | error e => rfl
      | ok il => cases eachR (ordR rows true (g0 :: gs)) ol <;> rfl
  have HG := Lib.hid hG
  have HSEG := Lib.hid (show ∀ a W, Slots w a → GS w sr #[xr0, xr1, xr2, xr3, xr4, .bool false, .slice xA xq xc, xr7, xr8, xr9, .slice oA q oc, xr11] #[.slice tA tl.length tc, .slice bA rows.length bc, .int .i64 wd, .slice wA wvs.length wc, .slice gA (g0 :: gs).length gc, .bool true, .slice none 0 0, .slice none 0 0, .int .i64 lim] #[.slice sa rows.length c1, .slice ta rows.length c2, .slice ba rows.length c3, .bool false, .bool false] (Fq n sa ta ba rows tA tl bA wA wvs wvs wh gA (g0 :: gs) none [] [] []) 54 10 (.slice none 0 0) 0 [] W → (chC 10).wp Tryz.prog (bodyPost Tryz.prog Tryz.f22 (ChooseO n w R)) a W from fun a W hS hG => seg2a n sa ta ba rows tA tl bA wA wvs wh gA (g0 :: gs) w sr xr0 xr1 xr2 xr3 xr4 xr7 xr8 xr9 xr11 false xA xq xc xs oA q oc ol tc bc wc gc c1 c2 c3 wd true false lim R hn hxq hx30 hxs hxm hq hq9 hol hR hm hc12 hRE a W hS hG)
  have HCK := fun w => check_yes 132 w
  clear hG hgr hRE hxs hol hR hc12 hxm hRD hxq hq
  obtain ⟨u, hu, hug⟩ := open288 hS.size
  have p2 := hS.s2; have p3 := hS.s3; have p4 := hS.s4; have p5 := hS.s5; have p6 := hS.s6
  have hdf := hS.df
  rw [hug _ (by omega)] at p2 p3 p4 p5 p6
  obtain ⟨tm, df⟩ := a
  dsimp only at hu hdf
  subst hu hdf
  clear hS hug
  rw [p2, p3, p4, p5, p6]
  clear p2 p3 p4 p5 p6
  conv => arg 2; whnf
  refine wp_seq_k fun K hK => ?_
  have HK := Lib.hid hK
  clear hK
  go_wp2_with (first
    | fail)
  refine HK.out _ _ ?_
  refine wp_seq_k fun K2 hK2 => ?_
  have HK2 := Lib.hid (show ∀ a w', (chC 10).wp Tryz.prog (bodyPost Tryz.prog Tryz.f22 (ChooseO n w R)) a w' → K2 a w' from hK2)
  clear hK2
  have HG3 := Lib.hid (HG.out.setQ (fq_stay ..) 5 (.bool true))
  have xb5 : (W.setCell ⟨w.heap.size + 3, 5, none⟩ (.bool true)).cell? ⟨w.heap.size + 1, 5, none⟩ = some (.bool false) := cell_of_row _ _ 5 _ _ _ HG3.out.cm.xb
  have q5 : (W.setCell ⟨w.heap.size + 3, 5, none⟩ (.bool true)).cell? ⟨w.heap.size + 3, 5, none⟩ = some (.bool true) := cell_of_row _ _ 5 _ _ _ HG3.out.cm.q
  go_wp2_with (first
    | (go_at_call 24; (with_reducible refine (HCK _).mono ?_); rintro e w' ⟨rfl, rfl⟩)
    | fail)
  refine HK2.out _ _ (HSEG.out _ _ ⟨?_, ?_, ?_, ?_, ?_, ?_, ?_⟩ HG3.out) <;> rfl
set_option maxRecDepth 100000 in
set_option maxHeartbeats 16000000 in
theorem seg2bt (n : Nat) (sa ta ba : Option Addr) (rows : List Row) (tA : Option Addr) (tl : List Int) (bA wA : Option Addr) (wvs : List (List Value)) (wh : List Nd) (gA : Option Addr) (w : World) (sr : Array Value) (xr0 xr1 xr2 xr3 xr4 xr7 xr8 xr9 xr11 : Value) (xA : Option Addr) (xq xc : Nat) (xs : List Ex) (oA : Option Addr) (q oc : Nat) (ol : List (Ex × Bool)) (tc bc wc gc c1 c2 c3 : Nat) (wd : Int) (lim : Int) (hany : (xs.any fun x => foldK x.kind) = true)
    (_hn : 0 < n) (hxq : xq = xs.length) (_hx30 : xq ≤ 30) (hxs : ExsAt w n xA xs) (_hxm : ∀ x ∈ xs, SmallX n x) (_hq : q = ol.length) (_hq9 : q ≤ 12) (_hol : CellsAt w 11 oA (ol.map ordL)) (_hR : RowsOk w rows) (_hm : rows.length ≤ 4) (_hc12 : ∀ r ∈ rows, r.cols.length ≤ 12)
    (a : Act) (W : World) (hS : Slots w a)
    (hG : GS w sr #[xr0, xr1, xr2, xr3, xr4, .bool true, .slice xA xq xc, xr7, xr8, xr9, .slice oA q oc, xr11] #[.slice tA tl.length tc, .slice bA rows.length bc, .int .i64 wd, .slice wA wvs.length wc, .slice gA 0 gc, .bool false, .slice none 0 0, .slice none 0 0, .int .i64 lim] #[.slice sa rows.length c1, .slice ta rows.length c2, .slice ba rows.length c3, .bool false, .bool false] (Fq n sa ta ba rows tA tl bA wA wvs wvs wh gA [] none [] [] []) 54 10 (.slice none 0 0) 0 [] W) :
    (chC 8).wp Tryz.prog (bodyPost Tryz.prog Tryz.f22 (ChooseO n w (restR n rows tl wd wh [] xs true ol lim))) a W := by
  have hgr : grR [] xs = true := by unfold grR; rw [hany]; rfl
  have xb5 : W.cell? ⟨w.heap.size + 1, 5, none⟩ = some (.bool true) := cell_of_row _ _ 5 _ _ _ hG.cm.xb
  have xb6 : W.cell? ⟨w.heap.size + 1, 6, none⟩ = some (.slice xA xq xc) := cell_of_row _ _ 6 _ _ _ hG.cm.xb
  have q4 : W.cell? ⟨w.heap.size + 3, 4, none⟩ = some (.slice gA 0 gc) := cell_of_row _ _ 4 _ _ _ hG.cm.q
  have q5 := cell_of_row _ _ 5 _ _ _ hG.cm.q
  have y5 := frozen_of_row _ _ 5 _ _ hG.cm.q
  have hzq := heap_lt hG.cm.q
  have HFO := Lib.hid (show Calls Tryz.prog 37 #[.slice xA xq xc, .func (.func 38) #[] #[]] W (RetV (.bool true) W) from by
    have := has_fold xA xc xs W (CellsAt.keep hG.cm.below hxs.1)
    rwa [hany, ← hxq] at this)
  have hRE : restR n rows tl wd wh [] xs true ol lim = .error 132 := by unfold restR; rw [hgr]; rfl
  rw [hRE]
  have HG := Lib.hid hG
  have HCK := fun w => check_no 132 w
  clear hG hgr hRE hxs _hol _hR _hc12 _hxm hxq _hq
  obtain ⟨u, hu, hug⟩ := open288 hS.size
  have p2 := hS.s2; have p3 := hS.s3; have p4 := hS.s4; have p5 := hS.s5; have p6 := hS.s6
  have hdf := hS.df
  rw [hug _ (by omega)] at p2 p3 p4 p5 p6
  obtain ⟨tm, df⟩ := a
  dsimp only at hu hdf
  subst hu hdf
  clear hS hug
  rw [p2, p3, p4, p5, p6]
  clear p2 p3 p4 p5 p6
  conv => arg 2; whnf
  go_wp2_with (first
    | (go_at_call 24; (with_reducible refine (HCK _).mono ?_); rintro e w' ⟨rfl, rfl⟩)
    | (go_at_call 37; (with_reducible refine HFO.out.mono ?_); rintro e w2 ⟨rfl, hB2⟩
       have HG2 := Lib.hid (HG.out.keep (fq_stay ..) hB2)
       have q5 := cell_of_row _ _ 5 _ _ _ HG2.out.cm.q
       have y5 := frozen_of_row _ _ 5 _ _ HG2.out.cm.q
       have hzq := heap_lt HG2.out.cm.q
       have xb5 : (w2.setCell ⟨w.heap.size + 3, 5, none⟩ (.bool true)).cell? ⟨w.heap.size + 1, 5, none⟩ = some (.bool true) := cell_of_row _ _ 5 _ _ _ (HG2.out.setQ (fq_stay ..) 5 (.bool true)).cm.xb
       clear hB2)
    | fail)
  exact ⟨rfl, (HG2.out.setQ (fq_stay ..) 5 (.bool true)).cm.below, rfl⟩
set_option maxRecDepth 100000 in
set_option maxHeartbeats 16000000 in
theorem seg2bf (n : Nat) (sa ta ba : Option Addr) (rows : List Row) (tA : Option Addr) (tl : List Int) (bA wA : Option Addr) (wvs : List (List Value)) (wh : List Nd) (gA : Option Addr) (w : World) (sr : Array Value) (xr0 xr1 xr2 xr3 xr4 xr7 xr8 xr9 xr11 : Value) (xA : Option Addr) (xq xc : Nat) (xs : List Ex) (oA : Option Addr) (q oc : Nat) (ol : List (Ex × Bool)) (tc bc wc gc c1 c2 c3 : Nat) (wd : Int) (lim : Int) (hany : (xs.any fun x => foldK x.kind) = true)
    (hn : 0 < n) (hxq : xq = xs.length) (hx30 : xq ≤ 30) (hxs : ExsAt w n xA xs) (hxm : ∀ x ∈ xs, SmallX n x) (hq : q = ol.length) (hq9 : q ≤ 12) (hol : CellsAt w 11 oA (ol.map ordL)) (hR : RowsOk w rows) (hm : rows.length ≤ 4) (hc12 : ∀ r ∈ rows, r.cols.length ≤ 12)
    (a : Act) (W : World) (hS : Slots w a)
    (hG : GS w sr #[xr0, xr1, xr2, xr3, xr4, .bool false, .slice xA xq xc, xr7, xr8, xr9, .slice oA q oc, xr11] #[.slice tA tl.length tc, .slice bA rows.length bc, .int .i64 wd, .slice wA wvs.length wc, .slice gA 0 gc, .bool false, .slice none 0 0, .slice none 0 0, .int .i64 lim] #[.slice sa rows.length c1, .slice ta rows.length c2, .slice ba rows.length c3, .bool false, .bool false] (Fq n sa ta ba rows tA tl bA wA wvs wvs wh gA [] none [] [] []) 54 10 (.slice none 0 0) 0 [] W) :
    (chC 8).wp Tryz.prog (bodyPost Tryz.prog Tryz.f22 (ChooseO n w (restR n rows tl wd wh [] xs false ol lim))) a W := by
  have hgr : grR [] xs = true := by unfold grR; rw [hany]; rfl
  have xb5 : W.cell? ⟨w.heap.size + 1, 5, none⟩ = some (.bool false) := cell_of_row _ _ 5 _ _ _ hG.cm.xb
  have xb6 : W.cell? ⟨w.heap.size + 1, 6, none⟩ = some (.slice xA xq xc) := cell_of_row _ _ 6 _ _ _ hG.cm.xb
  have q4 : W.cell? ⟨w.heap.size + 3, 4, none⟩ = some (.slice gA 0 gc) := cell_of_row _ _ 4 _ _ _ hG.cm.q
  have q5 := cell_of_row _ _ 5 _ _ _ hG.cm.q
  have y5 := frozen_of_row _ _ 5 _ _ hG.cm.q
  have hzq := heap_lt hG.cm.q
  have HFO := Lib.hid (show Calls Tryz.prog 37 #[.slice xA xq xc, .func (.func 38) #[] #[]] W (RetV (.bool true) W) from by
    have := has_fold xA xc xs W (CellsAt.keep hG.cm.below hxs.1)
    rwa [hany, ← hxq] at this)
  obtain ⟨R, hRD⟩ : ∃ R, R = restR n rows tl wd wh [] xs false ol lim := ⟨_, rfl⟩
  rw [← hRD]
  have hRE : R = match eachR (itemR n rows true []) xs with | .error e => .error e | .ok il => match eachR (ordR rows true []) ol with | .error e => .error e | .ok os => .ok ⟨tl, rows.map Row.beg, wd, wh, [], true, il ++ (if false then starR rows else []), os, lim⟩ := by
    rw [hRD]
    unfold restR
    rw [hgr, if_neg (by decide)]
    all_goals
      cases eachR (itemR n rows true []) xs with
      | error e => rfl
      | ok il => cases eachR (ordR rows true []) ol <;> rfl
  have HG := Lib.hid hG
  have HSEG := Lib.hid (show ∀ a W, Slots w a → GS w sr #[xr0, xr1, xr2, xr3, xr4, .bool false, .slice xA xq xc, xr7, xr8, xr9, .slice oA q oc, xr11] #[.slice tA tl.length tc, .slice bA rows.length bc, .int .i64 wd, .slice wA wvs.length wc, .slice gA [].length gc, .bool true, .slice none 0 0, .slice none 0 0, .int .i64 lim] #[.slice sa rows.length c1, .slice ta rows.length c2, .slice ba rows.length c3, .bool false, .bool false] (Fq n sa ta ba rows tA tl bA wA wvs wvs wh gA [] none [] [] []) 54 10 (.slice none 0 0) 0 [] W → (chC 10).wp Tryz.prog (bodyPost Tryz.prog Tryz.f22 (ChooseO n w R)) a W from fun a W hS hG => seg2a n sa ta ba rows tA tl bA wA wvs wh gA [] w sr xr0 xr1 xr2 xr3 xr4 xr7 xr8 xr9 xr11 false xA xq xc xs oA q oc ol tc bc wc gc c1 c2 c3 wd true false lim R hn hxq hx30 hxs hxm hq hq9 hol hR hm hc12 hRE a W hS hG)
  have HCK := fun w => check_yes 132 w
  clear hG hgr hRE hxs hol hR hc12 hxm hRD hxq hq
  obtain ⟨u, hu, hug⟩ := open288 hS.size
  have p2 := hS.s2; have p3 := hS.s3; have p4 := hS.s4; have p5 := hS.s5; have p6 := hS.s6
  have hdf := hS.df
  rw [hug _ (by omega)] at p2 p3 p4 p5 p6
  obtain ⟨tm, df⟩ := a
  dsimp only at hu hdf
  subst hu hdf
  clear hS hug
  rw [p2, p3, p4, p5, p6]
  clear p2 p3 p4 p5 p6
  conv => arg 2; whnf
  refine wp_seq_k fun K hK => ?_
  have HK := Lib.hid hK
  clear hK
  go_wp2_with (first
    | (go_at_call 37; (with_reducible refine HFO.out.mono ?_); rintro e w2 ⟨rfl, hB2⟩
       have HG2 := Lib.hid (HG.out.keep (fq_stay ..) hB2)
       have q5 := cell_of_row _ _ 5 _ _ _ HG2.out.cm.q
       have y5 := frozen_of_row _ _ 5 _ _ HG2.out.cm.q
       have hzq := heap_lt HG2.out.cm.q
       have xb5 : (w2.setCell ⟨w.heap.size + 3, 5, none⟩ (.bool true)).cell? ⟨w.heap.size + 1, 5, none⟩ = some (.bool false) := cell_of_row _ _ 5 _ _ _ (HG2.out.setQ (fq_stay ..) 5 (.bool true)).cm.xb
       clear hB2)
    | fail)
  refine HK.out _ _ ?_
  refine wp_seq_k fun K2 hK2 => ?_
  have HK2 := Lib.hid (show ∀ a w', (chC 10).wp Tryz.prog (bodyPost Tryz.prog Tryz.f22 (ChooseO n w R)) a w' → K2 a w' from hK2)
  clear hK2
  have HG3 := Lib.hid (HG2.out.setQ (fq_stay ..) 5 (.bool true))
  have xb5 : (w2.setCell ⟨w.heap.size + 3, 5, none⟩ (.bool true)).cell? ⟨w.heap.size + 1, 5, none⟩ = some (.bool false) := cell_of_row _ _ 5 _ _ _ HG3.out.cm.xb
  have q5 : (w2.setCell ⟨w.heap.size + 3, 5, none⟩ (.bool true)).cell? ⟨w.heap.size + 3, 5, none⟩ = some (.bool true) := cell_of_row _ _ 5 _ _ _ HG3.out.cm.q
  go_wp2_with (first
    | (go_at_call 24; (with_reducible refine (HCK _).mono ?_); rintro e w' ⟨rfl, rfl⟩)
    | fail)
  refine HK2.out _ _ (HSEG.out _ _ ⟨?_, ?_, ?_, ?_, ?_, ?_, ?_⟩ HG3.out) <;> rfl
set_option maxRecDepth 100000 in
set_option maxHeartbeats 16000000 in
theorem seg2ct (n : Nat) (sa ta ba : Option Addr) (rows : List Row) (tA : Option Addr) (tl : List Int) (bA wA : Option Addr) (wvs : List (List Value)) (wh : List Nd) (gA : Option Addr) (w : World) (sr : Array Value) (xr0 xr1 xr2 xr3 xr4 xr7 xr8 xr9 xr11 : Value) (xA : Option Addr) (xq xc : Nat) (xs : List Ex) (oA : Option Addr) (q oc : Nat) (ol : List (Ex × Bool)) (tc bc wc gc c1 c2 c3 : Nat) (wd : Int) (lim : Int) (hany : (xs.any fun x => foldK x.kind) = false)
    (hn : 0 < n) (hxq : xq = xs.length) (hx30 : xq ≤ 30) (hxs : ExsAt w n xA xs) (hxm : ∀ x ∈ xs, SmallX n x) (hq : q = ol.length) (hq9 : q ≤ 12) (hol : CellsAt w 11 oA (ol.map ordL)) (hR : RowsOk w rows) (hm : rows.length ≤ 4) (hc12 : ∀ r ∈ rows, r.cols.length ≤ 12)
    (a : Act) (W : World) (hS : Slots w a)
    (hG : GS w sr #[xr0, xr1, xr2, xr3, xr4, .bool true, .slice xA xq xc, xr7, xr8, xr9, .slice oA q oc, xr11] #[.slice tA tl.length tc, .slice bA rows.length bc, .int .i64 wd, .slice wA wvs.length wc, .slice gA 0 gc, .bool false, .slice none 0 0, .slice none 0 0, .int .i64 lim] #[.slice sa rows.length c1, .slice ta rows.length c2, .slice ba rows.length c3, .bool false, .bool false] (Fq n sa ta ba rows tA tl bA wA wvs wvs wh gA [] none [] [] []) 54 10 (.slice none 0 0) 0 [] W) :
    (chC 8).wp Tryz.prog (bodyPost Tryz.prog Tryz.f22 (ChooseO n w (restR n rows tl wd wh [] xs true ol lim))) a W := by
  have hgr : grR [] xs = false := by unfold grR; rw [hany]; rfl
  have xb5 : W.cell? ⟨w.heap.size + 1, 5, none⟩ = some (.bool true) := cell_of_row _ _ 5 _ _ _ hG.cm.xb
  have xb6 : W.cell? ⟨w.heap.size + 1, 6, none⟩ = some (.slice xA xq xc) := cell_of_row _ _ 6 _ _ _ hG.cm.xb
  have q4 : W.cell? ⟨w.heap.size + 3, 4, none⟩ = some (.slice gA 0 gc) := cell_of_row _ _ 4 _ _ _ hG.cm.q
  have q5 := cell_of_row _ _ 5 _ _ _ hG.cm.q
  have y5 := frozen_of_row _ _ 5 _ _ hG.cm.q
  have hzq := heap_lt hG.cm.q
  have HFO := Lib.hid (show Calls Tryz.prog 37 #[.slice xA xq xc, .func (.func 38) #[] #[]] W (RetV (.bool false) W) from by
    have := has_fold xA xc xs W (CellsAt.keep hG.cm.below hxs.1)
    rwa [hany, ← hxq] at this)
  obtain ⟨R, hRD⟩ : ∃ R, R = restR n rows tl wd wh [] xs true ol lim := ⟨_, rfl⟩
  rw [← hRD]
  have hRE : R = match eachR (itemR n rows false []) xs with | .error e => .error e | .ok il => match eachR (ordR rows false []) ol with | .error e => .error e | .ok os => .ok ⟨tl, rows.map Row.beg, wd, wh, [], false, il ++ (if true then starR rows else []), os, lim⟩ := by
    rw [hRD]
    unfold restR
    rw [hgr, if_neg (by decide)]
    all_goals
      cases eachR (itemR n rows false []) xs with
      | error e => rfl
      | ok il => cases eachR (ordR rows false []) ol <;> rfl
  have HG := Lib.hid hG
  have HSEG := Lib.hid (show ∀ a W, Slots w a → GS w sr #[xr0, xr1, xr2, xr3, xr4, .bool true, .slice xA xq xc, xr7, xr8, xr9, .slice oA q oc, xr11] #[.slice tA tl.length tc, .slice bA rows.length bc, .int .i64 wd, .slice wA wvs.length wc, .slice gA [].length gc, .bool false, .slice none 0 0, .slice none 0 0, .int .i64 lim] #[.slice sa rows.length c1, .slice ta rows.length c2, .slice ba rows.length c3, .bool false, .bool false] (Fq n sa ta ba rows tA tl bA wA wvs wvs wh gA [] none [] [] []) 54 10 (.slice none 0 0) 0 [] W → (chC 10).wp Tryz.prog (bodyPost Tryz.prog Tryz.f22 (ChooseO n w R)) a W from fun a W hS hG => seg2a n sa ta ba rows tA tl bA wA wvs wh gA [] w sr xr0 xr1 xr2 xr3 xr4 xr7 xr8 xr9 xr11 true xA xq xc xs oA q oc ol tc bc wc gc c1 c2 c3 wd false false lim R hn hxq hx30 hxs hxm hq hq9 hol hR hm hc12 hRE a W hS hG)
  have HCK := fun w => check_yes 132 w
  clear hG hgr hRE hxs hol hR hc12 hxm hRD hxq hq
  obtain ⟨u, hu, hug⟩ := open288 hS.size
  have p2 := hS.s2; have p3 := hS.s3; have p4 := hS.s4; have p5 := hS.s5; have p6 := hS.s6
  have hdf := hS.df
  rw [hug _ (by omega)] at p2 p3 p4 p5 p6
  obtain ⟨tm, df⟩ := a
  dsimp only at hu hdf
  subst hu hdf
  clear hS hug
  rw [p2, p3, p4, p5, p6]
  clear p2 p3 p4 p5 p6
  conv => arg 2; whnf
  refine wp_seq_k fun K hK => ?_
  have HK := Lib.hid hK
  clear hK
  go_wp2_with (first
    | (go_at_call 37; (with_reducible refine HFO.out.mono ?_); rintro e w2 ⟨rfl, hB2⟩
       have HG2 := Lib.hid (HG.out.keep (fq_stay ..) hB2)
       have q5 := cell_of_row _ _ 5 _ _ _ HG2.out.cm.q
       have y5 := frozen_of_row _ _ 5 _ _ HG2.out.cm.q
       have hzq := heap_lt HG2.out.cm.q
       have xb5 : (w2.setCell ⟨w.heap.size + 3, 5, none⟩ (.bool false)).cell? ⟨w.heap.size + 1, 5, none⟩ = some (.bool true) := cell_of_row _ _ 5 _ _ _ (HG2.out.setQ (fq_stay ..) 5 (.bool false)).cm.xb
       clear hB2)
    | fail)
  refine HK.out _ _ ?_
  refine wp_seq_k fun K2 hK2 => ?_
  have HK2 := Lib.hid (show ∀ a w', (chC 10).wp Tryz.prog (bodyPost Tryz.prog Tryz.f22 (ChooseO n w R)) a w' → K2 a w' from hK2)
  clear hK2
  have HG3 := Lib.hid (HG2.out.setQ (fq_stay ..) 5 (.bool false))
  have xb5 : (w2.setCell ⟨w.heap.size + 3, 5, none⟩ (.bool false)).cell? ⟨w.heap.size + 1, 5, none⟩ = some (.bool true) := cell_of_row _ _ 5 _ _ _ HG3.out.cm.xb
  have q5 : (w2.setCell ⟨w.heap.size + 3, 5, none⟩ (.bool false)).cell? ⟨w.heap.size + 3, 5, none⟩ = some (.bool false) := cell_of_row _ _ 5 _ _ _ HG3.out.cm.q
  go_wp2_with (first
    | (go_at_call 24; (with_reducible refine (HCK _).mono ?_); rintro e w' ⟨rfl, rfl⟩)
    | fail)
  refine HK2.out _ _ (HSEG.out _ _ ⟨?_, ?_, ?_, ?_, ?_, ?_, ?_⟩ HG3.out) <;> rfl
set_option maxRecDepth 100000 in
set_option maxHeartbeats 16000000 in
theorem seg2cf (n : Nat) (sa ta ba : Option Addr) (rows : List Row) (tA : Option Addr) (tl : List Int) (bA wA : Option Addr) (wvs : List (List Value)) (wh : List Nd) (gA : Option Addr) (w : World) (sr : Array Value) (xr0 xr1 xr2 xr3 xr4 xr7 xr8 xr9 xr11 : Value) (xA : Option Addr) (xq xc : Nat) (xs : List Ex) (oA : Option Addr) (q oc : Nat) (ol : List (Ex × Bool)) (tc bc wc gc c1 c2 c3 : Nat) (wd : Int) (lim : Int) (hany : (xs.any fun x => foldK x.kind) = false)
    (hn : 0 < n) (hxq : xq = xs.length) (hx30 : xq ≤ 30) (hxs : ExsAt w n xA xs) (hxm : ∀ x ∈ xs, SmallX n x) (hq : q = ol.length) (hq9 : q ≤ 12) (hol : CellsAt w 11 oA (ol.map ordL)) (hR : RowsOk w rows) (hm : rows.length ≤ 4) (hc12 : ∀ r ∈ rows, r.cols.length ≤ 12)
    (a : Act) (W : World) (hS : Slots w a)
    (hG : GS w sr #[xr0, xr1, xr2, xr3, xr4, .bool false, .slice xA xq xc, xr7, xr8, xr9, .slice oA q oc, xr11] #[.slice tA tl.length tc, .slice bA rows.length bc, .int .i64 wd, .slice wA wvs.length wc, .slice gA 0 gc, .bool false, .slice none 0 0, .slice none 0 0, .int .i64 lim] #[.slice sa rows.length c1, .slice ta rows.length c2, .slice ba rows.length c3, .bool false, .bool false] (Fq n sa ta ba rows tA tl bA wA wvs wvs wh gA [] none [] [] []) 54 10 (.slice none 0 0) 0 [] W) :
    (chC 8).wp Tryz.prog (bodyPost Tryz.prog Tryz.f22 (ChooseO n w (restR n rows tl wd wh [] xs false ol lim))) a W := by
  have hgr : grR [] xs = false := by unfold grR; rw [hany]; rfl
  have xb5 : W.cell? ⟨w.heap.size + 1, 5, none⟩ = some (.bool false) := cell_of_row _ _ 5 _ _ _ hG.cm.xb
  have xb6 : W.cell? ⟨w.heap.size + 1, 6, none⟩ = some (.slice xA xq xc) := cell_of_row _ _ 6 _ _ _ hG.cm.xb
  have q4 : W.cell? ⟨w.heap.size + 3, 4, none⟩ = some (.slice gA 0 gc) := cell_of_row _ _ 4 _ _ _ hG.cm.q
  have q5 := cell_of_row _ _ 5 _ _ _ hG.cm.q
  have y5 := frozen_of_row _ _ 5 _ _ hG.cm.q
  have hzq := heap_lt hG.cm.q
  have HFO := Lib.hid (show Calls Tryz.prog 37 #[.slice xA xq xc, .func (.func 38) #[] #[]] W (RetV (.bool false) W) from by
    have := has_fold xA xc xs W (CellsAt.keep hG.cm.below hxs.1)
    rwa [hany, ← hxq] at this)
  obtain ⟨R, hRD⟩ : ∃ R, R = restR n rows tl wd wh [] xs false ol lim := ⟨_, rfl⟩
  rw [← hRD]
  have hRE : R = match eachR (itemR n rows false []) xs with | .error e => .error e | .ok il => match eachR (ordR rows false []) ol with | .error e => .error e | .ok os => .ok ⟨tl, rows.map Row.beg, wd, wh, [], false, il ++ (if false then starR rows else []), os, lim⟩ := by
    rw [hRD]
    unfold restR
    rw [hgr, if_neg (by decide)]
    all_goals
      cases eachR (itemR n rows false []) xs with
      | error e => rfl
      | ok il => cases eachR (ordR rows false []) ol <;> rfl
  have HG := Lib.hid hG
  have HSEG := Lib.hid (show ∀ a W, Slots w a → GS w sr #[xr0, xr1, xr2, xr3, xr4, .bool false, .slice xA xq xc, xr7, xr8, xr9, .slice oA q oc, xr11] #[.slice tA tl.length tc, .slice bA rows.length bc, .int .i64 wd, .slice wA wvs.length wc, .slice gA [].length gc, .bool false, .slice none 0 0, .slice none 0 0, .int .i64 lim] #[.slice sa rows.length c1, .slice ta rows.length c2, .slice ba rows.length c3, .bool false, .bool false] (Fq n sa ta ba rows tA tl bA wA wvs wvs wh gA [] none [] [] []) 54 10 (.slice none 0 0) 0 [] W → (chC 10).wp Tryz.prog (bodyPost Tryz.prog Tryz.f22 (ChooseO n w R)) a W from fun a W hS hG => seg2a n sa ta ba rows tA tl bA wA wvs wh gA [] w sr xr0 xr1 xr2 xr3 xr4 xr7 xr8 xr9 xr11 false xA xq xc xs oA q oc ol tc bc wc gc c1 c2 c3 wd false false lim R hn hxq hx30 hxs hxm hq hq9 hol hR hm hc12 hRE a W hS hG)
  have HCK := fun w => check_yes 132 w
  clear hG hgr hRE hxs hol hR hc12 hxm hRD hxq hq
  obtain ⟨u, hu, hug⟩ := open288 hS.size
  have p2 := hS.s2; have p3 := hS.s3; have p4 := hS.s4; have p5 := hS.s5; have p6 := hS.s6
  have hdf := hS.df
  rw [hug _ (by omega)] at p2 p3 p4 p5 p6
  obtain ⟨tm, df⟩ := a
  dsimp only at hu hdf
  subst hu hdf
  clear hS hug
  rw [p2, p3, p4, p5, p6]
  clear p2 p3 p4 p5 p6
  conv => arg 2; whnf
  refine wp_seq_k fun K hK => ?_
  have HK := Lib.hid hK
  clear hK
  go_wp2_with (first
    | (go_at_call 37; (with_reducible refine HFO.out.mono ?_); rintro e w2 ⟨rfl, hB2⟩
       have HG2 := Lib.hid (HG.out.keep (fq_stay ..) hB2)
       have q5 := cell_of_row _ _ 5 _ _ _ HG2.out.cm.q
       have y5 := frozen_of_row _ _ 5 _ _ HG2.out.cm.q
       have hzq := heap_lt HG2.out.cm.q
       have xb5 : (w2.setCell ⟨w.heap.size + 3, 5, none⟩ (.bool false)).cell? ⟨w.heap.size + 1, 5, none⟩ = some (.bool false) := cell_of_row _ _ 5 _ _ _ (HG2.out.setQ (fq_stay ..) 5 (.bool false)).cm.xb
       clear hB2)
    | fail)
  refine HK.out _ _ ?_
  refine wp_seq_k fun K2 hK2 => ?_
  have HK2 := Lib.hid (show ∀ a w', (chC 10).wp Tryz.prog (bodyPost Tryz.prog Tryz.f22 (ChooseO n w R)) a w' → K2 a w' from hK2)
  clear hK2
  have HG3 := Lib.hid (HG2.out.setQ (fq_stay ..) 5 (.bool false))
  have xb5 : (w2.setCell ⟨w.heap.size + 3, 5, none⟩ (.bool false)).cell? ⟨w.heap.size + 1, 5, none⟩ = some (.bool false) := cell_of_row _ _ 5 _ _ _ HG3.out.cm.xb
  have q5 : (w2.setCell ⟨w.heap.size + 3, 5, none⟩ (.bool false)).cell? ⟨w.heap.size + 3, 5, none⟩ = some (.bool false) := cell_of_row _ _ 5 _ _ _ HG3.out.cm.q
  go_wp2_with (first
    | (go_at_call 24; (with_reducible refine (HCK _).mono ?_); rintro e w' ⟨rfl, rfl⟩)
    | fail)
  refine HK2.out _ _ (HSEG.out _ _ ⟨?_, ?_, ?_, ?_, ?_, ?_, ?_⟩ HG3.out) <;> rfl
theorem seg2 (n : Nat) (sa ta ba : Option Addr) (rows : List Row) (tA : Option Addr) (tl : List Int) (bA wA : Option Addr) (wvs : List (List Value)) (wh : List Nd) (gA : Option Addr) (gl : List Int) (w : World) (sr : Array Value) (xr0 xr1 xr2 xr3 xr4 xr7 xr8 xr9 xr11 : Value) (star : Bool) (xA : Option Addr) (xq xc : Nat) (xs : List Ex) (oA : Option Addr) (q oc : Nat) (ol : List (Ex × Bool)) (tc bc wc gc c1 c2 c3 : Nat) (wd : Int) (lim : Int)
    (hn : 0 < n) (hxq : xq = xs.length) (hx30 : xq ≤ 30) (hxs : ExsAt w n xA xs) (hxm : ∀ x ∈ xs, SmallX n x) (hq : q = ol.length) (hq9 : q ≤ 12) (hol : CellsAt w 11 oA (ol.map ordL)) (hR : RowsOk w rows) (hm : rows.length ≤ 4) (hc12 : ∀ r ∈ rows, r.cols.length ≤ 12)
    (a : Act) (W : World) (hS : Slots w a)
    (hG : GS w sr #[xr0, xr1, xr2, xr3, xr4, .bool star, .slice xA xq xc, xr7, xr8, xr9, .slice oA q oc, xr11] #[.slice tA tl.length tc, .slice bA rows.length bc, .int .i64 wd, .slice wA wvs.length wc, .slice gA gl.length gc, .bool false, .slice none 0 0, .slice none 0 0, .int .i64 lim] #[.slice sa rows.length c1, .slice ta rows.length c2, .slice ba rows.length c3, .bool false, .bool false] (Fq n sa ta ba rows tA tl bA wA wvs wvs wh gA gl none [] [] []) 54 10 (.slice none 0 0) 0 [] W) :
    (chC 8).wp Tryz.prog (bodyPost Tryz.prog Tryz.f22 (ChooseO n w (restR n rows tl wd wh gl xs star ol lim))) a W := by
  cases gl with
  | cons g0 gs =>
    cases star with
    | true => exact seg2at n sa ta ba rows tA tl bA wA wvs wh gA g0 gs w sr xr0 xr1 xr2 xr3 xr4 xr7 xr8 xr9 xr11 xA xq xc xs oA q oc ol tc bc wc gc c1 c2 c3 wd lim hn hxq hx30 hxs hxm hq hq9 hol hR hm hc12 a W hS hG
    | false => exact seg2af n sa ta ba rows tA tl bA wA wvs wh gA g0 gs w sr xr0 xr1 xr2 xr3 xr4 xr7 xr8 xr9 xr11 xA xq xc xs oA q oc ol tc bc wc gc c1 c2 c3 wd lim hn hxq hx30 hxs hxm hq hq9 hol hR hm hc12 a W hS hG
  | nil =>
    cases hany : (xs.any fun x => foldK x.kind) with
    | true =>
      cases star with
      | true => exact seg2bt n sa ta ba rows tA tl bA wA wvs wh gA w sr xr0 xr1 xr2 xr3 xr4 xr7 xr8 xr9 xr11 xA xq xc xs oA q oc ol tc bc wc gc c1 c2 c3 wd lim hany hn hxq hx30 hxs hxm hq hq9 hol hR hm hc12 a W hS hG
      | false => exact seg2bf n sa ta ba rows tA tl bA wA wvs wh gA w sr xr0 xr1 xr2 xr3 xr4 xr7 xr8 xr9 xr11 xA xq xc xs oA q oc ol tc bc wc gc c1 c2 c3 wd lim hany hn hxq hx30 hxs hxm hq hq9 hol hR hm hc12 a W hS hG
    | false =>
      cases star with
      | true => exact seg2ct n sa ta ba rows tA tl bA wA wvs wh gA w sr xr0 xr1 xr2 xr3 xr4 xr7 xr8 xr9 xr11 xA xq xc xs oA q oc ol tc bc wc gc c1 c2 c3 wd lim hany hn hxq hx30 hxs hxm hq hq9 hol hR hm hc12 a W hS hG
      | false => exact seg2cf n sa ta ba rows tA tl bA wA wvs wh gA w sr xr0 xr1 xr2 xr3 xr4 xr7 xr8 xr9 xr11 xA xq xc xs oA q oc ol tc bc wc gc c1 c2 c3 wd lim hany hn hxq hx30 hxs hxm hq hq9 hol hR hm hc12 a W hS hG
end Go.Proofs.YthdmfaepjemopaaGreatDoor
