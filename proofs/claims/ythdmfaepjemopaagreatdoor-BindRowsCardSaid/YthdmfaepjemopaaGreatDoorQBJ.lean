/- The walk of the program's Rows: the loops. The contract of the program's Rows. The walk of the law BindRows: what both answer, compared. -/
import Derived.Test.YthdmfaepjemopaaGreatDoorQBI
import Derived.Test.YthdmfaepjemopaaGreatDoorQAK
import Derived.Test.YthdmfaepjemopaaGreatDoorQBG
import Derived.Test.YthdmfaepjemopaaGreatDoorQBC
namespace Go.Proofs.YthdmfaepjemopaaGreatDoor
open Go.RowKit

@[reducible] def sc00 : Sc := ⟨none, 0, none, 0, none, 0, []⟩
theorem sc00_at (W : World) : ScAt W sc00 := ⟨CellsAt.nil_at _ _ _, ⟨CellsAt.nil_at _ _ _, fun _p h => (List.not_mem_nil h).elim⟩, ⟨Nat.zero_le _, .inl rfl⟩, fun _r h => (List.not_mem_nil h).elim⟩
theorem expr_bare (n : Nat) (x : Ex) (w : World) (hX : ExAt w n x) (hM : SmallX n x) : Calls Tryz.prog 25 #[.agg #[.slice none 0 0, .slice none 0 0, .slice none 0 0, .bool false, .bool false], exV x] w (ExprO n w (bindR n [] false x)) := expr_any (s := sc00) (Nat.zero_le _) n x false false w (sc00_at w) hX hM
theorem like_one (t u : Int) (b c : Nat) (W : World) (h : W.cell? ⟨b, 0, none⟩ = some (.int .i64 u)) (hb : b < W.heap.size) : Calls Tryz.prog 26 #[.int .i64 t, .slice (some ⟨b, 0, none⟩) 1 c] W (RetV (.bool (likeT t [u])) W) := like_any t (some ⟨b, 0, none⟩) c [u] W ⟨by show 1 ≤ maxLen; decide, .inr ⟨b, 0, rfl, hb, fun j z hj => by
  match j, hj with
  | 0, hj => cases hj; exact h⟩⟩
def LW (W5 : World) (t : Int) (f : Bool) (W : World) : Prop := Below W5.heap.size W5 W ∧ (f = false → W.heap.size = W5.heap.size) ∧ (f = true → W.cell? ⟨W5.heap.size, 0, none⟩ = some (.int .i64 t) ∧ W5.heap.size < W.heap.size)
theorem lw_new {W5 W : World} (h : W.heap.size = W5.heap.size) (hB : Below W5.heap.size W5 W) (t : Int) : LW W5 t true (W.alloc (.cells #[.int .i64 t] 3)) := by
  refine ⟨hB.alloc hB.size _, fun h => (by cases h), fun _ => ⟨?_, by rw [World.size_alloc]; omega⟩⟩
  have h2 := cell_of_row _ _ 0 _ _ _ (heap_alloc_new W (.cells #[.int .i64 t] 3))
  rw [h] at h2
  exact h2
set_option maxRecDepth 100000 in
set_option maxHeartbeats 16000000 in
theorem pr5 (n : Nat) (w : World) (tn : ByteArray) (ca : Option Addr) (cs : List Col) (cc : Nat) (ro ne rn : Int) (LA : Option Addr) (l : List XRow) (lc : Nat) (hca : ColsAt w ca cs) (hcl : cs.length ≤ 1000) (hX : XRowsAt w n LA l) (h16 : l.length ≤ 16) (R : Except Int (List (List Nd)))
    (HERR : ∀ er, linesR (bindR n [] false) (cs.map Col.ty) l = .error er → R = .error er)
    (HSEG : ∀ v6 RS pss a W, S15 w a → a.tmps.getD 6 undef = v6 → DR clP n w [.cells #[.string tn, .slice ca cs.length cc, .int .i64 ro, .int .i64 ne, .int .i64 rn] 65, .cells #[.int .i64 0] 49] (w.heap.size + 2) v6 RS pss (.slice none 0 0) [] [] W → linesR (bindR n [] false) (cs.map Col.ty) l = .ok pss → (prC 6).wp Tryz.prog (bodyPostD Tryz.prog Tryz.f15 (PRowsO n w R)) a W)
    (a : Act) (W : World) (hS : S15 w a) (h1 : a.tmps.getD 1 undef = .slice LA l.length lc) (h6 : a.tmps.getD 6 undef = .slice none 0 0) (hM : BX w [.cells #[.string tn, .slice ca cs.length cc, .int .i64 ro, .int .i64 ne, .int .i64 rn] 65, .cells #[.int .i64 0] 49] W) : (prC 5).wp Tryz.prog (bodyPostD Tryz.prog Tryz.f15 (PRowsO n w R)) a W := by
  have HSEG := Lib.hid HSEG
  have HERR := Lib.hid HERR
  have HCA := Lib.hid hca
  have HX := Lib.hid hX
  have HLQ := Lib.hid hcl
  have HST := Lib.hid (show DR clP n w [.cells #[.string tn, .slice ca cs.length cc, .int .i64 ro, .int .i64 ne, .int .i64 rn] 65, .cells #[.int .i64 0] 49] (w.heap.size + 2) (.slice none 0 0) [] [] (.slice none 0 0) [] [] W from ⟨hM, rfl, heap_lt (hM.row 1 _ _ rfl), World.ownsRow_nil _ _ _ _, World.ownsRow_nil _ _ _ _, fun b h => (by cases h), ⟨rfl, fun i R p h => (by cases h)⟩, ⟨rfl, fun i x q h => (by cases h)⟩, fun x h => (List.not_mem_nil h).elim⟩)
  obtain ⟨m, hm⟩ : ∃ m, m = l.length := ⟨_, rfl⟩
  have HML := Lib.hid hm
  rw [← hm] at h1 h16
  clear hca hcl hX hM hm
  have HY7 := fun w => check_yes 7 w
  have HN7 := fun w => check_no 7 w
  have HY70 := fun w => check_yes 70 w
  have HN70 := fun w => check_no 70 w
  obtain ⟨u, hu, hug⟩ := open66 hS.size
  have p2 := hS.s2; have p4 := hS.s4; have p5 := hS.s5
  have hdf := hS.df
  rw [hug _ (by omega)] at p2 p4 p5 h1 h6
  obtain ⟨tm, df⟩ := a
  dsimp only at hu hdf
  subst hu hdf
  clear hS hug
  rw [p2, p4, p5, h1, h6]
  clear p2 p4 p5 h1 h6
  conv => arg 2; whnf
  refine wp_seq_k fun K hK => ?_
  have HK := Lib.hid (show ∀ a w', (prC 6).wp Tryz.prog (bodyPostD Tryz.prog Tryz.f15 (PRowsO n w R)) a w' → K a w' from hK)
  clear hK
  go_wp2_with fail
  refine wp_loop (fun a' wr => S15 w a' ∧ a'.tmps.getD 21 undef = .slice LA m lc ∧ a'.tmps.getD 22 undef = .int .i64 m ∧ ∃ (i : Nat) (v6 : Value) (RS : List NRow) (pss : List (List Nd)), i ≤ m ∧ a'.tmps.getD 23 undef = .int .i64 i ∧ a'.tmps.getD 6 undef = v6 ∧ Hid (RS.length = i) ∧ Hid (linesR (bindR n [] false) (cs.map Col.ty) (l.take i) = .ok pss) ∧ Hid (DR clP n w [.cells #[.string tn, .slice ca cs.length cc, .int .i64 ro, .int .i64 ne, .int .i64 rn] 65, .cells #[.int .i64 0] 49] (w.heap.size + 2) v6 RS pss (.slice none 0 0) [] [] wr)) (fun a' _ => m - (intOf (a'.tmps.getD 23 undef)).toNat) ?start ?round
  case start =>
    refine ⟨⟨?_, ?_, ?_, ?_, ?_⟩, ?_, ?_, 0, .slice none 0 0, [], [], Nat.zero_le _, ?_, ?_, Lib.hid rfl, Lib.hid rfl, HST⟩
    all_goals rfl
  case round =>
    clear HST
    rintro a wr ⟨hS, h21, h22, i, v6, RS, pss, hi, h23, h6, HRL, HLN, HD⟩
    obtain ⟨u, hu, hug⟩ := open66 hS.size
    have p2 := hS.s2; have p4 := hS.s4; have p5 := hS.s5
    have hdf := hS.df
    rw [hug _ (by omega)] at p2 p4 p5 h21 h22 h23 h6
    obtain ⟨tm, df⟩ := a
    dsimp only at hu hdf
    subst hu hdf
    clear hS hug
    rw [p2, p4, p5, h21, h22, h23, h6]
    clear p2 p4 p5 h21 h22 h23 h6
    by_cases him : i < m
    · have hin : ((i : Int) < (m : Int)) = True := eq_true (by omega)
      obtain ⟨r, hr⟩ : ∃ r, l[i]? = some r := ⟨_, List.getElem?_eq_getElem (by have := HML.out; omega)⟩
      have HJ := Lib.hid hr
      have HMEM := Lib.hid (List.mem_of_getElem? hr)
      obtain ⟨lb, lo, rfl, hlb, hlc⟩ := setl_at HX.out.cells (x := [.slice r.A r.xs.length r.c]) (by rw [List.getElem?_map, hr]; rfl)
      have hlr : wr.cell? ⟨lb, lo + i, none⟩ = some (.slice r.A r.xs.length r.c) := by
        have h := cell_kept (hlc 0 _ rfl) HD.out.bx.below
        simpa using h
      clear hr hlc
      obtain ⟨t0, t1, t2, t3, t4⟩ : wr.cell? ⟨w.heap.size, 0, none⟩ = some (.string tn) ∧ wr.cell? ⟨w.heap.size, 1, none⟩ = some (.slice ca cs.length cc) ∧ wr.cell? ⟨w.heap.size, 2, none⟩ = some (.int .i64 ro) ∧ wr.cell? ⟨w.heap.size, 3, none⟩ = some (.int .i64 ne) ∧ wr.cell? ⟨w.heap.size, 4, none⟩ = some (.int .i64 rn) := ⟨cell_of_row _ _ 0 _ _ _ (HD.out.bx.row0 _ _ rfl), cell_of_row _ _ 1 _ _ _ (HD.out.bx.row0 _ _ rfl), cell_of_row _ _ 2 _ _ _ (HD.out.bx.row0 _ _ rfl), cell_of_row _ _ 3 _ _ _ (HD.out.bx.row0 _ _ rfl), cell_of_row _ _ 4 _ _ _ (HD.out.bx.row0 _ _ rfl)⟩
      by_cases hq : r.xs.length = cs.length
      · obtain ⟨q, hqq⟩ : ∃ q, q = cs.length := ⟨_, rfl⟩
        have HQ := Lib.hid hqq
        have HQX := Lib.hid hq
        have hqb : q ≤ 1000 := by have := HLQ.out; omega
        rw [hq, ← hqq] at hlr
        rw [← hqq] at t1
        clear hqq hq
        have n0 : ((q : Int) == (q : Int)) = true := beq_self_eq_true _
        go_wp2_with (first
          | (go_at_call 24; (with_reducible refine (HY7 _).mono ?_); rintro e w0 ⟨rfl, rfl⟩)
          | fail)
        clear t0 t1 t2 t3 t4 hlr n0
        refine wp_loop (fun a' w2 => S15 w a' ∧ a'.tmps.getD 21 undef = .slice (some ⟨lb, lo, none⟩) m lc ∧ a'.tmps.getD 22 undef = .int .i64 m ∧ a'.tmps.getD 23 undef = .int .i64 i ∧ a'.tmps.getD 6 undef = v6 ∧ a'.tmps.getD 34 undef = .slice r.A q r.c ∧ a'.tmps.getD 35 undef = .int .i64 q ∧ ∃ (c : Nat) (v8 : Value) (vs : List (List Value)) (ps : List Nd), c ≤ q ∧ a'.tmps.getD 36 undef = .int .i64 c ∧ a'.tmps.getD 9 undef = v8 ∧ Hid (vs.length = c) ∧ Hid (ps.length = c) ∧ Hid (rowR (bindR n [] false) ((cs.map Col.ty).take c) (r.xs.take c) = .ok ps) ∧ Hid (DR clP n w [.cells #[.string tn, .slice ca cs.length cc, .int .i64 ro, .int .i64 ne, .int .i64 rn] 65, .cells #[.int .i64 0] 49] (w.heap.size + 2) v6 RS pss v8 vs ps w2)) (fun a' _ => q - (intOf (a'.tmps.getD 36 undef)).toNat) ?start2 ?round2
        case start2 =>
          refine ⟨⟨?_, ?_, ?_, ?_, ?_⟩, ?_, ?_, ?_, ?_, ?_, ?_, 0, .slice none 0 0, [], [], Nat.zero_le _, ?_, ?_, Lib.hid rfl, Lib.hid rfl, Lib.hid rfl, HD⟩
          all_goals rfl
        case round2 =>
          clear HD
          rintro a w2 ⟨hS, h21, h22, h23, h6, h34, h35, c, v8, vs, ps, hc, h36, h9, HVL, HPL, HRW, HD⟩
          obtain ⟨u, hu, hug⟩ := open66 hS.size
          have p2 := hS.s2; have p4 := hS.s4; have p5 := hS.s5
          have hdf := hS.df
          rw [hug _ (by omega)] at p2 p4 p5 h21 h22 h23 h6 h34 h35 h36 h9
          obtain ⟨tm, df⟩ := a
          dsimp only at hu hdf
          subst hu hdf
          clear hS hug
          rw [p2, p4, p5, h21, h22, h23, h6, h34, h35, h36, h9]
          clear p2 p4 p5 h21 h22 h23 h6 h34 h35 h36 h9
          have sf := store_float
          by_cases hcq : c < q
          · have hcn : ((c : Int) < (q : Int)) = True := eq_true (by omega)
            have hlq : r.xs.length = q := HQX.out.trans HQ.out.symm
            obtain ⟨x, hx⟩ : ∃ x, r.xs[c]? = some x := ⟨_, List.getElem?_eq_getElem (by omega)⟩
            obtain ⟨cl, hcl0⟩ : ∃ cl, cs[c]? = some cl := ⟨_, List.getElem?_eq_getElem (by have := HQ.out; omega)⟩
            have HCX := Lib.hid hx
            have HCT := Lib.hid (show (cs.map Col.ty)[c]? = some cl.ty from by rw [List.getElem?_map, hcl0]; rfl)
            obtain ⟨eb, eo, heA, heb, hxc⟩ := ex_at (HX.out.rows r HMEM.out) hx
            obtain ⟨cb, co, heC, hcb, hcc⟩ := setl_at HCA.out (x := colL cl) (by rw [List.getElem?_map, hcl0]; rfl)
            have HCY := Lib.hid (show w.cell? ⟨cb, co + c * 3 + 1, none⟩ = some (.int .i64 cl.ty) from hcc 1 _ rfl)
            have HCB := Lib.hid hcb
            have HEC := Lib.hid heC
            have HEA := Lib.hid heA
            have t0 : w2.cell? ⟨eb, eo + c * 10, none⟩ = some (.int .i64 x.kind) := cell_kept (hxc 0 _ rfl) HD.out.bx.below
            have t1 := cell_kept (hxc 1 _ rfl) HD.out.bx.below
            have t2 := cell_kept (hxc 2 _ rfl) HD.out.bx.below
            have t3 := cell_kept (hxc 3 _ rfl) HD.out.bx.below
            have t4 := cell_kept (hxc 4 _ rfl) HD.out.bx.below
            have t5 := cell_kept (hxc 5 _ rfl) HD.out.bx.below
            have t6 := cell_kept (hxc 6 _ rfl) HD.out.bx.below
            have t7 := cell_kept (hxc 7 _ rfl) HD.out.bx.below
            have t8 := cell_kept (hxc 8 _ rfl) HD.out.bx.below
            have t9 := cell_kept (hxc 9 _ rfl) HD.out.bx.below
            have leb : eb < w2.heap.size := Nat.lt_of_lt_of_le heb HD.out.bx.below.size
            have HXE := HX.out.exs r HMEM.out x (List.mem_of_getElem? hx)
            have HC := Lib.hid (expr_bare n x (w2.alloc (.cells #[.int .i64 x.kind, .string x.op, .int .i64 x.lit.k, .int .i64 x.lit.n, .float .f64 x.lit.f, .string x.lit.s, .string x.table, .string x.name, .bool x.neg, .slice x.A x.args.length x.c] 41)) (HXE.1.keep (HD.out.bx.below.trans ((below1 w2 _).mono HD.out.bx.below.size))) HXE.2)
            clear hx hcl0 heC hxc hcc HXE hlq hcb
            rw [heA]
            clear heA
            cases hf : bindR n [] false x with
            | error er =>
              have HF := Lib.hid (HERR.out er (lines_fail HJ.out HLN.out (by unfold lineR; rw [if_pos (by rw [List.length_map]; exact HQX.out)]; exact row_fail HCT.out HCX.out HRW.out (by unfold cellR; rw [hf]))))
              rw [hf] at HC
              clear hf
              go_wp2_with (first
                | (go_at_call 25; (with_reducible refine HC.out.mono ?_); rintro e w5 ⟨hB5, rfl⟩
                   have HB5 := Lib.hid ((below1 w2 _).trans (hB5.mono (below1 w2 _).size))
                   clear hB5)
                | fail)
              refine rows_pan (HD.out.bx.keep HB5.out) HF.out ?_ ?_ <;> rfl
            | ok p =>
              have HF := Lib.hid (show cellR (bindR n [] false) cl.ty x = if p.ty = 0 ∨ p.ty = cl.ty then .ok p else .error 70 from by unfold cellR; rw [hf])
              rw [hf] at HC
              clear hf
              go_wp2_with (first
                | (go_at_call 25; (with_reducible refine HC.out.mono ?_); rintro e w5 ⟨hB5, A5, c5, q5, rfl, hN5⟩
                   have HB5 := Lib.hid ((below1 w2 _).trans (hB5.mono (below1 w2 _).size))
                   have HN5 := Lib.hid (hN5.mono (ok' := (w2.heap.size ≤ ·)) fun b hb _ => Nat.le_trans (below1 w2 _).size hb)
                   clear hB5 hN5)
                | fail)
              have HBZ := Lib.hid (HB5.out.alloc HB5.out.size (.cells #[.int .i64 p.kind, .string p.op, .int .i64 (clP p.lit).k, .int .i64 (clP p.lit).n, .float .f64 (clP p.lit).f, .string (clP p.lit).s, .int .i64 p.pos, .bool p.neg, .int .i64 p.ty, .slice A5 q5 c5] 54))
              have HZR := Lib.hid (heap_alloc_new w5 (.cells #[.int .i64 p.kind, .string p.op, .int .i64 (clP p.lit).k, .int .i64 (clP p.lit).n, .float .f64 (clP p.lit).f, .string (clP p.lit).s, .int .i64 p.pos, .bool p.neg, .int .i64 p.ty, .slice A5 q5 c5] 54))
              have HNZ := Lib.hid (HN5.out.keep (below1 w5 (.cells #[.int .i64 p.kind, .string p.op, .int .i64 (clP p.lit).k, .int .i64 (clP p.lit).n, .float .f64 (clP p.lit).f, .string (clP p.lit).s, .int .i64 p.pos, .bool p.neg, .int .i64 p.ty, .slice A5 q5 c5] 54)))
              rename_i K2 hK2
              generalize hzb : w5.heap.size = zb at HZR ⊢
              generalize hW5 : w5.alloc (.cells #[.int .i64 p.kind, .string p.op, .int .i64 (clP p.lit).k, .int .i64 (clP p.lit).n, .float .f64 (clP p.lit).f, .string (clP p.lit).s, .int .i64 p.pos, .bool p.neg, .int .i64 p.ty, .slice A5 q5 c5] 54) = W5 at HBZ HZR HNZ ⊢
              clear hW5 hzb HB5 HN5 t0 t1 t2 t3 t4 t5 t6 t7 t8 t9 leb HC
              have HBX := Lib.hid (HD.out.bx.keep HBZ.out)
              have h1 : W5.cell? ⟨w.heap.size, 1, none⟩ = some (.slice ca cs.length cc) := cell_of_row _ _ 1 _ _ _ (HBX.out.row0 _ _ rfl)
              have a1 : W5.cell? ⟨w.heap.size, 1, none⟩ = some (.slice (some ⟨cb, co, none⟩) q cc) := by
                rw [h1, HEC.out, HQ.out]
              clear h1
              have z8 : W5.cell? ⟨zb, 8, none⟩ = some (.int .i64 p.ty) := cell_of_row _ _ 8 _ _ _ HZR.out
              have ct := cell_kept HCY.out (HD.out.bx.below.trans (HBZ.out.mono HD.out.bx.below.size))
              have la := heap_lt (HBX.out.row0 _ _ rfl)
              have lz := heap_lt HZR.out
              have cbl : cb < W5.heap.size := Nat.lt_of_lt_of_le HCB.out (HD.out.bx.below.trans (HBZ.out.mono HD.out.bx.below.size)).size
              have HLK := Lib.hid (like_one p.ty cl.ty W5.heap.size 1)
              have HK2 := Lib.hid hK2
              clear hK2
              refine wp_region_fl (n0 := 9) (n := 66) (fun fl W => LW W5 cl.ty (fl 8) W) (fun j => (([.pointer (some ⟨zb, 8, none⟩), .int .i64 p.ty, .pointer (some ⟨w.heap.size, 1, none⟩), .slice (some ⟨cb, co, none⟩) q cc, .int .i64 c, .pointer (some ⟨cb, co + c * 3, none⟩), .pointer (some ⟨cb, co + c * 3 + 1, none⟩), .int .i64 cl.ty, .slice (some ⟨W5.heap.size, 0, none⟩) 1 1] : List Value)[j]?).getD undef) (by kernel_rfl) (by kernel_rfl) (Nat.le_of_eq rfl) (show LW W5 cl.ty false W5.drew from ⟨(Below.refl _ W5).drew, fun _ => rfl, fun h => (by cases h)⟩) ?step ?dst ?fin
              case step =>
                intro i2 o2 hi2 ho fl a w1 hfl hsb hC hpv
                have hB1 : Below W5.heap.size W5 w1 := hC.1
                have h9 : i2 = 0 ∨ i2 = 1 ∨ i2 = 2 ∨ i2 = 3 ∨ i2 = 4 ∨ i2 = 5 ∨ i2 = 6 ∨ i2 = 7 ∨ i2 = 8 := by omega
                clear hi2
                rcases h9 with rfl | rfl | rfl | rfl | rfl | rfl | rfl | rfl | rfl
                · obtain rfl := Option.some.inj (ho.symm.trans (List.getElem?_toArray.trans rfl))
                  have s12 : a.tmps[12]?.getD undef = .pointer (some ⟨zb, 0, none⟩) := hsb.get 12 (by kernel_rfl) rfl
                  clear hfl hpv hsb
                  go_simp
                  all_goals first | exact ⟨rfl, hC⟩ | exact rfl
                · obtain rfl := Option.some.inj (ho.symm.trans (List.getElem?_toArray.trans rfl))
                  have d44 : a.tmps[44]?.getD undef = .pointer (some ⟨zb, 8, none⟩) := (leftAt_get 44 rfl).trans (hpv ⟨0, .data⟩ (by simp) rfl (by decide))
                  have zz := cell_kept z8 hB1
                  clear hfl hpv hsb
                  go_simp
                  all_goals first | exact ⟨rfl, hC⟩ | exact rfl
                · obtain rfl := Option.some.inj (ho.symm.trans (List.getElem?_toArray.trans rfl))
                  have s2 : a.tmps[2]?.getD undef = .pointer (some ⟨w.heap.size, 0, none⟩) := hsb.get 2 (by kernel_rfl) rfl
                  clear hfl hpv hsb
                  go_simp
                  all_goals first | exact ⟨rfl, hC⟩ | exact rfl
                · obtain rfl := Option.some.inj (ho.symm.trans (List.getElem?_toArray.trans rfl))
                  have d46 : a.tmps[46]?.getD undef = .pointer (some ⟨w.heap.size, 1, none⟩) := (leftAt_get 46 rfl).trans (hpv ⟨2, .data⟩ (by simp) rfl (by decide))
                  have zz := cell_kept a1 hB1
                  clear hfl hpv hsb
                  go_simp
                  all_goals first | exact ⟨rfl, hC⟩ | exact rfl
                · obtain rfl := Option.some.inj (ho.symm.trans (List.getElem?_toArray.trans rfl))
                  have s10 : a.tmps[10]?.getD undef = .int .i64 c := hsb.get 10 (by kernel_rfl) rfl
                  clear hfl hpv hsb
                  go_simp
                  all_goals first | exact ⟨rfl, hC⟩ | exact rfl
                · obtain rfl := Option.some.inj (ho.symm.trans (List.getElem?_toArray.trans rfl))
                  have d47 : a.tmps[47]?.getD undef = .slice (some ⟨cb, co, none⟩) q cc := (leftAt_get 47 rfl).trans (hpv ⟨3, .data⟩ (by simp) rfl (by decide))
                  have d48 : a.tmps[48]?.getD undef = .int .i64 c := (leftAt_get 48 rfl).trans (hpv ⟨4, .data⟩ (by simp) rfl (by decide))
                  clear hfl hpv hsb
                  go_simp
                  all_goals first | exact ⟨rfl, hC⟩ | exact rfl
                · obtain rfl := Option.some.inj (ho.symm.trans (List.getElem?_toArray.trans rfl))
                  have d49 : a.tmps[49]?.getD undef = .pointer (some ⟨cb, co + c * 3, none⟩) := (leftAt_get 49 rfl).trans (hpv ⟨5, .data⟩ (by simp) rfl (by decide))
                  clear hfl hpv hsb
                  go_simp
                  all_goals first | exact ⟨rfl, hC⟩ | exact rfl
                · obtain rfl := Option.some.inj (ho.symm.trans (List.getElem?_toArray.trans rfl))
                  have d50 : a.tmps[50]?.getD undef = .pointer (some ⟨cb, co + c * 3 + 1, none⟩) := (leftAt_get 50 rfl).trans (hpv ⟨6, .data⟩ (by simp) rfl (by decide))
                  have zz := cell_kept ct hB1
                  clear hfl hpv hsb
                  go_simp
                  all_goals first | exact ⟨rfl, hC⟩ | exact rfl
                · obtain rfl := Option.some.inj (ho.symm.trans (List.getElem?_toArray.trans rfl))
                  have d51 : a.tmps[51]?.getD undef = .int .i64 cl.ty := (leftAt_get 51 rfl).trans (hpv ⟨7, .data⟩ (by simp) rfl (by decide))
                  have hsz : w1.heap.size = W5.heap.size := hC.2.1 hfl
                  have hLW := lw_new hsz hB1 cl.ty
                  clear hfl hpv hsb hC
                  go_simp
                  all_goals first | exact ⟨rfl, hLW⟩ | exact rfl
              case dst =>
                intro i2 o2 hi2 ho hd
                have h9 : i2 = 0 ∨ i2 = 1 ∨ i2 = 2 ∨ i2 = 3 ∨ i2 = 4 ∨ i2 = 5 ∨ i2 = 6 ∨ i2 = 7 ∨ i2 = 8 := by omega
                rcases h9 with rfl | rfl | rfl | rfl | rfl | rfl | rfl | rfl | rfl <;> (obtain rfl := Option.some.inj (ho.symm.trans (List.getElem?_toArray.trans rfl)); cases hd)
              case fin =>
                intro fl a w1 hsb hfl hC hpv
                have hC3 : LW W5 cl.ty (fl 8) w1 := hC
                rw [hfl 8 (by omega)] at hC3
                obtain ⟨hB1, _, h3⟩ := hC3
                obtain ⟨hcell, hlt⟩ := h3 rfl
                have d45 : a.tmps[45]?.getD undef = .int .i64 p.ty := (leftAt_get 45 rfl).trans (hpv 1 (by omega))
                have d52 : a.tmps[52]?.getD undef = .slice (some ⟨W5.heap.size, 0, none⟩) 1 1 := (leftAt_get 52 rfl).trans (hpv 8 (by omega))
                have HSL := Lib.hid (show a.tmps[2]?.getD undef = .pointer (some ⟨w.heap.size, 0, none⟩) ∧ a.tmps[4]?.getD undef = .slice none 0 0 ∧ a.tmps[5]?.getD undef = .pointer (some ⟨w.heap.size + 1, 0, none⟩) ∧ a.tmps[6]?.getD undef = v6 ∧ a.tmps[9]?.getD undef = v8 ∧ a.tmps[12]?.getD undef = .pointer (some ⟨zb, 0, none⟩) ∧ a.tmps[21]?.getD undef = .slice (some ⟨lb, lo, none⟩) m lc ∧ a.tmps[22]?.getD undef = .int .i64 m ∧ a.tmps[23]?.getD undef = .int .i64 i ∧ a.tmps[34]?.getD undef = .slice (some ⟨eb, eo, none⟩) q r.c ∧ a.tmps[35]?.getD undef = .int .i64 q ∧ a.tmps[36]?.getD undef = .int .i64 c from ⟨hsb.get 2 (by kernel_rfl) rfl, hsb.get 4 (by kernel_rfl) rfl, hsb.get 5 (by kernel_rfl) rfl, hsb.get 6 (by kernel_rfl) rfl, hsb.get 9 (by kernel_rfl) rfl, hsb.get 12 (by kernel_rfl) rfl, hsb.get 21 (by kernel_rfl) rfl, hsb.get 22 (by kernel_rfl) rfl, hsb.get 23 (by kernel_rfl) rfl, hsb.get 34 (by kernel_rfl) rfl, hsb.get 35 (by kernel_rfl) rfl, hsb.get 36 (by kernel_rfl) rfl⟩)
                have HDF := Lib.hid (show a.defers = [{ target := .fn (.func 21) #[], args := #[.pointer (some ⟨w.heap.size + 1, 0, none⟩)] }] from hsb.1)
                have HSZ := Lib.hid (show a.tmps.size = 66 from hsb.2.1)
                have HBW := Lib.hid (HBZ.out.trans (hB1.mono HBZ.out.size))
                have HLL := Lib.hid (HLK.out w1 hcell hlt)
                clear hsb hfl hC hpv h3 hcell hlt a1 z8 ct la cbl
                have hB1 := Lib.hid hB1
                simp only [List.drop_succ_cons, List.drop_zero]
                refine wpList_plain rfl fun R1 hR1 => ?_
                by_cases hty : p.ty = 0 ∨ p.ty = cl.ty
                · have HRN := Lib.hid (row_snoc HCT.out HCX.out HRW.out (HF.out.trans (if_pos hty)))
                  rw [show likeT p.ty [cl.ty] = true from by unfold likeT; simpa using hty] at HLL
                  clear hty
                  have HKQ := Lib.hid (show ∀ a' w', (S15 w a' ∧ a'.tmps.getD 21 undef = .slice (some ⟨lb, lo, none⟩) m lc ∧ a'.tmps.getD 22 undef = .int .i64 m ∧ a'.tmps.getD 23 undef = .int .i64 i ∧ a'.tmps.getD 6 undef = v6 ∧ a'.tmps.getD 34 undef = .slice (some ⟨eb, eo, none⟩) q r.c ∧ a'.tmps.getD 35 undef = .int .i64 q ∧ a'.tmps.getD 36 undef = .int .i64 c ∧ a'.tmps.getD 9 undef = v8 ∧ a'.tmps.getD 12 undef = .pointer (some ⟨zb, 0, none⟩) ∧ Hid (Below w2.heap.size w2 w') ∧ Hid (w'.heap[zb]? = some (.cells #[.int .i64 p.kind, .string p.op, .int .i64 (clP p.lit).k, .int .i64 (clP p.lit).n, .float .f64 (clP p.lit).f, .string (clP p.lit).s, .int .i64 p.pos, .bool p.neg, .int .i64 p.ty, .slice A5 q5 c5] 54)) ∧ Hid (NdAt clP (w2.heap.size ≤ ·) w' n (ndL p (clP p.lit) A5 q5 c5) p)) → K2 a' w' from by
                    rintro a w' ⟨hS, h21, h22, h23, h6, h34, h35, h36, h9, h12, hB, hZ, hN⟩
                    refine HK2.out _ _ ?_
                    obtain ⟨u, hu, hug⟩ := open66 hS.size
                    have p2 := hS.s2; have p4 := hS.s4; have p5 := hS.s5
                    have hdf := hS.df
                    rw [hug _ (by omega)] at p2 p4 p5 h21 h22 h23 h6 h34 h35 h36 h9 h12
                    obtain ⟨tm, df⟩ := a
                    dsimp only at hu hdf
                    subst hu hdf
                    clear hS hug
                    rw [p2, p4, p5, h21, h22, h23, h6, h34, h35, h36, h9, h12]
                    clear p2 p4 p5 h21 h22 h23 h6 h34 h35 h36 h9 h12
                    obtain ⟨z0, z1, z2, z3, z4, z5, z6, z7, z8, z9⟩ := row10 hZ.out
                    have lz := heap_lt hZ.out
                    go_wp2_with (first
                      | (at_builtin; refine list_one 45 54 10 112 nodeZ Tryz.underlying45 info54 rfl (by omega) (by omega) _ rfl _ _ rfl (w.heap.size + 2) v8 vs.length vs.flatten rfl ((HD.out.keep hB.out).keep (below1 w' _)).own8 _ 1 (ndL p (clP p.lit) A5 q5 c5) rfl rfl rfl (heap_alloc_new w' _) ?c3 ?c4 ?_)
                      | fail)
                    case c3 => have h1 := HVL.out; have h2 := HLQ.out; have h3 := HQ.out; omega
                    case c4 => have h1 := (HD.out.keep hB.out).hz; rw [World.size_alloc]; omega
                    intro v9 w9 hown hgr hv9
                    obtain ⟨A9, c9, rfl⟩ := own_slice hown
                    have HM := Lib.hid (HD.out.app8 (hB.out.alloc hB.out.size _) (hN.out.keep (below1 w' _)) hown hgr (by rw [World.size_alloc]; exact hv9))
                    clear hown hgr hv9 z0 z1 z2 z3 z4 z5 z6 z7 z8 z9 lz
                    go_wp2_with fail
                    refine ⟨⟨⟨?_, ?_, ?_, ?_, ?_⟩, ?_, ?_, ?_, ?_, ?_, ?_, c + 1, .slice A9 (vs.length + 1) c9, vs ++ [ndL p (clP p.lit) A5 q5 c5], ps ++ [p], by omega, ?_, ?_, Lib.hid (by rw [List.length_append, HVL.out]; rfl), Lib.hid (by rw [List.length_append, HPL.out]; rfl), HRN, HM⟩, ?_⟩
                    all_goals first | rfl | exact congrArg (Value.slice · q r.c) HEA.out.symm | skip
                    show q - (intOf (.int .i64 _)).toNat < q - (intOf (.int .i64 _)).toNat
                    simp [intOf] <;> omega)
                  go_simp
                  go_at_call 26
                  with_reducible refine HLL.out.mono ?_
                  rintro e w6 ⟨rfl, hB6⟩
                  refine hR1 _ _ ?_
                  refine wpList_plain rfl fun R2 hR2 => ?_
                  have h53 : 53 < a.tmps.size := by rw [HSZ.out]; decide
                  go_simp
                  go_at_call 24
                  with_reducible refine (HY70 _).mono ?_
                  rintro e w7 ⟨rfl, rfl⟩
                  refine hR2 _ _ ?_
                  change Exit.then _ _ Exit.normal _ _
                  simp only [Exit.then]
                  have HSV := Lib.hid (show ∀ t x v, t ≠ 53 → t ≠ 54 → a.tmps[t]?.getD undef = x → ((a.tmps.setIfInBounds 53 (.bool true)).setIfInBounds 54 v).getD t undef = x from fun t x v h1 h2 h => by
                    rw [Array.getD_eq_getD_getElem?, Array.getElem?_setIfInBounds_ne (Ne.symm h2), Array.getElem?_setIfInBounds_ne (Ne.symm h1)]
                    exact h)
                  obtain ⟨s2, s4, s5, s6, s9, s12, s21, s22, s23, s34, s35, s36⟩ := HSL.out
                  have HB6 := Lib.hid (HBW.out.trans (hB6.mono HBW.out.size))
                  have HB65 := Lib.hid (hB1.out.trans (hB6.mono hB1.out.size))
                  refine HKQ.out _ _ ⟨⟨?_, HDF.out, HSV.out _ _ _ (by decide) (by decide) s2, HSV.out _ _ _ (by decide) (by decide) s4, HSV.out _ _ _ (by decide) (by decide) s5⟩, HSV.out _ _ _ (by decide) (by decide) s21, HSV.out _ _ _ (by decide) (by decide) s22, HSV.out _ _ _ (by decide) (by decide) s23, HSV.out _ _ _ (by decide) (by decide) s6, HSV.out _ _ _ (by decide) (by decide) s34, HSV.out _ _ _ (by decide) (by decide) s35, HSV.out _ _ _ (by decide) (by decide) s36, HSV.out _ _ _ (by decide) (by decide) s9, HSV.out _ _ _ (by decide) (by decide) s12, HB6, Lib.hid ((HB65.out.block _ lz).trans HZR.out), Lib.hid (HNZ.out.keep HB65.out)⟩
                  rw [Array.size_setIfInBounds, Array.size_setIfInBounds, HSZ.out]
                · have HRN := Lib.hid (HERR.out 70 (lines_fail HJ.out HLN.out (by unfold lineR; rw [if_pos (by rw [List.length_map]; exact HQX.out)]; exact row_fail HCT.out HCX.out HRW.out (HF.out.trans (if_neg hty)))))
                  rw [show likeT p.ty [cl.ty] = false from by unfold likeT; simpa using hty] at HLL
                  clear hty
                  go_simp
                  go_at_call 26
                  with_reducible refine HLL.out.mono ?_
                  rintro e w6 ⟨rfl, hB6⟩
                  refine hR1 _ _ ?_
                  refine wpList_plain rfl fun R2 hR2 => ?_
                  have h53 : 53 < a.tmps.size := by rw [HSZ.out]; decide
                  go_simp
                  go_at_call 24
                  with_reducible refine (HN70 _).mono ?_
                  rintro e w7 ⟨rfl, rfl⟩
                  have hdf : ∀ tm' W', Leaves Tryz.prog Tryz.f15 tm' (PRowsO n w R) [{ target := .fn (.func 21) #[], args := #[.pointer (some ⟨w.heap.size + 1, 0, none⟩)] }] (.panicking [{ v := .iface 49 (.int .i64 70), recovered := false }]) W' → Leaves Tryz.prog Tryz.f15 tm' (PRowsO n w R) a.defers (.panicking [{ v := .iface 49 (.int .i64 70), recovered := false }]) W' := fun tm' W' h => by rw [HDF.out]; exact h
                  obtain ⟨s2, s4, s5, _⟩ := HSL.out
                  exact hdf _ _ (rows_pan (HD.out.bx.keep (HBW.out.trans (hB6.mono HBW.out.size))) HRN.out ((put_ne (a := a) (t := 53) (s := 4) (by decide)).trans s4) ((put_ne (a := a) (t := 53) (s := 5) (by decide)).trans s5))
          · obtain rfl : c = q := by omega
            have hcn : ((c : Int) < (c : Int)) = False := eq_false (by omega)
            have HLI := Lib.hid (show lineR (bindR n [] false) (cs.map Col.ty) r = .ok ps from by
              have h := HRW.out
              rw [List.take_of_length_le (by rw [List.length_map]; have := HQ.out; omega), List.take_of_length_le (by have h1 := HQ.out; have h2 := HQX.out; omega)] at h
              unfold lineR
              rw [if_pos (by rw [List.length_map]; exact HQX.out)]
              exact h)
            obtain ⟨A8, c8, rfl⟩ := own_slice HD.out.own8
            go_wp2_with (first
              | (at_builtin; refine list_one 66 45 1 24 (.slice none 0 0) Tryz.underlying66 info45 rfl (by omega) (by omega) _ rfl _ _ rfl (w.heap.size + 2) v6 RS.length (RS.map rowV) rfl (HD.out.keep (below1 w2 _)).own6 _ 1 [.slice A8 vs.length c8] rfl rfl rfl (heap_alloc_new w2 _) ?c3 ?c4 ?_)
              | fail)
            case c3 => have := HRL.out; omega
            case c4 => have := HD.out.hz; rw [World.size_alloc]; omega
            intro v9 w9 hown hgr hv9
            have HM := Lib.hid (HD.out.done (below1 w2 _) hown hgr (by rw [World.size_alloc]; exact hv9))
            clear hown hgr hv9
            go_wp2_with fail
            refine ⟨⟨⟨?_, ?_, ?_, ?_, ?_⟩, ?_, ?_, i + 1, v9, RS ++ [⟨A8, c8, vs⟩], pss ++ [ps], by omega, ?_, ?_, Lib.hid (by rw [List.length_append, HRL.out]; rfl), Lib.hid (lines_snoc HJ.out HLN.out HLI.out), HM⟩, ?_⟩
            all_goals first | rfl | skip
            show m - (intOf (.int .i64 _)).toNat < m - (intOf (.int .i64 _)).toNat
            simp [intOf] <;> omega
      · have n0 : ((r.xs.length : Int) == (cs.length : Int)) = false := beq_eq_false_iff_ne.2 (fun h => hq (by omega))
        have n2 : ((r.xs.length : Int) = (cs.length : Int)) = False := eq_false (fun h => hq (by omega))
        have n3 : (r.xs.length = cs.length) = False := eq_false hq
        have n4 : (r.xs.length == cs.length) = false := beq_eq_false_iff_ne.2 hq
        have HRR := Lib.hid (HERR.out 7 (lines_fail HJ.out HLN.out (by unfold lineR; rw [if_neg (by rw [List.length_map]; exact hq)])))
        go_wp2_with (first
          | (go_at_call 24; (with_reducible refine (HN7 _).mono ?_); rintro e w0 ⟨rfl, rfl⟩)
          | fail)
        refine rows_pan HD.out.bx HRR.out ?_ ?_ <;> rfl
    · obtain rfl : i = m := by omega
      have hin : ((i : Int) < (i : Int)) = False := eq_false (by omega)
      have HLF := HLN.out
      rw [List.take_of_length_le (by have := HML.out; omega)] at HLF
      go_wp2_with fail
      refine HK.out _ _ (HSEG.out v6 RS pss _ _ ⟨?_, ?_, ?_, ?_, ?_⟩ ?_ HD.out HLF)
      all_goals rfl
end Go.Proofs.YthdmfaepjemopaaGreatDoor
namespace Go.Proofs.YthdmfaepjemopaaGreatDoor
open Go.RowKit
theorem prows_any (n : Nat) (w : World) (tn : ByteArray) (ca : Option Addr) (cs : List Col) (cc : Nat) (ro ne rn : Int) (LA : Option Addr) (l : List XRow) (lc : Nat) (hca : ColsAt w ca cs) (hcl : cs.length ≤ 1000) (hX : XRowsAt w n LA l) : Calls Tryz.prog 15 #[.agg #[.string tn, .slice ca cs.length cc, .int .i64 ro, .int .i64 ne, .int .i64 rn], .slice LA l.length lc] w (PRowsO n w (rowsR (bindR n [] false) (cs.map Col.ty) l)) := by
  by_cases h0 : l = []
  · exact pr0_e n w tn ca cs cc ro ne rn LA l lc h0
  · by_cases h16 : 16 < l.length
    · exact pr0_m n w tn ca cs cc ro ne rn LA l lc h16
    · have e : rowsR (bindR n [] false) (cs.map Col.ty) l = linesR (bindR n [] false) (cs.map Col.ty) l := by unfold rowsR; rw [if_neg h0, if_neg h16]
      refine pr0_g n w tn ca cs cc ro ne rn LA l lc h0 (by omega) _ fun a W hS h1 h6 hM => ?_
      exact pr5 n w tn ca cs cc ro ne rn LA l lc hca hcl hX (by omega) _ (fun er h => e.trans h) (fun v6 RS pss a W hS h6 hD hl => pr6 n w tn ca cs cc ro ne rn LA l lc _ v6 RS pss a W hS h6 hD (e.trans hl)) a W hS h1 h6 hM
end Go.Proofs.YthdmfaepjemopaaGreatDoor
namespace Go.Proofs.YthdmfaepjemopaaGreatDoor
open Go.RowKit

theorem feq_num (x : Nat) : feq x x = true ↔ numF x := by
  unfold feq
  constructor
  · intro h
    by_cases hn : numF x
    · exact hn
    · have : ordF x x = none := (ordF_none x x).2 (.inl hn)
      unfold ordF at this
      change (Ieee.double.order x x == some Ordering.eq) = true at h
      rw [this] at h
      cases h
  · intro h
    have := ordF_self x h
    unfold ordF at this
    change (Ieee.double.order x x == some Ordering.eq) = true
    rw [this]
    rfl
theorem ord_nan (x y : Nat) (h : feq x x = false ∨ feq y y = false) (o : Ordering) : (FloatKind.f64.format.order x y == some o) = false := by
  have : ordF x y = none := (ordF_none x y).2 (h.imp (fun h g => by rw [(feq_num x).2 g] at h; cases h) (fun h g => by rw [(feq_num y).2 g] at h; cases h))
  unfold ordF at this
  change (Ieee.double.order x y == some o) = false
  rw [this]
  rfl
theorem feq_nanZ : feq nanZ nanZ = false := by kernel_rfl
theorem feq_zeroZ : feq 0 0 = true := by kernel_rfl
theorem exact_pd (v : Vl) (W : World) : Calls Tryz.prog 50 #[vlV (clP v), vlV (clD v)] W (RetV (.bool true) W) := by
  show Calls Tryz.prog 50 #[vV (clK v.k) (clN v.k v.n) (clF v.k v.f) (clS v.k v.s), vV (clK v.k) (clN v.k v.n) (rclF v.k v.f) (clS v.k v.s)] W (RetV (.bool true) W)
  unfold clF rclF
  by_cases h2 : v.k = 2
  · rw [if_pos h2, if_pos h2]
    unfold realZ
    by_cases h : feq v.f v.f = false
    · have h0 : feq v.f 0 = false := ord_nan v.f 0 (.inl h) .eq
      rw [if_pos h, if_neg (by rw [h0]; decide)]
      exact exact_nan _ _ _ _ _ W feq_nanZ h
    · rw [if_neg h]
      by_cases h0 : feq v.f 0 = true
      · rw [if_pos h0]
        exact exact_same _ _ _ _ W feq_zeroZ
      · rw [if_neg h0]
        exact exact_same _ _ _ _ W (by simpa using h)
  · rw [if_neg h2, if_neg h2]
    exact exact_same _ _ _ _ W feq_zeroZ
theorem nrow_at {cl : Vl → Vl} {ok : Nat → Prop} {W : World} {n : Nat} {A : Option Addr} {RS : List NRow} {pss : List (List Nd)} (hC : CellsAt W 1 A (RS.map fun R => [rowV R])) (hN : NRowsAt cl ok W n RS pss) {j : Nat} {ps : List Nd} (hj : pss[j]? = some ps) : ∃ b off R, A = some ⟨b, off, none⟩ ∧ b < W.heap.size ∧ W.cell? ⟨b, off + j, none⟩ = some (.slice R.B R.vs.length R.c) ∧ NRowAt cl ok W n R ps := by
  obtain ⟨R, hR⟩ : ∃ R, RS[j]? = some R := ⟨_, List.getElem?_eq_getElem (by rw [hN.1]; exact (List.getElem?_eq_some_iff.1 hj).1)⟩
  obtain ⟨b, off, rfl, hb, hc⟩ := setl_at hC (x := [rowV R]) (by rw [List.getElem?_map, hR]; rfl)
  exact ⟨b, off, R, rfl, hb, by simpa using hc 0 _ rfl, hN.2 j R ps hR hj⟩
set_option maxRecDepth 100000 in
set_option maxHeartbeats 16000000 in
theorem rl3_e (n : Nat) (w : World) (tn : ByteArray) (ca : Option Addr) (cs : List Col) (cc : Nat) (ro ne rn : Int) (LA : Option Addr) (l : List XRow) (lc : Nat) (er : Int) (HP : ∀ W, Below w.heap.size w W → Calls Tryz.prog 15 #[.agg #[.string tn, .slice ca cs.length cc, .int .i64 ro, .int .i64 ne, .int .i64 rn], .slice LA l.length lc] W (PRowsO n W (.error er))) (HR : ∀ W, Below w.heap.size w W → Calls Tryz.prog 16 #[.agg #[.string tn, .slice ca cs.length cc, .int .i64 ro, .int .i64 ne, .int .i64 rn], .slice LA l.length lc] W (RRowsO n W (.error er)))
    (a : Act) (W : World) (hS : S5 w LA l.length lc a) (hM : BX w [.cells #[.string tn, .slice ca cs.length cc, .int .i64 ro, .int .i64 ne, .int .i64 rn] 65] W) : (rlC 3).wp Tryz.prog (bodyPost Tryz.prog Tryz.f5 (RetV (.bool true) w)) a W := by
  have HP := Lib.hid (HP W hM.below)
  have HR := Lib.hid HR
  have HM := Lib.hid hM
  obtain ⟨t0, t1, t2, t3, t4⟩ : W.cell? ⟨w.heap.size, 0, none⟩ = some (.string tn) ∧ W.cell? ⟨w.heap.size, 1, none⟩ = some (.slice ca cs.length cc) ∧ W.cell? ⟨w.heap.size, 2, none⟩ = some (.int .i64 ro) ∧ W.cell? ⟨w.heap.size, 3, none⟩ = some (.int .i64 ne) ∧ W.cell? ⟨w.heap.size, 4, none⟩ = some (.int .i64 rn) := ⟨cell_of_row _ _ 0 _ _ _ (hM.row0 _ _ rfl), cell_of_row _ _ 1 _ _ _ (hM.row0 _ _ rfl), cell_of_row _ _ 2 _ _ _ (hM.row0 _ _ rfl), cell_of_row _ _ 3 _ _ _ (hM.row0 _ _ rfl), cell_of_row _ _ 4 _ _ _ (hM.row0 _ _ rfl)⟩
  have l1 := heap_lt (hM.row0 _ _ rfl)
  clear hM
  obtain ⟨u, hu, hug⟩ := open74 hS.size
  have p1 := hS.s1; have p2 := hS.s2; have p4 := hS.s4
  have hdf := hS.df
  rw [hug _ (by omega)] at p1 p2 p4
  obtain ⟨tm, df⟩ := a
  dsimp only at hu hdf
  subst hu hdf
  clear hS hug
  rw [p1, p2, p4]
  clear p1 p2 p4
  conv => arg 2; whnf
  go_wp2_with (first
    | (go_at_call 15; (with_reducible refine HP.out.mono ?_); rintro e w5 ⟨hB5, rfl⟩
       have HB5 := Lib.hid (HM.out.keep hB5)
       obtain ⟨s0, s1, s2, s3, s4⟩ : w5.cell? ⟨w.heap.size, 0, none⟩ = some (.string tn) ∧ w5.cell? ⟨w.heap.size, 1, none⟩ = some (.slice ca cs.length cc) ∧ w5.cell? ⟨w.heap.size, 2, none⟩ = some (.int .i64 ro) ∧ w5.cell? ⟨w.heap.size, 3, none⟩ = some (.int .i64 ne) ∧ w5.cell? ⟨w.heap.size, 4, none⟩ = some (.int .i64 rn) := ⟨cell_of_row _ _ 0 _ _ _ (HB5.out.row0 _ _ rfl), cell_of_row _ _ 1 _ _ _ (HB5.out.row0 _ _ rfl), cell_of_row _ _ 2 _ _ _ (HB5.out.row0 _ _ rfl), cell_of_row _ _ 3 _ _ _ (HB5.out.row0 _ _ rfl), cell_of_row _ _ 4 _ _ _ (HB5.out.row0 _ _ rfl)⟩
       have HR := Lib.hid (HR.out w5 HB5.out.below)
       clear hB5 t0 t1 t2 t3 t4)
    | (go_at_call 16; (with_reducible refine HR.out.mono ?_); rintro e w6 ⟨hB6, rfl⟩
       have HB6 := Lib.hid (HB5.out.keep hB6)
       clear hB6 s0 s1 s2 s3 s4)
    | fail)
  refine wp_loop (fun a' wr => a'.tmps.size = 74 ∧ a'.defers = [] ∧ a'.tmps.getD 59 undef = .int .i64 0 ∧ a'.tmps.getD 60 undef = .int .i64 0 ∧ Hid (Below w6.heap.size w6 wr)) (fun _ _ => 0) ?start ?round
  case start =>
    refine ⟨?_, ?_, ?_, ?_, Lib.hid (Below.refl _ _)⟩
    all_goals rfl
  case round =>
    rintro a wr ⟨hsz, hdf, h59, h60, HB⟩
    obtain ⟨u, hu, hug⟩ := open74 hsz
    rw [hug _ (by omega)] at h59 h60
    obtain ⟨tm, df⟩ := a
    dsimp only at hu hdf
    subst hu hdf
    clear hsz hug
    rw [h59, h60]
    clear h59 h60
    go_wp2_with fail
    exact bodyPost_ret (results_tmp rfl _ _ _) rfl ⟨rfl, HB6.out.below.trans (HB.out.mono HB6.out.below.size)⟩
set_option maxRecDepth 100000 in
set_option maxHeartbeats 16000000 in
theorem rl3_o (n : Nat) (w : World) (tn : ByteArray) (ca : Option Addr) (cs : List Col) (cc : Nat) (ro ne rn : Int) (LA : Option Addr) (l : List XRow) (lc : Nat) (pss : List (List Nd)) (HP : ∀ W, Below w.heap.size w W → Calls Tryz.prog 15 #[.agg #[.string tn, .slice ca cs.length cc, .int .i64 ro, .int .i64 ne, .int .i64 rn], .slice LA l.length lc] W (PRowsO n W (.ok pss))) (HR : ∀ W, Below w.heap.size w W → Calls Tryz.prog 16 #[.agg #[.string tn, .slice ca cs.length cc, .int .i64 ro, .int .i64 ne, .int .i64 rn], .slice LA l.length lc] W (RRowsO n W (.ok pss)))
    (a : Act) (W : World) (hS : S5 w LA l.length lc a) (hM : BX w [.cells #[.string tn, .slice ca cs.length cc, .int .i64 ro, .int .i64 ne, .int .i64 rn] 65] W) : (rlC 3).wp Tryz.prog (bodyPost Tryz.prog Tryz.f5 (RetV (.bool true) w)) a W := by
  have HP := Lib.hid (HP W hM.below)
  have HR := Lib.hid HR
  have HM := Lib.hid hM
  obtain ⟨t0, t1, t2, t3, t4⟩ : W.cell? ⟨w.heap.size, 0, none⟩ = some (.string tn) ∧ W.cell? ⟨w.heap.size, 1, none⟩ = some (.slice ca cs.length cc) ∧ W.cell? ⟨w.heap.size, 2, none⟩ = some (.int .i64 ro) ∧ W.cell? ⟨w.heap.size, 3, none⟩ = some (.int .i64 ne) ∧ W.cell? ⟨w.heap.size, 4, none⟩ = some (.int .i64 rn) := ⟨cell_of_row _ _ 0 _ _ _ (hM.row0 _ _ rfl), cell_of_row _ _ 1 _ _ _ (hM.row0 _ _ rfl), cell_of_row _ _ 2 _ _ _ (hM.row0 _ _ rfl), cell_of_row _ _ 3 _ _ _ (hM.row0 _ _ rfl), cell_of_row _ _ 4 _ _ _ (hM.row0 _ _ rfl)⟩
  have l1 := heap_lt (hM.row0 _ _ rfl)
  clear hM
  obtain ⟨q, hq⟩ : ∃ q, q = pss.length := ⟨_, rfl⟩
  have HQ := Lib.hid hq
  clear hq
  obtain ⟨u, hu, hug⟩ := open74 hS.size
  have p1 := hS.s1; have p2 := hS.s2; have p4 := hS.s4
  have hdf := hS.df
  rw [hug _ (by omega)] at p1 p2 p4
  obtain ⟨tm, df⟩ := a
  dsimp only at hu hdf
  subst hu hdf
  clear hS hug
  rw [p1, p2, p4]
  clear p1 p2 p4
  conv => arg 2; whnf
  go_wp2_with (first
    | (go_at_call 15; (with_reducible refine HP.out.mono ?_); rintro e w5 ⟨hB5, A5, c5, RS, rfl, hC5, hN5⟩
       have HB5 := Lib.hid (HM.out.keep hB5)
       obtain ⟨s0, s1, s2, s3, s4⟩ : w5.cell? ⟨w.heap.size, 0, none⟩ = some (.string tn) ∧ w5.cell? ⟨w.heap.size, 1, none⟩ = some (.slice ca cs.length cc) ∧ w5.cell? ⟨w.heap.size, 2, none⟩ = some (.int .i64 ro) ∧ w5.cell? ⟨w.heap.size, 3, none⟩ = some (.int .i64 ne) ∧ w5.cell? ⟨w.heap.size, 4, none⟩ = some (.int .i64 rn) := ⟨cell_of_row _ _ 0 _ _ _ (HB5.out.row0 _ _ rfl), cell_of_row _ _ 1 _ _ _ (HB5.out.row0 _ _ rfl), cell_of_row _ _ 2 _ _ _ (HB5.out.row0 _ _ rfl), cell_of_row _ _ 3 _ _ _ (HB5.out.row0 _ _ rfl), cell_of_row _ _ 4 _ _ _ (HB5.out.row0 _ _ rfl)⟩
       have HR := Lib.hid (HR.out w5 HB5.out.below)
       have HC5 := Lib.hid hC5
       have HN5 := Lib.hid hN5
       have e5 : RS.length = q := hN5.1.trans HQ.out.symm
       clear hB5 t0 t1 t2 t3 t4 hC5 hN5)
    | (go_at_call 16; (with_reducible refine HR.out.mono ?_); rintro e w6 ⟨hB6, A6, c6, RT, rfl, hC6, hN6⟩
       have HB6 := Lib.hid (HB5.out.keep hB6)
       have HC5 := Lib.hid (CellsAt.keep hB6 HC5.out)
       have HN5 := Lib.hid (HN5.out.keep hB6)
       have HC6 := Lib.hid hC6
       have HN6 := Lib.hid hN6
       have e6 : RT.length = q := hN6.1.trans HQ.out.symm
       have hqm : q ≤ 9223372036854775807 := by
         have h := HC5.out.1
         rw [List.length_map, e5] at h
         unfold maxLen at h
         omega
       have n0 : ((q : Int) == (q : Int)) = true := beq_self_eq_true _
       clear hB6 s0 s1 s2 s3 s4 hC6 hN6)
    | fail)
  refine wp_loop (fun a' wr => a'.tmps.size = 74 ∧ a'.defers = [] ∧ a'.tmps.getD 7 undef = .slice A5 q c5 ∧ a'.tmps.getD 9 undef = .slice A6 q c6 ∧ a'.tmps.getD 59 undef = .int .i64 q ∧ ∃ (i : Nat), i ≤ q ∧ a'.tmps.getD 60 undef = .int .i64 i ∧ Hid (Below w6.heap.size w6 wr)) (fun a' _ => q - (intOf (a'.tmps.getD 60 undef)).toNat) ?start ?round
  case start =>
    refine ⟨?_, ?_, ?_, ?_, ?_, 0, Nat.zero_le _, ?_, Lib.hid (Below.refl _ _)⟩
    all_goals rfl
  case round =>
    rintro a wr ⟨hsz, hdf, h7, h9, h59, i, hi, h60, HB⟩
    obtain ⟨u, hu, hug⟩ := open74 hsz
    rw [hug _ (by omega)] at h7 h9 h59 h60
    obtain ⟨tm, df⟩ := a
    dsimp only at hu hdf
    subst hu hdf
    clear hsz hug
    rw [h7, h9, h59, h60]
    clear h7 h9 h59 h60
    by_cases him : i < q
    · have hin : ((i : Int) < (q : Int)) = True := eq_true (by omega)
      obtain ⟨ps, hps⟩ : ∃ ps, pss[i]? = some ps := ⟨_, List.getElem?_eq_getElem (by have := HQ.out; omega)⟩
      obtain ⟨b5, o5, R5, rfl, hb5, hr5, hn5⟩ := nrow_at HC5.out HN5.out hps
      obtain ⟨b6, o6, R6, rfl, hb6, hr6, hn6⟩ := nrow_at HC6.out HN6.out hps
      have HC := Lib.hid (sameall_any clP clD _ _ exact_pd n ps R5.B R5.vs R5.c R6.B R6.vs R6.c wr.drew (CellsAt.keep HB.out.drew hn5.1) (hn5.2.2.keep HB.out.drew) (CellsAt.keep HB.out.drew hn6.1) (hn6.2.2.keep HB.out.drew))
      have r5 := cell_kept hr5 HB.out
      have r6 := cell_kept hr6 HB.out
      clear hr5 hr6 hn5 hn6 hps
      go_wp2_with fail
      go_region_law (first
        | (go_simp; go_at_call 17; (with_reducible refine HC.out.mono ?_); rintro e w7 ⟨rfl, hB7⟩
           have HB7 := Lib.hid (HB.out.trans (((Below.refl _ wr).drew.trans hB7).mono HB.out.size))
           clear hB7)
        | fail)
      all_goals
        go_wp2_with fail
        refine ⟨⟨?_, ?_, ?_, ?_, ?_, i + 1, by omega, ?_, HB7⟩, ?_⟩
        all_goals first | rfl | skip
        show q - (intOf (.int .i64 _)).toNat < q - (intOf (.int .i64 _)).toNat
        simp [intOf] <;> omega
      all_goals trivial
    · obtain rfl : i = q := by omega
      have hin : ((i : Int) < (i : Int)) = False := eq_false (by omega)
      go_wp2_with fail
      exact bodyPost_ret (results_tmp rfl _ _ _) rfl ⟨rfl, HB6.out.below.trans (HB.out.mono HB6.out.below.size)⟩
theorem rows_any0 (n : Nat) (w : World) (tn : ByteArray) (ca : Option Addr) (cs : List Col) (cc : Nat) (ro ne rn : Int) (LA : Option Addr) (l : List XRow) (lc : Nat) (hca : ColsAt w ca cs) (hX : YRowsAt w n LA l) : Calls Tryz.prog 5 #[.agg #[.string tn, .slice ca cs.length cc, .int .i64 ro, .int .i64 ne, .int .i64 rn], .slice LA l.length lc] w (RetV (.bool true) w) := by
  by_cases hc : 12 < cs.length
  · exact rl_c n w tn ca cs cc ro ne rn LA l lc hc
  · by_cases hl : 20 < l.length
    · exact rl_m n w tn ca cs cc ro ne rn LA l lc (by omega) hl
    · refine rl_g n w tn ca cs cc ro ne rn LA l lc (by omega) (by omega) fun a W hS hM => ?_
      refine rl2 n w tn ca cs cc ro ne rn LA l lc hX (by omega) (fun hf a W hS hM => ?_) a W hS hM
      have HX := hX.few hf
      have HP := fun W (hB : Below w.heap.size w W) => prows_any n W tn ca cs cc ro ne rn LA l lc (CellsAt.keep hB hca) (by omega) (HX.keep hB)
      have HR := fun W (hB : Below w.heap.size w W) => rrows_any n W tn ca cs cc ro ne rn LA l lc (CellsAt.keep hB hca) (by omega) (HX.keep hB)
      cases hr : (rowsR (bindR n [] false) (cs.map Col.ty) l) with
      | error er =>
        rw [hr] at HP HR
        exact rl3_e n w tn ca cs cc ro ne rn LA l lc er HP HR a W hS hM
      | ok pss =>
        rw [hr] at HP HR
        exact rl3_o n w tn ca cs cc ro ne rn LA l lc pss HP HR a W hS hM
end Go.Proofs.YthdmfaepjemopaaGreatDoor
