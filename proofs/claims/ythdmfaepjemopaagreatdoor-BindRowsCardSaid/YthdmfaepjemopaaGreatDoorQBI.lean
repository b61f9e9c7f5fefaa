/- The walk of the document's Rows: the loops. The walk of the document's Rows: the end, and the contract. The walk of the program's Rows: the beginning and the end. -/
import Derived.Test.YthdmfaepjemopaaGreatDoorQBH
import Derived.Test.YthdmfaepjemopaaGreatDoorQBG
import Derived.Test.YthdmfaepjemopaaGreatDoorQBF
import Derived.Test.YthdmfaepjemopaaGreatDoorQAR
namespace Go.Proofs.YthdmfaepjemopaaGreatDoor
open Go.RowKit


set_option maxRecDepth 100000 in
set_option maxHeartbeats 16000000 in
theorem rr4 (n : Nat) (w : World) (tn : ByteArray) (ca : Option Addr) (cs : List Col) (cc : Nat) (ro ne rn : Int) (LA : Option Addr) (l : List XRow) (lc : Nat) (hca : ColsAt w ca cs) (hcl : cs.length ≤ 1000) (hX : XRowsAt w n LA l) (h16 : l.length ≤ 16) (R : Except Int (List (List Nd)))
    (HERR : ∀ er, linesR (bindR n [] false) (cs.map Col.ty) l = .error er → R = .error er)
    (HSEG : ∀ v6 RS pss a W, S16 w LA l.length lc a → a.tmps.getD 6 undef = v6 → DR clD n w [.cells #[.string tn, .slice ca cs.length cc, .int .i64 ro, .int .i64 ne, .int .i64 rn] 65] (w.heap.size + 1) v6 RS pss (.slice none 0 0) [] [] W → linesR (bindR n [] false) (cs.map Col.ty) l = .ok pss → (rrC 5).wp Tryz.prog (bodyPost Tryz.prog Tryz.f16 (RRowsO n w R)) a W)
    (a : Act) (W : World) (hS : S16 w LA l.length lc a) (h6 : a.tmps.getD 6 undef = .slice none 0 0) (hM : BX w [.cells #[.string tn, .slice ca cs.length cc, .int .i64 ro, .int .i64 ne, .int .i64 rn] 65] W) : (rrC 4).wp Tryz.prog (bodyPost Tryz.prog Tryz.f16 (RRowsO n w R)) a W := by
  have HSEG := Lib.hid HSEG
  have HERR := Lib.hid HERR
  have HCA := Lib.hid hca
  have HX := Lib.hid hX
  have HST := Lib.hid (show DR clD n w [.cells #[.string tn, .slice ca cs.length cc, .int .i64 ro, .int .i64 ne, .int .i64 rn] 65] (w.heap.size + 1) (.slice none 0 0) [] [] (.slice none 0 0) [] [] W from ⟨hM, rfl, heap_lt (hM.row0 _ _ rfl), World.ownsRow_nil _ _ _ _, World.ownsRow_nil _ _ _ _, fun b h => (by cases h), ⟨rfl, fun i R p h => (by cases h)⟩, ⟨rfl, fun i x q h => (by cases h)⟩, fun x h => (List.not_mem_nil h).elim⟩)
  obtain ⟨m, hm⟩ : ∃ m, m = l.length := ⟨_, rfl⟩
  have HML := Lib.hid hm
  rw [← hm] at hS h16
  rw [← hm] at HSEG
  clear hca hX hM hm
  obtain ⟨u, hu, hug⟩ := open80 hS.size
  have p1 := hS.s1; have p2 := hS.s2; have p4 := hS.s4; have p5 := hS.s5
  have hdf := hS.df
  rw [hug _ (by omega)] at p1 p2 p4 p5 h6
  obtain ⟨tm, df⟩ := a
  dsimp only at hu hdf
  subst hu hdf
  clear hS hug
  rw [p1, p2, p4, p5, h6]
  clear p1 p2 p4 p5 h6
  conv => arg 2; whnf
  refine wp_seq_k fun K hK => ?_
  have HK := Lib.hid (show ∀ a w', (rrC 5).wp Tryz.prog (bodyPost Tryz.prog Tryz.f16 (RRowsO n w R)) a w' → K a w' from hK)
  clear hK
  go_wp2_with fail
  refine wp_loop (fun a' wr => S16 w LA m lc a' ∧ ∃ (i : Nat) (v6 : Value) (RS : List NRow) (pss : List (List Nd)), i ≤ m ∧ a'.tmps.getD 7 undef = .int .i64 i ∧ a'.tmps.getD 6 undef = v6 ∧ Hid (RS.length = i) ∧ Hid (linesR (bindR n [] false) (cs.map Col.ty) (l.take i) = .ok pss) ∧ Hid (DR clD n w [.cells #[.string tn, .slice ca cs.length cc, .int .i64 ro, .int .i64 ne, .int .i64 rn] 65] (w.heap.size + 1) v6 RS pss (.slice none 0 0) [] [] wr)) (fun a' _ => m - (intOf (a'.tmps.getD 7 undef)).toNat) ?start ?round
  case start =>
    refine ⟨⟨?_, ?_, ?_, ?_, ?_, ?_⟩, 0, .slice none 0 0, [], [], Nat.zero_le _, ?_, ?_, Lib.hid rfl, Lib.hid rfl, HST⟩
    all_goals rfl
  case round =>
    clear HST
    rintro a wr ⟨hS, i, v6, RS, pss, hi, h7, h6, HRL, HLN, HD⟩
    obtain ⟨u, hu, hug⟩ := open80 hS.size
    have p1 := hS.s1; have p2 := hS.s2; have p4 := hS.s4; have p5 := hS.s5
    have hdf := hS.df
    rw [hug _ (by omega)] at p1 p2 p4 p5 h7 h6
    obtain ⟨tm, df⟩ := a
    dsimp only at hu hdf
    subst hu hdf
    clear hS hug
    rw [p1, p2, p4, p5, h7, h6]
    clear p1 p2 p4 p5 h7 h6
    by_cases him : i < m
    · have hin : ((i : Int) < (m : Int)) = True := eq_true (by omega)
      obtain ⟨r, hr⟩ : ∃ r, l[i]? = some r := ⟨_, List.getElem?_eq_getElem (by have := HML.out; omega)⟩
      have HJ := Lib.hid hr
      obtain ⟨lb, lo, rfl, hlb, hlc⟩ := setl_at HX.out.cells (x := [.slice r.A r.xs.length r.c]) (by rw [List.getElem?_map, hr]; rfl)
      have hlr : wr.cell? ⟨lb, lo + i, none⟩ = some (.slice r.A r.xs.length r.c) := by
        have h := cell_kept (hlc 0 _ rfl) HD.out.bx.below
        simpa using h
      have HLW := Lib.hid (show w.cell? ⟨lb, lo + i, none⟩ = some (.slice r.A r.xs.length r.c) from by simpa using hlc 0 _ rfl)
      clear hr hlc
      obtain ⟨t0, t1, t2, t3, t4⟩ : wr.cell? ⟨w.heap.size, 0, none⟩ = some (.string tn) ∧ wr.cell? ⟨w.heap.size, 1, none⟩ = some (.slice ca cs.length cc) ∧ wr.cell? ⟨w.heap.size, 2, none⟩ = some (.int .i64 ro) ∧ wr.cell? ⟨w.heap.size, 3, none⟩ = some (.int .i64 ne) ∧ wr.cell? ⟨w.heap.size, 4, none⟩ = some (.int .i64 rn) := ⟨cell_of_row _ _ 0 _ _ _ (HD.out.bx.row0 _ _ rfl), cell_of_row _ _ 1 _ _ _ (HD.out.bx.row0 _ _ rfl), cell_of_row _ _ 2 _ _ _ (HD.out.bx.row0 _ _ rfl), cell_of_row _ _ 3 _ _ _ (HD.out.bx.row0 _ _ rfl), cell_of_row _ _ 4 _ _ _ (HD.out.bx.row0 _ _ rfl)⟩
      go_wp2_with fail
      by_cases hq : r.xs.length = cs.length
      · rw [hq] at hlr
        have n0 : ((cs.length : Int) == (cs.length : Int)) = true := beq_self_eq_true _
        rename_i K2 hK2
        have HKQ := Lib.hid (show ∀ a' w', (S16 w (some ⟨lb, lo, none⟩) m lc a' ∧ a'.tmps.getD 7 undef = .int .i64 i ∧ a'.tmps.getD 6 undef = v6 ∧ a'.tmps.getD 32 undef = .bool false ∧ Hid (DR clD n w [.cells #[.string tn, .slice ca cs.length cc, .int .i64 ro, .int .i64 ne, .int .i64 rn] 65] (w.heap.size + 1) v6 RS pss (.slice none 0 0) [] [] w')) → K2 a' w' from by
          rintro a w' ⟨hS, h7, h6, h32, HD5⟩
          refine hK2 _ _ ?_
          clear t0 t1 t2 t3 t4 hlr n0 HD
          obtain ⟨u, hu, hug⟩ := open80 hS.size
          have p1 := hS.s1; have p2 := hS.s2; have p4 := hS.s4; have p5 := hS.s5
          have hdf := hS.df
          rw [hug _ (by omega)] at p1 p2 p4 p5 h7 h6 h32
          obtain ⟨tm, df⟩ := a
          dsimp only at hu hdf
          subst hu hdf
          clear hS hug
          rw [p1, p2, p4, p5, h7, h6, h32]
          clear p1 p2 p4 p5 h7 h6 h32
          go_wp2_with fail
          obtain ⟨q, hqq⟩ : ∃ q, q = cs.length := ⟨_, rfl⟩
          have HQ := Lib.hid hqq
          have HQX := Lib.hid hq
          have hqb : q ≤ 1000 := by omega
          clear hqq hq
          have HST := Lib.hid (show ([] : List (List Value)).length = 0 from rfl)
          refine wp_loop (fun a' w2 => S16 w (some ⟨lb, lo, none⟩) m lc a' ∧ a'.tmps.getD 7 undef = .int .i64 i ∧ a'.tmps.getD 6 undef = v6 ∧ ∃ (c : Nat) (v8 : Value) (vs : List (List Value)) (ps : List Nd), c ≤ q ∧ a'.tmps.getD 9 undef = .int .i64 c ∧ a'.tmps.getD 8 undef = v8 ∧ Hid (vs.length = c) ∧ Hid (ps.length = c) ∧ Hid (rowR (bindR n [] false) ((cs.map Col.ty).take c) (r.xs.take c) = .ok ps) ∧ Hid (DR clD n w [.cells #[.string tn, .slice ca cs.length cc, .int .i64 ro, .int .i64 ne, .int .i64 rn] 65] (w.heap.size + 1) v6 RS pss v8 vs ps w2)) (fun a' _ => q - (intOf (a'.tmps.getD 9 undef)).toNat) ?start2 ?round2
          case start2 =>
            refine ⟨⟨?_, ?_, ?_, ?_, ?_, ?_⟩, ?_, ?_, 0, .slice none 0 0, [], [], Nat.zero_le _, ?_, ?_, Lib.hid rfl, Lib.hid rfl, Lib.hid rfl, HD5⟩
            all_goals rfl
          case round2 =>
            clear HD5 HST
            rintro a w2 ⟨hS, h7, h6, c, v8, vs, ps, hc, h9, h8, HVL, HPL, HRW, HD⟩
            obtain ⟨u, hu, hug⟩ := open80 hS.size
            have p1 := hS.s1; have p2 := hS.s2; have p4 := hS.s4; have p5 := hS.s5
            have hdf := hS.df
            rw [hug _ (by omega)] at p1 p2 p4 p5 h7 h6 h9 h8
            obtain ⟨tm, df⟩ := a
            dsimp only at hu hdf
            subst hu hdf
            clear hS hug
            rw [p1, p2, p4, p5, h7, h6, h9, h8]
            clear p1 p2 p4 p5 h7 h6 h9 h8
            have sf := store_float
            by_cases hcq : c < q
            · have hcn : ((c : Int) < (q : Int)) = True := eq_true (by omega)
              have hlq : r.xs.length = q := HQX.out.trans HQ.out.symm
              obtain ⟨x, hx⟩ : ∃ x, r.xs[c]? = some x := ⟨_, List.getElem?_eq_getElem (by omega)⟩
              obtain ⟨cl, hcl0⟩ : ∃ cl, cs[c]? = some cl := ⟨_, List.getElem?_eq_getElem (by have := HQ.out; omega)⟩
              have HCX := Lib.hid hx
              have HCT := Lib.hid (show (cs.map Col.ty)[c]? = some cl.ty from by rw [List.getElem?_map, hcl0]; rfl)
              have HMEM := Lib.hid (List.mem_of_getElem? HJ.out)
              obtain ⟨eb, eo, heA, heb, hxc⟩ := ex_at (HX.out.rows r HMEM.out) hx
              obtain ⟨cb, co, heC, hcb, hcc⟩ := setl_at HCA.out (x := colL cl) (by rw [List.getElem?_map, hcl0]; rfl)
              have HCY := Lib.hid (show w.cell? ⟨cb, co + c * 3 + 1, none⟩ = some (.int .i64 cl.ty) from hcc 1 _ rfl)
              have HCB := Lib.hid hcb
              have HEC := Lib.hid heC
              have hlr := cell_kept HLW.out HD.out.bx.below
              rw [heA, hlq] at hlr
              have t0 : w2.cell? ⟨eb, eo + c * 10, none⟩ = some (.int .i64 x.kind) := cell_kept (hxc 0 _ rfl) HD.out.bx.below
              have t1 := cell_kept (hxc 1 _ rfl) HD.out.bx.below
              have t2 := cell_kept (hxc 2 _ rfl) HD.out.bx.below
              have t3 := cell_kept (hxc 3 _ rfl) HD.out.bx.below
              have t4 := cell_kept (hxc 4 _ rfl) HD.out.bx.below
              have t5 := cell_kept (hxc 5 _ rfl) HD.out.bx.below
              have t6 := cell_kept (hxc 6 _ rfl) HD.out.bx.below
              have t7 := cell_kept (hxc 7 _ rfl) HD.out.bx.below
              have t8 := cell_kept (hxc 8 _ rfl) HD.out.bx.below
              have t9 := cell_kept (hxc 9 _ rfl) HD.out.bx.below
              have leb : eb < w2.heap.size := Nat.lt_of_lt_of_le heb HD.out.bx.below.size
              have HXE := HX.out.exs r HMEM.out x (List.mem_of_getElem? hx)
              have HC := Lib.hid (rbind_any n x w2 (HXE.1.keep HD.out.bx.below) HXE.2)
              clear hx hcl0 heA heC hxc hcc HXE hlq hcb
              cases hf : bindR n [] false x with
              | error er =>
                have HF := Lib.hid (HERR.out er (lines_fail HJ.out HLN.out (by unfold lineR; rw [if_pos (by rw [List.length_map]; exact HQX.out)]; exact row_fail HCT.out HCX.out HRW.out (by unfold cellR; rw [hf]))))
                rw [hf] at HC
                clear hf
                go_wp2_with (first
                  | (go_at_call 27; (with_reducible refine HC.out.mono ?_); rintro e w5 ⟨hB5, hne, rfl⟩
                     have HB5 := Lib.hid (hB5.alloc hB5.size (.cells #[.int .i64 0, .string ⟨#[]⟩, .int .i64 0, .int .i64 0, .float .f64 0, .string ⟨#[]⟩, .int .i64 0, .bool false, .int .i64 0, .slice none 0 0] 54))
                     have her0 : (er == 0) = false := beq_eq_false_iff_ne.2 hne
                     have her1 : (er = 0) = False := eq_false hne
                     clear hB5 hne)
                  | fail)
                refine bodyPost_ret (res_tt rfl rfl rfl) rfl ?_
                rw [HF.out]
                exact ⟨HD.out.bx.below.trans (HB5.out.mono HD.out.bx.below.size), rfl⟩
              | ok p =>
                have HF := Lib.hid (show cellR (bindR n [] false) cl.ty x = if p.ty = 0 ∨ p.ty = cl.ty then .ok p else .error 70 from by unfold cellR; rw [hf])
                rw [hf] at HC
                clear hf
                go_wp2_with (first
                  | (go_at_call 27; (with_reducible refine HC.out.mono ?_); rintro e w5 ⟨hB5, A5, c5, q5, rfl, hN5⟩
                     have HB5 := Lib.hid hB5
                     have HN5 := Lib.hid hN5
                     clear hB5 hN5)
                  | fail)
                have HBZ := Lib.hid (HB5.out.alloc HB5.out.size (.cells #[.int .i64 p.kind, .string p.op, .int .i64 (clD p.lit).k, .int .i64 (clD p.lit).n, .float .f64 (clD p.lit).f, .string (clD p.lit).s, .int .i64 p.pos, .bool p.neg, .int .i64 p.ty, .slice A5 q5 c5] 54))
                have HZR := Lib.hid (heap_alloc_new w5 (.cells #[.int .i64 p.kind, .string p.op, .int .i64 (clD p.lit).k, .int .i64 (clD p.lit).n, .float .f64 (clD p.lit).f, .string (clD p.lit).s, .int .i64 p.pos, .bool p.neg, .int .i64 p.ty, .slice A5 q5 c5] 54))
                have HNZ := Lib.hid (HN5.out.keep (below1 w5 (.cells #[.int .i64 p.kind, .string p.op, .int .i64 (clD p.lit).k, .int .i64 (clD p.lit).n, .float .f64 (clD p.lit).f, .string (clD p.lit).s, .int .i64 p.pos, .bool p.neg, .int .i64 p.ty, .slice A5 q5 c5] 54)))
                have HZB := Lib.hid HB5.out.size
                rename_i K2 hK2
                generalize hzb : w5.heap.size = zb at HZR HZB ⊢
                generalize hW5 : w5.alloc (.cells #[.int .i64 p.kind, .string p.op, .int .i64 (clD p.lit).k, .int .i64 (clD p.lit).n, .float .f64 (clD p.lit).f, .string (clD p.lit).s, .int .i64 p.pos, .bool p.neg, .int .i64 p.ty, .slice A5 q5 c5] 54) = W5 at HBZ HZR HNZ ⊢
                clear hW5 hzb HB5 HN5
                have HLQ := Lib.hid hcl
                clear t0 t1 t2 t3 t4 t5 t6 t7 t8 t9 hlr leb HC
                have HBX := Lib.hid (HD.out.bx.keep HBZ.out)
                have h1 : W5.cell? ⟨w.heap.size, 1, none⟩ = some (.slice ca cs.length cc) := cell_of_row _ _ 1 _ _ _ (HBX.out.row0 _ _ rfl)
                have a1 : W5.cell? ⟨w.heap.size, 1, none⟩ = some (.slice (some ⟨cb, co, none⟩) q cc) := by
                  rw [h1, HEC.out, HQ.out]
                clear h1
                obtain ⟨z0, z1, z2, z3, z4, z5, z6, z7, z8, z9⟩ := row10 HZR.out
                have ct := cell_kept HCY.out (HD.out.bx.below.trans (HBZ.out.mono HD.out.bx.below.size))
                have la := heap_lt (HBX.out.row0 _ _ rfl)
                have lz := heap_lt HZR.out
                have cbl : cb < W5.heap.size := Nat.lt_of_lt_of_le HCB.out (HD.out.bx.below.trans (HBZ.out.mono HD.out.bx.below.size)).size
                by_cases hty : p.ty = 0 ∨ p.ty = cl.ty
                · have HRN := Lib.hid (row_snoc HCT.out HCX.out HRW.out (HF.out.trans (if_pos hty)))
                  have HTY := Lib.hid hty
                  clear hty
                  have HKQ := Lib.hid (show ∀ a' w', (S16 w (some ⟨lb, lo, none⟩) m lc a' ∧ a'.tmps.getD 7 undef = .int .i64 i ∧ a'.tmps.getD 6 undef = v6 ∧ a'.tmps.getD 9 undef = .int .i64 c ∧ a'.tmps.getD 8 undef = v8 ∧ a'.tmps.getD 10 undef = .pointer (some ⟨zb, 0, none⟩) ∧ a'.tmps.getD 70 undef = .bool false ∧ Hid (Below w2.heap.size w2 w') ∧ Hid (w'.heap[zb]? = some (.cells #[.int .i64 p.kind, .string p.op, .int .i64 (clD p.lit).k, .int .i64 (clD p.lit).n, .float .f64 (clD p.lit).f, .string (clD p.lit).s, .int .i64 p.pos, .bool p.neg, .int .i64 p.ty, .slice A5 q5 c5] 54)) ∧ Hid (NdAt clD (w2.heap.size ≤ ·) w' n (ndL p (clD p.lit) A5 q5 c5) p)) → K2 a' w' from by
                    rintro a w' ⟨hS, h7, h6, h9, h8, h10, h70, hB, hZ, hN⟩
                    refine hK2 _ _ ?_
                    clear a1 ct la cbl lz z0 z1 z2 z3 z4 z5 z6 z7 z8 z9
                    obtain ⟨u, hu, hug⟩ := open80 hS.size
                    have p1 := hS.s1; have p2 := hS.s2; have p4 := hS.s4; have p5 := hS.s5
                    have hdf := hS.df
                    rw [hug _ (by omega)] at p1 p2 p4 p5 h7 h6 h9 h8 h10 h70
                    obtain ⟨tm, df⟩ := a
                    dsimp only at hu hdf
                    subst hu hdf
                    clear hS hug
                    rw [p1, p2, p4, p5, h7, h6, h9, h8, h10, h70]
                    clear p1 p2 p4 p5 h7 h6 h9 h8 h10 h70
                    obtain ⟨z0, z1, z2, z3, z4, z5, z6, z7, z8, z9⟩ := row10 hZ.out
                    have lz := heap_lt hZ.out
                    go_wp2_with (first
                      | (at_builtin; refine list_one 45 54 10 112 nodeZ Tryz.underlying45 info54 rfl (by omega) (by omega) _ rfl _ _ rfl (w.heap.size + 1) v8 vs.length vs.flatten rfl ((HD.out.keep hB.out).keep (below1 w' _)).own8 _ 1 (ndL p (clD p.lit) A5 q5 c5) rfl rfl rfl (heap_alloc_new w' _) ?c3 ?c4 ?_)
                      | fail)
                    case c3 => have h1 := HVL.out; have h2 := HLQ.out; have h3 := HQ.out; omega
                    case c4 => have h1 := (HD.out.keep hB.out).hz; rw [World.size_alloc]; omega
                    intro v9 w9 hown hgr hv9
                    obtain ⟨A9, c9, rfl⟩ := own_slice hown
                    have HM := Lib.hid (HD.out.app8 (hB.out.alloc hB.out.size _) (hN.out.keep (below1 w' _)) hown hgr (by rw [World.size_alloc]; exact hv9))
                    clear hown hgr hv9 z0 z1 z2 z3 z4 z5 z6 z7 z8 z9 lz
                    go_wp2_with fail
                    refine ⟨⟨⟨?_, ?_, ?_, ?_, ?_, ?_⟩, ?_, ?_, c + 1, .slice A9 (vs.length + 1) c9, vs ++ [ndL p (clD p.lit) A5 q5 c5], ps ++ [p], by omega, ?_, ?_, Lib.hid (by rw [List.length_append, HVL.out]; rfl), Lib.hid (by rw [List.length_append, HPL.out]; rfl), HRN, HM⟩, ?_⟩
                    all_goals first | rfl | skip
                    show q - (intOf (.int .i64 _)).toNat < q - (intOf (.int .i64 _)).toNat
                    simp [intOf] <;> omega)
                  clear hK2
                  by_cases hp0 : p.ty = 0
                  · clear z8
                    have z8 : W5.cell? ⟨zb, 8, none⟩ = some (.int .i64 0) := by rw [← hp0]; exact cell_of_row _ _ 8 _ _ _ HZR.out
                    clear hp0
                    go_quiet ((fail))
                    refine HKQ.out _ _ ⟨⟨?_, ?_, ?_, ?_, ?_, ?_⟩, ?_, ?_, ?_, ?_, ?_, ?_, Lib.hid (below_drewN HBZ.out nq), Lib.hid (((below_drewN (Below.refl W5.heap.size W5) nq).block _ lz).trans HZR.out), Lib.hid (HNZ.out.keep (below_drewN (Below.refl W5.heap.size W5) nq))⟩ <;> rfl
                  · have hpc : p.ty = cl.ty := HTY.out.resolve_left hp0
                    rw [← hpc] at ct
                    have n0 : (p.ty == 0) = false := beq_eq_false_iff_ne.2 hp0
                    have n1 : (p.ty != 0) = true := by unfold bne; rw [n0]; rfl
                    have n2 : (p.ty = 0) = False := eq_false hp0
                    clear hpc hp0
                    go_quiet ((fail))
                    refine HKQ.out _ _ ⟨⟨?_, ?_, ?_, ?_, ?_, ?_⟩, ?_, ?_, ?_, ?_, ?_, ?_, Lib.hid (below_drewN HBZ.out nq), Lib.hid (((below_drewN (Below.refl W5.heap.size W5) nq).block _ lz).trans HZR.out), Lib.hid (HNZ.out.keep (below_drewN (Below.refl W5.heap.size W5) nq))⟩ <;> rfl
                · have HRN := Lib.hid (HERR.out 70 (lines_fail HJ.out HLN.out (by unfold lineR; rw [if_pos (by rw [List.length_map]; exact HQX.out)]; exact row_fail HCT.out HCX.out HRW.out (HF.out.trans (if_neg hty)))))
                  have hp0 : ¬ p.ty = 0 := fun h => hty (.inl h)
                  have hpc : ¬ p.ty = cl.ty := fun h => hty (.inr h)
                  have n0 : (p.ty == 0) = false := beq_eq_false_iff_ne.2 hp0
                  have n1 : (p.ty != 0) = true := by unfold bne; rw [n0]; rfl
                  have n2 : (p.ty = 0) = False := eq_false hp0
                  have m0 : (p.ty == cl.ty) = false := beq_eq_false_iff_ne.2 hpc
                  have m1 : (p.ty != cl.ty) = true := by unfold bne; rw [m0]; rfl
                  have m2 : (p.ty = cl.ty) = False := eq_false hpc
                  clear hty hp0 hpc
                  have HKQ := Lib.hid (show ∀ a' w', (S16 w (some ⟨lb, lo, none⟩) m lc a' ∧ a'.tmps.getD 7 undef = .int .i64 i ∧ a'.tmps.getD 6 undef = v6 ∧ a'.tmps.getD 9 undef = .int .i64 c ∧ a'.tmps.getD 8 undef = v8 ∧ a'.tmps.getD 10 undef = .pointer (some ⟨zb, 0, none⟩) ∧ a'.tmps.getD 70 undef = .bool true ∧ Hid (Below w2.heap.size w2 w') ∧ Hid (w'.heap[zb]? = some (.cells #[.int .i64 p.kind, .string p.op, .int .i64 (clD p.lit).k, .int .i64 (clD p.lit).n, .float .f64 (clD p.lit).f, .string (clD p.lit).s, .int .i64 p.pos, .bool p.neg, .int .i64 p.ty, .slice A5 q5 c5] 54)) ∧ Hid (NdAt clD (w2.heap.size ≤ ·) w' n (ndL p (clD p.lit) A5 q5 c5) p)) → K2 a' w' from by
                    rintro a w' ⟨hS, h7, h6, h9, h8, h10, h70, hB, hZ, hN⟩
                    refine hK2 _ _ ?_
                    clear a1 ct la cbl lz z0 z1 z2 z3 z4 z5 z6 z7 z8 z9
                    obtain ⟨u, hu, hug⟩ := open80 hS.size
                    have p1 := hS.s1; have p2 := hS.s2; have p4 := hS.s4; have p5 := hS.s5
                    have hdf := hS.df
                    rw [hug _ (by omega)] at p1 p2 p4 p5 h7 h6 h9 h8 h10 h70
                    obtain ⟨tm, df⟩ := a
                    dsimp only at hu hdf
                    subst hu hdf
                    clear hS hug
                    rw [p1, p2, p4, p5, h7, h6, h9, h8, h10, h70]
                    clear p1 p2 p4 p5 h7 h6 h9 h8 h10 h70
                    go_wp2_with fail
                    refine bodyPost_ret (res_tt rfl rfl rfl) rfl ?_
                    rw [HRN.out]
                    exact ⟨HD.out.bx.below.trans (hB.out.mono HD.out.bx.below.size), rfl⟩)
                  clear hK2
                  go_quiet ((fail))
                  refine HKQ.out _ _ ⟨⟨?_, ?_, ?_, ?_, ?_, ?_⟩, ?_, ?_, ?_, ?_, ?_, ?_, Lib.hid (below_drewN HBZ.out nq), Lib.hid (((below_drewN (Below.refl W5.heap.size W5) nq).block _ lz).trans HZR.out), Lib.hid (HNZ.out.keep (below_drewN (Below.refl W5.heap.size W5) nq))⟩ <;> rfl
            · obtain rfl : c = q := by omega
              have hcn : ((c : Int) < (c : Int)) = False := eq_false (by omega)
              have hlq : r.xs.length = c := HQX.out.trans HQ.out.symm
              have hlr := cell_kept HLW.out HD.out.bx.below
              rw [hlq] at hlr
              have HLI := Lib.hid (show lineR (bindR n [] false) (cs.map Col.ty) r = .ok ps from by
                have h := HRW.out
                rw [List.take_of_length_le (by rw [List.length_map]; have := HQ.out; omega), List.take_of_length_le (by omega)] at h
                unfold lineR
                rw [if_pos (by rw [List.length_map]; exact HQX.out)]
                exact h)
              obtain ⟨A8, c8, rfl⟩ := own_slice HD.out.own8
              go_wp2_with (first
                | (at_builtin; refine list_one 66 45 1 24 (.slice none 0 0) Tryz.underlying66 info45 rfl (by omega) (by omega) _ rfl _ _ rfl (w.heap.size + 1) v6 RS.length (RS.map rowV) rfl (HD.out.keep (below1 w2 _)).own6 _ 1 [.slice A8 vs.length c8] rfl rfl rfl (heap_alloc_new w2 _) ?c3 ?c4 ?_)
                | fail)
              case c3 => have := HRL.out; omega
              case c4 => have := HD.out.hz; rw [World.size_alloc]; omega
              intro v9 w9 hown hgr hv9
              have HM := Lib.hid (HD.out.done (below1 w2 _) hown hgr (by rw [World.size_alloc]; exact hv9))
              clear hown hgr hv9
              go_wp2_with fail
              refine ⟨⟨⟨?_, ?_, ?_, ?_, ?_, ?_⟩, i + 1, v9, RS ++ [⟨A8, c8, vs⟩], pss ++ [ps], by omega, ?_, ?_, Lib.hid (by rw [List.length_append, HRL.out]; rfl), Lib.hid (lines_snoc HJ.out HLN.out HLI.out), HM⟩, ?_⟩
              all_goals first | rfl | skip
              show m - (intOf (.int .i64 _)).toNat < m - (intOf (.int .i64 _)).toNat
              simp [intOf] <;> omega)
        clear hK2
        have HD9 := Lib.hid (HD.out.keep (Below.refl _ wr).drew)
        go_region_law fail
        all_goals (refine HKQ.out _ _ ⟨⟨?_, ?_, ?_, ?_, ?_, ?_⟩, ?_, ?_, ?_, HD9⟩ <;> rfl)
      · have n0 : ((r.xs.length : Int) == (cs.length : Int)) = false := beq_eq_false_iff_ne.2 (fun h => hq (by omega))
        have n1 : ((r.xs.length : Int) != (cs.length : Int)) = true := by unfold bne; rw [n0]; rfl
        have n2 : ((r.xs.length : Int) = (cs.length : Int)) = False := eq_false (fun h => hq (by omega))
        have n3 : (r.xs.length = cs.length) = False := eq_false hq
        have n4 : (r.xs.length == cs.length) = false := beq_eq_false_iff_ne.2 hq
        have HRR := Lib.hid (HERR.out 7 (lines_fail HJ.out HLN.out (by unfold lineR; rw [if_neg (by rw [List.length_map]; exact hq)])))
        rename_i K2 hK2
        have HKQ := Lib.hid (show ∀ a' w', (S16 w (some ⟨lb, lo, none⟩) m lc a' ∧ a'.tmps.getD 32 undef = .bool true ∧ Hid (Below w.heap.size w w')) → K2 a' w' from by
          rintro a w' ⟨hS, h32, HB⟩
          refine hK2 _ _ ?_
          clear t0 t1 t2 t3 t4 hlr n0 n1 n2 n3 n4 HD
          obtain ⟨u, hu, hug⟩ := open80 hS.size
          have p1 := hS.s1; have p2 := hS.s2; have p4 := hS.s4; have p5 := hS.s5
          have hdf := hS.df
          rw [hug _ (by omega)] at p1 p2 p4 p5 h32
          obtain ⟨tm, df⟩ := a
          dsimp only at hu hdf
          subst hu hdf
          clear hS hug
          rw [p1, p2, p4, p5, h32]
          clear p1 p2 p4 p5 h32
          go_wp2_with fail
          refine bodyPost_ret (res_tt rfl rfl rfl) rfl ?_
          rw [HRR.out]
          exact ⟨HB.out, rfl⟩)
        clear hK2
        have HD9 := Lib.hid (HD.out.bx.below.trans ((Below.refl wr.heap.size wr).drew.mono HD.out.bx.below.size))
        go_region_law fail
        all_goals (refine HKQ.out _ _ ⟨⟨?_, ?_, ?_, ?_, ?_, ?_⟩, ?_, HD9⟩ <;> rfl)
    · obtain rfl : i = m := by omega
      have hin : ((i : Int) < (i : Int)) = False := eq_false (by omega)
      have HLF := HLN.out
      rw [List.take_of_length_le (by have := HML.out; omega)] at HLF
      go_wp2_with fail
      refine HK.out _ _ (HSEG.out v6 RS pss _ _ ⟨?_, ?_, ?_, ?_, ?_, ?_⟩ ?_ HD.out HLF)
      all_goals rfl
end Go.Proofs.YthdmfaepjemopaaGreatDoor
namespace Go.Proofs.YthdmfaepjemopaaGreatDoor
open Go.RowKit

set_option maxRecDepth 100000 in
set_option maxHeartbeats 16000000 in
theorem rr5 (n : Nat) (w : World) (tn : ByteArray) (ca : Option Addr) (cs : List Col) (cc : Nat) (ro ne rn : Int) (LA : Option Addr) (l : List XRow) (lc : Nat) (R : Except Int (List (List Nd))) (v6 : Value) (RS : List NRow) (pss : List (List Nd)) (a : Act) (W : World) (hS : S16 w LA l.length lc a) (h6 : a.tmps.getD 6 undef = v6) (hD : DR clD n w [.cells #[.string tn, .slice ca cs.length cc, .int .i64 ro, .int .i64 ne, .int .i64 rn] 65] (w.heap.size + 1) v6 RS pss (.slice none 0 0) [] [] W) (hR : R = .ok pss) : (rrC 5).wp Tryz.prog (bodyPost Tryz.prog Tryz.f16 (RRowsO n w R)) a W := by
  obtain ⟨A, c, rfl, hC, _⟩ := hD.cells
  have HD := Lib.hid hD
  have HC := Lib.hid hC
  have HR := Lib.hid hR
  clear hD hC hR
  obtain ⟨u, hu, hug⟩ := open80 hS.size
  have p1 := hS.s1; have p2 := hS.s2; have p4 := hS.s4; have p5 := hS.s5
  have hdf := hS.df
  rw [hug _ (by omega)] at p1 p2 p4 p5 h6
  obtain ⟨tm, df⟩ := a
  dsimp only at hu hdf
  subst hu hdf
  clear hS hug
  rw [p1, p2, p4, p5, h6]
  clear p1 p2 p4 p5 h6
  conv => arg 2; whnf
  go_wp2_with fail
  refine bodyPost_ret (res_tt rfl rfl rfl) rfl ?_
  rw [HR.out]
  exact ⟨HD.out.bx.below, A, c, RS, rfl, HC.out, HD.out.rows.mono fun b hb _ => Nat.le_trans (Nat.le_add_right _ _) hb.1⟩
theorem rrows_any (n : Nat) (w : World) (tn : ByteArray) (ca : Option Addr) (cs : List Col) (cc : Nat) (ro ne rn : Int) (LA : Option Addr) (l : List XRow) (lc : Nat) (hca : ColsAt w ca cs) (hcl : cs.length ≤ 1000) (hX : XRowsAt w n LA l) : Calls Tryz.prog 16 #[.agg #[.string tn, .slice ca cs.length cc, .int .i64 ro, .int .i64 ne, .int .i64 rn], .slice LA l.length lc] w (RRowsO n w (rowsR (bindR n [] false) (cs.map Col.ty) l)) := by
  by_cases h0 : l = []
  · exact rr0_e n w tn ca cs cc ro ne rn LA l lc h0
  · by_cases h16 : 16 < l.length
    · exact rr0_m n w tn ca cs cc ro ne rn LA l lc h16
    · have e : rowsR (bindR n [] false) (cs.map Col.ty) l = linesR (bindR n [] false) (cs.map Col.ty) l := by unfold rowsR; rw [if_neg h0, if_neg h16]
      refine rr0_g n w tn ca cs cc ro ne rn LA l lc h0 (by omega) fun a W hS h6 hM => ?_
      exact rr4 n w tn ca cs cc ro ne rn LA l lc hca hcl hX (by omega) _ (fun er h => e.trans h) (fun v6 RS pss a W hS h6 hD hl => rr5 n w tn ca cs cc ro ne rn LA l lc _ v6 RS pss a W hS h6 hD (e.trans hl)) a W hS h6 hM
end Go.Proofs.YthdmfaepjemopaaGreatDoor
namespace Go.Proofs.YthdmfaepjemopaaGreatDoor
open Go.RowKit

noncomputable def prC (k : Nat) : Code := dropC k (Tryz.f15.body.getD .skip)
set_option maxRecDepth 100000 in
theorem open66 {a : Act} (h : a.tmps.size = 66) : ∃ u : Nat → Value, a.tmps = #[u 0, u 1, u 2, u 3, u 4, u 5, u 6, u 7, u 8, u 9, u 10, u 11, u 12, u 13, u 14, u 15, u 16, u 17, u 18, u 19, u 20, u 21, u 22, u 23, u 24, u 25, u 26, u 27, u 28, u 29, u 30, u 31, u 32, u 33, u 34, u 35, u 36, u 37, u 38, u 39, u 40, u 41, u 42, u 43, u 44, u 45, u 46, u 47, u 48, u 49, u 50, u 51, u 52, u 53, u 54, u 55, u 56, u 57, u 58, u 59, u 60, u 61, u 62, u 63, u 64, u 65] ∧ ∀ t, t < 66 → a.tmps.getD t undef = u t := by
  refine ⟨fun t => a.tmps.getD t undef, ?_, fun t _ => rfl⟩
  have e : a.tmps = ((List.range 66).map fun t => a.tmps.getD t undef).toArray := by
    apply Array.ext
    · simp [h]
    · intro i h1 h2
      simp [h1]
  exact e
def PRowsO (n : Nat) (w : World) (r : Except Int (List (List Nd))) (e : Ending) (w' : World) : Prop := Below w.heap.size w w' ∧ match r with
  | .ok pss => ∃ (A : Option Addr) (c : Nat) (RS : List NRow), e = .returned (.tuple #[.slice A RS.length c, .int .i64 0]) ∧ CellsAt w' 1 A (RS.map fun R => [rowV R]) ∧ NRowsAt clP (w.heap.size ≤ ·) w' n RS pss
  | .error er => e = .returned (.tuple #[.slice none 0 0, .int .i64 er])
structure S15 (w : World) (a : Act) : Prop where
  size : a.tmps.size = 66
  df : a.defers = [{ target := .fn (.func 21) #[], args := #[.pointer (some ⟨w.heap.size + 1, 0, none⟩)] }]
  s2 : a.tmps.getD 2 undef = .pointer (some ⟨w.heap.size, 0, none⟩)
  s4 : a.tmps.getD 4 undef = .slice none 0 0
  s5 : a.tmps.getD 5 undef = .pointer (some ⟨w.heap.size + 1, 0, none⟩)
theorem res_te {fn : Func} {i j : Nat} (h : fn.results = #[.tmp i, .cell j 49]) {tm : Array Value} {W : World} {s : Value} {eb : Nat} (hp : tm[i]?.getD undef = s) (he : tm[j]?.getD undef = .pointer (some ⟨eb, 0, none⟩)) {e0 : Value} {ty : TypeId} (h2 : W.heap[eb]? = some (.cells #[e0] ty)) : (results fn tm).run Tryz.prog W = .ok (.tuple #[s, e0]) W := by
  have b0 := cell_of_row _ _ 0 _ _ _ h2
  simp [results, h, go_sem, hp, he, b0]
theorem rows_pan {n : Nat} {w : World} {O : Obj} {er : Int} {tm : Array Value} {W : World} {R : Except Int (List (List Nd))} (hM : BX w [O, .cells #[.int .i64 0] 49] W) (hR : R = .error er) (h4 : tm[4]?.getD undef = .slice none 0 0) (h5 : tm[5]?.getD undef = .pointer (some ⟨w.heap.size + 1, 0, none⟩)) :
    Leaves Tryz.prog Tryz.f15 tm (PRowsO n w R) [{ target := .fn (.func 21) #[], args := #[.pointer (some ⟨w.heap.size + 1, 0, none⟩)] }] (.panicking [{ v := .iface 49 (.int .i64 er), recovered := false }]) W := by
  subst hR
  refine leaves_cons (f := 21) (args := #[.pointer (some ⟨w.heap.size + 1, 0, none⟩)]) (by simp) (by simp [go_sem]) ?_
  have r1 := hM.row 1 _ _ rfl
  refine (give_panic _ 0 er [] W (cell_of_row _ _ 0 _ _ _ r1) (frozen_of_row _ _ 0 _ _ r1)).mono ?_
  rintro e u' w3 ⟨rfl, rfl, rfl⟩
  have HF := hM.set (k := 1) rfl 0 (.int .i64 er)
  exact ⟨_, res_te (fn := Tryz.f15) rfl h4 h5 (HF.row 1 _ _ rfl), HF.below, rfl⟩
set_option maxRecDepth 100000 in
set_option maxHeartbeats 16000000 in
theorem pr0_e (n : Nat) (w : World) (tn : ByteArray) (ca : Option Addr) (cs : List Col) (cc : Nat) (ro ne rn : Int) (LA : Option Addr) (l : List XRow) (lc : Nat) (hl : l = []) : Calls Tryz.prog 15 #[.agg #[.string tn, .slice ca cs.length cc, .int .i64 ro, .int .i64 ne, .int .i64 rn], .slice LA l.length lc] w (PRowsO n w (rowsR (bindR n [] false) (cs.map Col.ty) l)) := by
  rw [show rowsR (bindR n [] false) (cs.map Col.ty) l = .error 7 from by unfold rowsR; rw [if_pos hl]]
  have HM := Lib.hid (BX.two w (.cells #[.string tn, .slice ca cs.length cc, .int .i64 ro, .int .i64 ne, .int .i64 rn] 65) (.cells #[.int .i64 0] 49))
  obtain ⟨m, hm⟩ : ∃ m, m = l.length := ⟨_, rfl⟩
  have HML := Lib.hid hm
  rw [← hm]
  clear hm
  have HY7 := fun w => check_yes 7 w
  have HN7 := fun w => check_no 7 w
  have HY11 := fun w => check_yes 11 w
  have HN11 := fun w => check_no 11 w
  go_enter_defers Tryz.func15, Tryz.ntmps15
  obtain rfl : m = 0 := by rw [HML.out, hl]; rfl
  go_wp2_with (first
    | (go_at_call 24; (with_reducible refine (HN7 _).mono ?_); rintro e w0 ⟨rfl, rfl⟩)
    | fail)
  refine rows_pan HM.out ?_ ?_ ?_ <;> rfl
set_option maxRecDepth 100000 in
set_option maxHeartbeats 16000000 in
theorem pr0_m (n : Nat) (w : World) (tn : ByteArray) (ca : Option Addr) (cs : List Col) (cc : Nat) (ro ne rn : Int) (LA : Option Addr) (l : List XRow) (lc : Nat) (hl : 16 < l.length) : Calls Tryz.prog 15 #[.agg #[.string tn, .slice ca cs.length cc, .int .i64 ro, .int .i64 ne, .int .i64 rn], .slice LA l.length lc] w (PRowsO n w (rowsR (bindR n [] false) (cs.map Col.ty) l)) := by
  rw [show rowsR (bindR n [] false) (cs.map Col.ty) l = .error 11 from by unfold rowsR; rw [if_neg (fun h => by rw [h] at hl; exact absurd hl (by decide)), if_pos hl]]
  have HM := Lib.hid (BX.two w (.cells #[.string tn, .slice ca cs.length cc, .int .i64 ro, .int .i64 ne, .int .i64 rn] 65) (.cells #[.int .i64 0] 49))
  obtain ⟨m, hm⟩ : ∃ m, m = l.length := ⟨_, rfl⟩
  have HML := Lib.hid hm
  rw [← hm]
  clear hm
  have HY7 := fun w => check_yes 7 w
  have HN7 := fun w => check_no 7 w
  have HY11 := fun w => check_yes 11 w
  have HN11 := fun w => check_no 11 w
  go_enter_defers Tryz.func15, Tryz.ntmps15
  have h0 : ((0 : Int) < (m : Int)) = True := eq_true (by have := HML.out; omega)
  have h0n : (0 < m) = True := eq_true (by have := HML.out; omega)
  have h2n : (m ≤ 16) = False := eq_false (by have := HML.out; omega)
  have h2 : ((m : Int) ≤ 16) = False := eq_false (by have := HML.out; omega)
  go_wp2_with (first
    | (go_at_call 24; (with_reducible refine (HY7 _).mono ?_); rintro e w0 ⟨rfl, rfl⟩)
    | (go_at_call 24; (with_reducible refine (HN11 _).mono ?_); rintro e w0 ⟨rfl, rfl⟩)
    | fail)
  refine rows_pan HM.out ?_ ?_ ?_ <;> rfl
set_option maxRecDepth 100000 in
set_option maxHeartbeats 16000000 in
theorem pr0_g (n : Nat) (w : World) (tn : ByteArray) (ca : Option Addr) (cs : List Col) (cc : Nat) (ro ne rn : Int) (LA : Option Addr) (l : List XRow) (lc : Nat) (hl : l ≠ []) (h16 : l.length ≤ 16) (R : Except Int (List (List Nd))) (HSEG : ∀ a W, S15 w a → a.tmps.getD 1 undef = .slice LA l.length lc → a.tmps.getD 6 undef = .slice none 0 0 → BX w [.cells #[.string tn, .slice ca cs.length cc, .int .i64 ro, .int .i64 ne, .int .i64 rn] 65, .cells #[.int .i64 0] 49] W → (prC 5).wp Tryz.prog (bodyPostD Tryz.prog Tryz.f15 (PRowsO n w R)) a W) : Calls Tryz.prog 15 #[.agg #[.string tn, .slice ca cs.length cc, .int .i64 ro, .int .i64 ne, .int .i64 rn], .slice LA l.length lc] w (PRowsO n w R) := by
  have HM := Lib.hid (BX.two w (.cells #[.string tn, .slice ca cs.length cc, .int .i64 ro, .int .i64 ne, .int .i64 rn] 65) (.cells #[.int .i64 0] 49))
  obtain ⟨m, hm⟩ : ∃ m, m = l.length := ⟨_, rfl⟩
  have HML := Lib.hid hm
  rw [← hm]
  clear hm
  have HY7 := fun w => check_yes 7 w
  have HY11 := fun w => check_yes 11 w
  have hp := List.length_pos_iff.2 hl
  have h0 : ((0 : Int) < (m : Int)) = True := eq_true (by have := HML.out; omega)
  have h2 : ((m : Int) ≤ 16) = True := eq_true (by have := HML.out; omega)
  have h0n : (0 < m) = True := eq_true (by have := HML.out; omega)
  have h2n : (m ≤ 16) = True := eq_true (by have := HML.out; omega)
  have HS := Lib.hid HSEG
  clear HSEG
  go_enter_defers Tryz.func15, Tryz.ntmps15
  refine wp_seq_k fun K0 hK0 => ?_
  have HK0 := Lib.hid hK0
  clear hK0
  go_wp2_with (first
    | (go_at_call 24; (with_reducible refine (HY7 _).mono ?_); rintro e w0 ⟨rfl, rfl⟩)
    | (go_at_call 24; (with_reducible refine (HY11 _).mono ?_); rintro e w0 ⟨rfl, rfl⟩)
    | fail)
  refine HK0.out _ _ ?_
  refine wp_seq_k fun K1 hK1 => ?_
  have HK1 := Lib.hid hK1
  clear hK1
  go_wp2_with (first
    | (go_at_call 24; (with_reducible refine (HY7 _).mono ?_); rintro e w0 ⟨rfl, rfl⟩)
    | (go_at_call 24; (with_reducible refine (HY11 _).mono ?_); rintro e w0 ⟨rfl, rfl⟩)
    | fail)
  refine HK1.out _ _ ?_
  refine wp_seq_k fun K2 hK2 => ?_
  have HK2 := Lib.hid hK2
  clear hK2
  go_wp2_with (first
    | (go_at_call 24; (with_reducible refine (HY7 _).mono ?_); rintro e w0 ⟨rfl, rfl⟩)
    | (go_at_call 24; (with_reducible refine (HY11 _).mono ?_); rintro e w0 ⟨rfl, rfl⟩)
    | fail)
  refine HK2.out _ _ ?_
  refine wp_seq_k fun K3 hK3 => ?_
  have HK3 := Lib.hid hK3
  clear hK3
  go_wp2_with (first
    | (go_at_call 24; (with_reducible refine (HY7 _).mono ?_); rintro e w0 ⟨rfl, rfl⟩)
    | (go_at_call 24; (with_reducible refine (HY11 _).mono ?_); rintro e w0 ⟨rfl, rfl⟩)
    | fail)
  refine HK3.out _ _ ?_
  refine wp_seq_k fun K4 hK4 => ?_
  have HK4 := Lib.hid (show ∀ a w', (prC 5).wp Tryz.prog (bodyPostD Tryz.prog Tryz.f15 (PRowsO n w R)) a w' → K4 a w' from hK4)
  clear hK4
  go_wp2_with (first
    | (go_at_call 24; (with_reducible refine (HY7 _).mono ?_); rintro e w0 ⟨rfl, rfl⟩)
    | (go_at_call 24; (with_reducible refine (HY11 _).mono ?_); rintro e w0 ⟨rfl, rfl⟩)
    | fail)
  rw [HML.out]
  refine HK4.out _ _ (HS.out _ _ ⟨?_, ?_, ?_, ?_, ?_⟩ ?_ ?_ HM.out)
  all_goals rfl
set_option maxRecDepth 100000 in
set_option maxHeartbeats 16000000 in
theorem pr6 (n : Nat) (w : World) (tn : ByteArray) (ca : Option Addr) (cs : List Col) (cc : Nat) (ro ne rn : Int) (_LA : Option Addr) (_l : List XRow) (_lc : Nat) (R : Except Int (List (List Nd))) (v6 : Value) (RS : List NRow) (pss : List (List Nd)) (a : Act) (W : World) (hS : S15 w a) (h6 : a.tmps.getD 6 undef = v6) (hD : DR clP n w [.cells #[.string tn, .slice ca cs.length cc, .int .i64 ro, .int .i64 ne, .int .i64 rn] 65, .cells #[.int .i64 0] 49] (w.heap.size + 2) v6 RS pss (.slice none 0 0) [] [] W) (hR : R = .ok pss) : (prC 6).wp Tryz.prog (bodyPostD Tryz.prog Tryz.f15 (PRowsO n w R)) a W := by
  obtain ⟨A, c, rfl, hC, hb⟩ := hD.cells
  have HD := Lib.hid hD
  have HC := Lib.hid hC
  have HR := Lib.hid hR
  have HB := Lib.hid hb
  have HX := Lib.hid (hD.bx.set (k := 1) rfl 0 (.int .i64 0))
  have c1 := cell_of_row _ _ 0 _ _ _ (hD.bx.row 1 _ _ rfl)
  have f1 := frozen_of_row _ _ 0 _ _ (hD.bx.row 1 _ _ rfl)
  have l1 := heap_lt (hD.bx.row 1 _ _ rfl)
  clear hD hC hR hb
  obtain ⟨u, hu, hug⟩ := open66 hS.size
  have p2 := hS.s2; have p4 := hS.s4; have p5 := hS.s5
  have hdf := hS.df
  rw [hug _ (by omega)] at p2 p4 p5 h6
  obtain ⟨tm, df⟩ := a
  dsimp only at hu hdf
  subst hu hdf
  clear hS hug
  rw [p2, p4, p5, h6]
  clear p2 p4 p5 h6
  conv => arg 2; whnf
  go_wp2_with fail
  refine door_idle ⟨_, res_te (fn := Tryz.f15) rfl rfl rfl (HX.out.row 1 _ _ rfl), ?_⟩
  rw [HR.out]
  have hg := set_grown W (w.heap.size + 1) 0 (.int .i64 0)
  refine ⟨HX.out.below, A, c, RS, rfl, HC.out.grown hg fun _ a ha e => ?_, (HD.out.rows.grown hg fun b hb e => ?_).mono fun b hb _ => Nat.le_trans (Nat.le_add_right _ _) hb.1⟩
  · have h1 := HB.out a ha
    have h2 := Option.some.inj e
    omega
  · have h1 := hb.1
    have h2 := Option.some.inj e
    omega
end Go.Proofs.YthdmfaepjemopaaGreatDoor
