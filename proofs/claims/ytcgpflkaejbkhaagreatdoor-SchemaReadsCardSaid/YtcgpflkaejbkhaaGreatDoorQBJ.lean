/- The walk of the document's table. -/
import Derived.Test.YtcgpflkaejbkhaaGreatDoorQBI
namespace Go.Proofs.YtcgpflkaejbkhaaGreatDoor
open Go.RowKit

theorem rtab_end (S1 : Rd) (h : S1 = none) : endR (inS (inS (cnS 1600 S1))) = false := by subst h; rfl
set_option maxRecDepth 100000 in
set_option maxHeartbeats 16000000 in
theorem rtable (K V nm : ByteArray) (w : World) (hK : 1 ≤ K.size) (hnm : nm = K.extract 1 K.size) (hV : V.size ≤ 1000) : Calls Tryz.prog 53 #[.agg #[.string K, .string V]] w (TabP w nm (tabF nm (some V.data.toList))) := by
 have hsl : ∀ W, (Instr.slice 9 (.string K) (some (.int .i64 1)) none none).run Tryz.prog W = .ok (.string nm) W := fun W => by rw [hnm]; exact slice_end K _ 1 rfl (by omega) W
 have HC0 := dt_c6 V 0 (some V.data.toList)
 generalize hT : tabF nm (some V.data.toList) = T
 have hT0 : T = tabF nm (some V.data.toList) := hT.symm
 unfold tabF at hT0
 have hD0 : DocR V 0 (some V.data.toList) := ⟨hV, rfl, rfl⟩
 have hN6 : cnV 6 (some V.data.toList) ≤ 6 := cnV_le _ _
 generalize (some V.data.toList : Rd) = sV at *
 obtain ⟨N, hN⟩ : ∃ N, N = cnV 6 sV := ⟨_, rfl⟩
 obtain ⟨s0, hs0⟩ : ∃ s0, s0 = cnS 6 sV := ⟨_, rfl⟩
 rw [← hN, ← hs0] at hT0 HC0
 rw [← hN] at hN6
 have HC0 := Lib.hid (show ∀ W, Calls Tryz.prog 83 #[.agg #[.string V, .int .i64 0], .int .i64 6] W (DocStep s0 (.int .i64 (N : Nat)) W) from fun W => HC0 W hD0)
 have HN1 := Lib.hid (show ∀ j, (j = N ∨ colsS j s0 = none) → endR (inS (inS (cnS 1600 (colsS j s0)))) = true → T = some ⟨nm, colsV j s0, cnV 1600 (colsS j s0), inV (cnS 1600 (colsS j s0)), inV (inS (cnS 1600 (colsS j s0)))⟩ from fun j hj he => by
   rcases hj with rfl | hj
   · rw [hT0, if_pos he]
   · rw [rtab_end _ hj] at he; cases he)
 have HN0 := Lib.hid (show ∀ j, j ≤ N → (j = N ∨ colsS j s0 = none) → endR (inS (inS (cnS 1600 (colsS j s0)))) = false → T = none from fun j hle hj he => by
   rcases hj with rfl | hj
   · rw [hT0, if_neg (by rw [he]; decide)]
   · rw [hT0, if_neg (by rw [rtab_end _ (colsS_none hj hle)]; decide)])
 clear hT0 hT hnm hN hs0 hD0
 go_enter Tryz.func53, Tryz.ntmps53
 go_wp2_with (first
   | (go_at_call 83; (with_reducible refine (HC0.out _).mono ?_); rintro e w2 ⟨S2, e2, rfl, hd, hB2⟩
      have HD := Lib.hid hd
      have HT := Lib.hid (RTk.start w S2 e2 nm rfl rfl hB2)
      clear hB2 hd HC0)
   | fail)
 obtain ⟨rb, hrb⟩ : ∃ rb, rb = w2.heap.size := ⟨_, rfl⟩
 rw [← hrb] at HT ⊢
 clear hrb
 have n1 := HT.out.hrb
 have n2 : (rb = w.heap.size + 1 + 1) = False := eq_false (by omega)
 have n3 : (w.heap.size + 1 + 1 = rb) = False := eq_false (by omega)
 have n4 : (rb = w.heap.size + 1) = False := eq_false (by omega)
 have n5 : (w.heap.size + 1 = rb) = False := eq_false (by omega)
 go_loopw [7] (fun i wr => ∃ (j : Nat) (va : Option Addr) (vc : Nat) (S : ByteArray) (er : Int), j ≤ N ∧ i = .int .i64 j ∧ Hid (DocR S er (colsS j s0)) ∧ Hid (RTk w rb S er nm va j vc (colsV j s0) 0 0 0 wr)) (fun i _ => N - (intOf i).toNat)
 case atStart => exact ⟨0, none, 0, S2, e2, Nat.zero_le _, rfl, HD, HT⟩
 case round =>
   clear HT HD
   obtain ⟨j, va, vc, S, er, hj, rfl, HD, HT⟩ := hrel
   obtain ⟨wo, rfl⟩ : ∃ wo : World, wo = wr := ⟨_, rfl⟩
   have r0 := cell_of_row _ _ 0 _ _ _ HT.out.rd
   have r1 := cell_of_row _ _ 1 _ _ _ HT.out.rd
   by_cases hgo : j < N ∧ er = 0
   · obtain ⟨hlt, rfl⟩ := hgo
     have q1 : ((j : Int) < (N : Int)) = True := eq_true (by omega)
     have e0 : ∀ O, (wo.alloc O).cell? ⟨rb, 0, none⟩ = some (.string S) := fun O => cell_kept r0 (below1 wo O)
     have e1 : ∀ O, (wo.alloc O).cell? ⟨rb, 1, none⟩ = some (.int .i64 0) := fun O => cell_kept r1 (below1 wo O)
     have HC0 := Lib.hid (RTc.start HT.out)
     have m1 := HC0.out.nrb
     have m0 := HC0.out.hcb
     have m2 : (rb = wo.heap.size) = False := eq_false (by omega)
     have m3 : (wo.heap.size = rb) = False := eq_false (by omega)
     have m4 : (w.heap.size + 1 + 1 = wo.heap.size) = False := eq_false (by omega)
     have m5 : (wo.heap.size = w.heap.size + 1 + 1) = False := eq_false (by omega)
     clear m1 m0
     go_wp2_with (first
       | (go_at_call 84; (with_reducible refine (dt_t12 S 0 (colsS j s0) _ HD.out).mono ?_); rintro e w5 ⟨S5, e5, rfl, hd5, hB5⟩
          have HD5 := Lib.hid hd5
          have HC5 := Lib.hid (HC0.out.keep hB5)
          have a0 := cell_of_row _ _ 0 _ _ _ HC5.out.rt.rd
          have a1 := cell_of_row _ _ 1 _ _ _ HC5.out.rt.rd
          have a2 := cell_of_row _ _ 0 _ _ _ HC5.out.col
          have f0 := frozen_of_row _ _ 0 _ _ HC5.out.rt.rd
          have f1 := frozen_of_row _ _ 1 _ _ HC5.out.rt.rd
          have f2 := frozen_of_row _ _ 0 _ _ HC5.out.col
          have HR5 := Lib.hid ((HC5.out.read S5 e5).set 0 (.string (txV 12 (colsS j s0))) (c' := ⟨txV 12 (colsS j s0), 0, false⟩) rfl)
          clear hB5 hd5 HC0)
       | (go_at_call 83; (with_reducible refine (dt_c3 S5 e5 (txS 12 (colsS j s0)) _ HD5.out).mono ?_); rintro e w6 ⟨S6, e6, rfl, hd6, hB6⟩
          have HD6 := Lib.hid hd6
          have HC6 := Lib.hid (HR5.out.keep hB6)
          have b0 := cell_of_row _ _ 0 _ _ _ HC6.out.rt.rd
          have b1 := cell_of_row _ _ 1 _ _ _ HC6.out.rt.rd
          have b2 := cell_of_row _ _ 1 _ _ _ HC6.out.col
          have g0 := frozen_of_row _ _ 0 _ _ HC6.out.rt.rd
          have g1 := frozen_of_row _ _ 1 _ _ HC6.out.rt.rd
          have g2 := frozen_of_row _ _ 1 _ _ HC6.out.col
          have HR6 := Lib.hid ((HC6.out.read S6 e6).set 1 (.int .i64 (cnV 3 (txS 12 (colsS j s0)) : Nat)) (c' := ⟨txV 12 (colsS j s0), cnV 3 (txS 12 (colsS j s0)), false⟩) rfl)
          clear hB6 hd6 HC5 HR5 a0 a1 a2 f0 f1 f2)
       | (go_at_call 85; (with_reducible refine (dt_bool S6 e6 (cnS 3 (txS 12 (colsS j s0))) _ HD6.out).mono ?_); rintro e w7 ⟨S7, e7, rfl, hd7, hB7⟩
          have HD7 := Lib.hid hd7
          have HC7 := Lib.hid (HR6.out.keep hB7)
          have c0 := cell_of_row _ _ 0 _ _ _ HC7.out.rt.rd
          have c1 := cell_of_row _ _ 1 _ _ _ HC7.out.rt.rd
          have c2 : w7.cell? ⟨wo.heap.size, 0, none⟩ = some (.string (txV 12 (colsS j s0))) := cell_of_row _ _ 0 _ _ _ HC7.out.col
          have c3 : w7.cell? ⟨wo.heap.size, 1, none⟩ = some (.int .i64 (cnV 3 (txS 12 (colsS j s0)) : Nat)) := cell_of_row _ _ 1 _ _ _ HC7.out.col
          have c4 : w7.cell? ⟨wo.heap.size, 2, none⟩ = some (.bool false) := cell_of_row _ _ 2 _ _ _ HC7.out.col
          have c5 : w7.cell? ⟨w.heap.size + 1 + 1, 1, none⟩ = some (.slice va j vc) := cell_of_row _ _ 1 _ _ _ HC7.out.rt.tab
          have h0 := frozen_of_row _ _ 0 _ _ HC7.out.rt.rd
          have h1 := frozen_of_row _ _ 1 _ _ HC7.out.rt.rd
          have h2 := frozen_of_row _ _ 2 _ _ HC7.out.col
          have HR7 := Lib.hid ((HC7.out.read S7 e7).set 2 (.bool (boV (cnS 3 (txS 12 (colsS j s0))))) (c' := ⟨txV 12 (colsS j s0), cnV 3 (txS 12 (colsS j s0)), boV (cnS 3 (txS 12 (colsS j s0)))⟩) rfl)
          clear hB7 hd7 HC6 HR6 b0 b1 b2 g0 g1 g2)
       | (at_builtin; refine list_col _ rfl _ _ rfl (w.heap.size + 3) _ j ((colsV j s0).map colL).flatten rfl (own_kept HR7.out.rt.own (below1 _ _) (Nat.le_refl _)) _ 1 (colV (colsS j s0)) rfl (alloc_at _ _ _ (by simp)) ?c3 ?c4 ?_)
       | fail)
     case c3 => omega
     case c4 => have := HR7.out.hcb; have := heap_lt HR7.out.col; simp at this ⊢; omega
     intro v8 w8 hown hgr
     obtain ⟨g, cap, rfl⟩ := own_slice hown
     have HM := Lib.hid (HR7.out.more hown hgr)
     have z8 : w8.cell? ⟨w.heap.size + 1 + 1, 1, none⟩ = some (.slice va j vc) := cell_of_row _ _ 1 _ _ _ HM.out.2
     have z9 : w8.frozen? ⟨w.heap.size + 1 + 1, 1, none⟩ = false := frozen_of_row _ _ 1 _ _ HM.out.2
     clear hown hgr
     go_wp2_with fail
     go_roundw
     case rel => exact ⟨j + 1, _, _, S7, e7, by omega, by go_num, HD7, Lib.hid HM.out.1⟩
     case measure => simp [intOf] <;> omega
   · have hx : j = N ∨ colsS j s0 = none := by
       by_cases h : j = N
       · exact Or.inl h
       · exact Or.inr (HD.out.gone fun e => hgo ⟨by omega, e⟩)
     have HX := Lib.hid hx
     have HX1 := Lib.hid (HN1.out j hx)
     have HX0 := Lib.hid (HN0.out j hj hx)
     clear HN1 HN0 hx
     generalize hS4 : endR (inS (inS (cnS 1600 (colsS j s0)))) = E4 at HX1 HX0
     obtain ⟨x, hx⟩ : ∃ x : Int, x = (cnV 1600 (colsS j s0) : Nat) := ⟨_, rfl⟩
     obtain ⟨y, hy⟩ : ∃ y, y = inV (cnS 1600 (colsS j s0)) := ⟨_, rfl⟩
     obtain ⟨z, hz⟩ : ∃ z, z = inV (inS (cnS 1600 (colsS j s0))) := ⟨_, rfl⟩
     rw [← hx, ← hy, ← hz] at HX1
     have HC5 := Lib.hid (show ∀ W, Calls Tryz.prog 83 #[.agg #[.string S, .int .i64 er], .int .i64 1600] W (DocStep (cnS 1600 (colsS j s0)) (.int .i64 x) W) from fun W => by rw [hx]; exact dt_c1600 _ _ _ _ HD.out)
     have HC6 := Lib.hid (show ∀ S e W, DocR S e (cnS 1600 (colsS j s0)) → Calls Tryz.prog 86 #[.agg #[.string S, .int .i64 e]] W (DocStep (inS (cnS 1600 (colsS j s0))) (.int .i64 y) W) from fun S e W h => by rw [hy]; exact dt_int _ _ _ _ h)
     have HC7 := Lib.hid (show ∀ S e W, DocR S e (inS (cnS 1600 (colsS j s0))) → Calls Tryz.prog 86 #[.agg #[.string S, .int .i64 e]] W (DocStep (inS (inS (cnS 1600 (colsS j s0)))) (.int .i64 z) W) from fun S e W h => by rw [hz]; exact dt_int _ _ _ _ h)
     have HC8 := Lib.hid (show ∀ S e W, DocR S e (inS (inS (cnS 1600 (colsS j s0)))) → Calls Tryz.prog 87 #[.agg #[.string S, .int .i64 e]] W (fun en w' => ∃ er : Int, en = .returned (.agg #[.string S, .int .i64 er]) ∧ (er == 0) = E4 ∧ Below W.heap.size W w') from fun S e W h => by rw [← hS4]; exact dt_end _ _ _ _ h)
     clear hS4 hx hy hz
     generalize inS (inS (cnS 1600 (colsS j s0))) = S4 at HC7 HC8
     generalize inS (cnS 1600 (colsS j s0)) = S3 at HC6 HC7
     generalize cnS 1600 (colsS j s0) = S2' at HC5 HC6
     generalize colsV j s0 = cols at HT HX1
     clear HX
     by_cases hlt : j < N
     all_goals first
       | have q1 : ((j : Int) < (N : Int)) = True := eq_true (by omega)
         have q2 : (er == 0) = false := beq_eq_false_iff_ne.2 fun e => hgo ⟨hlt, e⟩
         have q3 : (er = 0) = False := eq_false fun e => hgo ⟨hlt, e⟩
       | have q1 : ((j : Int) < (N : Int)) = False := eq_false (by omega)
     all_goals
       clear hgo
       go_wp2_with (first
         | (go_at_call 83; (with_reducible refine (HC5.out _).mono ?_); rintro e w5 ⟨S5, e5, rfl, hd5, hB5⟩
            have HD5 := Lib.hid hd5
            have HT5 := Lib.hid (HT.out.keep hB5)
            have a0 := cell_of_row _ _ 0 _ _ _ HT5.out.rd
            have a1 := cell_of_row _ _ 1 _ _ _ HT5.out.rd
            have a2 : w5.cell? ⟨w.heap.size + 1 + 1, 2, none⟩ = some (.int .i64 0) := cell_of_row _ _ 2 _ _ _ HT5.out.tab
            have f0 := frozen_of_row _ _ 0 _ _ HT5.out.rd
            have f1 := frozen_of_row _ _ 1 _ _ HT5.out.rd
            have f2 : w5.frozen? ⟨w.heap.size + 1 + 1, 2, none⟩ = false := frozen_of_row _ _ 2 _ _ HT5.out.tab
            have HR5 := Lib.hid ((HT5.out.read S5 e5).setTab 2 (.int .i64 x) (x' := x) (y' := 0) (z' := 0) rfl)
            clear hB5 hd5 HT r0 r1)
         | (go_at_call 86; first
            | (with_reducible refine (HC7.out S6 e6 _ HD6.out).mono ?_
               rintro e w7 ⟨S7, e7, rfl, hd7, hB7⟩
               have HD7 := Lib.hid hd7
               have HT7 := Lib.hid (HR6.out.keep hB7)
               have c0 := cell_of_row _ _ 0 _ _ _ HT7.out.rd
               have c1 := cell_of_row _ _ 1 _ _ _ HT7.out.rd
               have c2 : w7.cell? ⟨w.heap.size + 1 + 1, 4, none⟩ = some (.int .i64 0) := cell_of_row _ _ 4 _ _ _ HT7.out.tab
               have h0 := frozen_of_row _ _ 0 _ _ HT7.out.rd
               have h1 := frozen_of_row _ _ 1 _ _ HT7.out.rd
               have h2 : w7.frozen? ⟨w.heap.size + 1 + 1, 4, none⟩ = false := frozen_of_row _ _ 4 _ _ HT7.out.tab
               have HR7 := Lib.hid (((HT7.out.read S7 e7).setTab 4 (.int .i64 z) (x' := x) (y' := y) (z' := z) rfl).keep (Below.refl _ _).drew)
               clear hB7 hd7 HT6 HR6 b0 b1 b2 g0 g1 g2)
            | (with_reducible refine (HC6.out S5 e5 _ HD5.out).mono ?_
               rintro e w6 ⟨S6, e6, rfl, hd6, hB6⟩
               have HD6 := Lib.hid hd6
               have HT6 := Lib.hid (HR5.out.keep hB6)
               have b0 := cell_of_row _ _ 0 _ _ _ HT6.out.rd
               have b1 := cell_of_row _ _ 1 _ _ _ HT6.out.rd
               have b2 : w6.cell? ⟨w.heap.size + 1 + 1, 3, none⟩ = some (.int .i64 0) := cell_of_row _ _ 3 _ _ _ HT6.out.tab
               have g0 := frozen_of_row _ _ 0 _ _ HT6.out.rd
               have g1 := frozen_of_row _ _ 1 _ _ HT6.out.rd
               have g2 : w6.frozen? ⟨w.heap.size + 1 + 1, 3, none⟩ = false := frozen_of_row _ _ 3 _ _ HT6.out.tab
               have HR6 := Lib.hid ((HT6.out.read S6 e6).setTab 3 (.int .i64 y) (x' := x) (y' := y) (z' := 0) rfl)
               clear hB6 hd6 HT5 HR5 a0 a1 a2 f0 f1 f2))
         | fail)
     all_goals
       have d0 := cell_of_row _ _ 0 _ _ _ HR7.out.rd
       have d1 := cell_of_row _ _ 1 _ _ _ HR7.out.rd
       have t0 : World.cell? _ ⟨w.heap.size + 1 + 1, 0, none⟩ = some (.string nm) := cell_of_row _ _ 0 _ _ _ HR7.out.tab
       have t1 : World.cell? _ ⟨w.heap.size + 1 + 1, 1, none⟩ = some (.slice va j vc) := cell_of_row _ _ 1 _ _ _ HR7.out.tab
       have t2 : World.cell? _ ⟨w.heap.size + 1 + 1, 2, none⟩ = some (.int .i64 x) := cell_of_row _ _ 2 _ _ _ HR7.out.tab
       have t3 : World.cell? _ ⟨w.heap.size + 1 + 1, 3, none⟩ = some (.int .i64 y) := cell_of_row _ _ 3 _ _ _ HR7.out.tab
       have t4 : World.cell? _ ⟨w.heap.size + 1 + 1, 4, none⟩ = some (.int .i64 z) := cell_of_row _ _ 4 _ _ _ HR7.out.tab
       obtain ⟨wq, hwq⟩ : ∃ wq, wq = ((((w7.setCell ⟨rb, 0, none⟩ (.string S7)).setCell ⟨rb, 1, none⟩ (.int .i64 e7)).setCell ⟨w.heap.size + 1 + 1, 4, none⟩ (.int .i64 z))).drew := ⟨_, rfl⟩
       clear c0 c1 c2 h0 h1 h2
       have hfd := err_of S7
       go_region_law (first
         | (go_simp; go_at_call 87; (with_reducible refine (HC8.out S7 e7 _ HD7.out).mono ?_); rintro e w8 ⟨er8, rfl, her8, hB8⟩
            have HT8 := Lib.hid (HR7.out.keep hB8)
            have u0 : w8.cell? ⟨w.heap.size + 1 + 1, 0, none⟩ = some (.string nm) := cell_of_row _ _ 0 _ _ _ HT8.out.tab
            have u1 : w8.cell? ⟨w.heap.size + 1 + 1, 1, none⟩ = some (.slice va j vc) := cell_of_row _ _ 1 _ _ _ HT8.out.tab
            have u2 : w8.cell? ⟨w.heap.size + 1 + 1, 2, none⟩ = some (.int .i64 x) := cell_of_row _ _ 2 _ _ _ HT8.out.tab
            have u3 : w8.cell? ⟨w.heap.size + 1 + 1, 3, none⟩ = some (.int .i64 y) := cell_of_row _ _ 3 _ _ _ HT8.out.tab
            have u4 : w8.cell? ⟨w.heap.size + 1 + 1, 4, none⟩ = some (.int .i64 z) := cell_of_row _ _ 4 _ _ _ HT8.out.tab
            have v0 := cell_of_row _ _ 0 _ _ _ HT8.out.ans
            have v1 := cell_of_row _ _ 1 _ _ _ HT8.out.ans
            have v2 := cell_of_row _ _ 2 _ _ _ HT8.out.ans
            have v3 := cell_of_row _ _ 3 _ _ _ HT8.out.ans
            have v4 := cell_of_row _ _ 4 _ _ _ HT8.out.ans
            have k0 := frozen_of_row _ _ 0 _ _ HT8.out.ans
            have k1 := frozen_of_row _ _ 1 _ _ HT8.out.ans
            have k2 := frozen_of_row _ _ 2 _ _ HT8.out.ans
            have k3 := frozen_of_row _ _ 3 _ _ HT8.out.ans
            have k4 := frozen_of_row _ _ 4 _ _ HT8.out.ans
            clear hB8)
         | fail)
       all_goals
         go_wp2_with fail
         obtain ⟨hB9, hR9⟩ := HT8.out.done (by omega) (.string nm) (.slice va j vc) (.int .i64 x) (.int .i64 y) (.int .i64 z)
         refine bodyPost_ret (v := .tuple #[.agg #[.string nm, .slice va j vc, .int .i64 x, .int .i64 y, .int .i64 z], .bool T.isSome]) (by cases E4 with
           | true => simp [results, Tryz.results53, go_sem, v0, v1, v2, v3, v4, HX1.out rfl]
           | false => simp [results, Tryz.results53, go_sem, v0, v1, v2, v3, v4, HX0.out rfl]) rfl ⟨va, j, vc, cols, x, y, z, rfl, hB9, hR9, fun t ht => ?_⟩
         cases E4 with
         | true => rw [HX1.out rfl] at ht; cases ht; rfl
         | false => rw [HX0.out rfl] at ht; cases ht
end Go.Proofs.YtcgpflkaejbkhaaGreatDoor
namespace Go.Proofs.YtcgpflkaejbkhaaGreatDoor
open Go.RowKit

structure RXk (w : World) (rb : Nat) (S : ByteArray) (er : Int) (nm tn : ByteArray) (va : Option Addr) (k vc : Nat) (pl : List Int) (x y z : Int) (W : World) : Prop where
 below : Below w.heap.size w W
 ans : W.heap[w.heap.size + 1]? = some (.cells #[.string ⟨#[]⟩, .string ⟨#[]⟩, .slice none 0 0, .int .i64 0, .int .i64 0, .int .i64 0] 28)
 tab : W.heap[w.heap.size + 2]? = some (.cells #[.string nm, .string tn, .slice va k vc, .int .i64 x, .int .i64 y, .int .i64 z] 28)
 rd : W.heap[rb]? = some (.cells #[.string S, .int .i64 er] 128)
 own : W.ownsRow (w.heap.size + 3) 3 1 (.slice va k vc) k (pl.map (Value.int .i64))
 len : pl.length = k
 hrb : w.heap.size + 3 ≤ rb
variable {w : World} {rb : Nat} {S : ByteArray} {er : Int} {nm tn : ByteArray} {va : Option Addr} {k vc : Nat} {pl : List Int} {x y z : Int} {W W' : World}
theorem RXk.keep (h : RXk w rb S er nm tn va k vc pl x y z W) (hB : Below W.heap.size W W') : RXk w rb S er nm tn va k vc pl x y z W' :=
 ⟨h.below.trans (hB.mono h.below.size), (hB.block _ (heap_lt h.ans)).trans h.ans, (hB.block _ (heap_lt h.tab)).trans h.tab, (hB.block _ (heap_lt h.rd)).trans h.rd, own_kept h.own hB (Nat.le_refl _), h.len, h.hrb⟩
theorem RXk.nrb (h : RXk w rb S er nm tn va k vc pl x y z W) : (Value.slice va k vc).ownBlock ≠ some rb := row_ty h.own h.rd (by decide)
theorem RXk.ntb (h : RXk w rb S er nm tn va k vc pl x y z W) : (Value.slice va k vc).ownBlock ≠ some (w.heap.size + 2) := row_ty h.own h.tab (by decide)
theorem RXk.nab (h : RXk w rb S er nm tn va k vc pl x y z W) : (Value.slice va k vc).ownBlock ≠ some (w.heap.size + 1) := row_ty h.own h.ans (by decide)
theorem RXk.read (h : RXk w rb S er nm tn va k vc pl x y z W) (S' : ByteArray) (e' : Int) : RXk w rb S' e' nm tn va k vc pl x y z ((W.setCell ⟨rb, 0, none⟩ (.string S')).setCell ⟨rb, 1, none⟩ (.int .i64 e')) := by
 have hb := h.hrb
 have t1 : (W.setCell ⟨rb, 0, none⟩ (.string S')).heap[rb]? = some (.cells #[.string S', .int .i64 er] 128) := by
   rw [setCell_eq_setRow W _ 0 _ 128 _ _ h.rd]
   exact setRow_heap W _ _ _ 128 _ h.rd
 have t2 : ((W.setCell ⟨rb, 0, none⟩ (.string S')).setCell ⟨rb, 1, none⟩ (.int .i64 e')).heap[rb]? = some (.cells #[.string S', .int .i64 e'] 128) := by
   rw [setCell_eq_setRow _ _ 1 _ 128 _ _ t1]
   exact setRow_heap _ _ _ _ 128 _ t1
 exact ⟨(h.below.setCell (p := ⟨rb, 0, none⟩) (show w.heap.size ≤ rb by omega) _).setCell (p := ⟨rb, 1, none⟩) (show w.heap.size ≤ rb by omega) _, (heap_set_other _ _ (by omega)).trans ((heap_set_other W _ (by omega)).trans h.ans), (heap_set_other _ _ (by omega)).trans ((heap_set_other W _ (by omega)).trans h.tab), t2, ownsRow_setCell_other (ownsRow_setCell_other h.own h.nrb _) h.nrb _, h.len, hb⟩
theorem RXk.setTab (h : RXk w rb S er nm tn va k vc pl x y z W) (i : Nat) (v : Value) {tn' : ByteArray} {x' y' z' : Int} (hi : (#[.string nm, .string tn, .slice va k vc, .int .i64 x, .int .i64 y, .int .i64 z] : Array Value).setIfInBounds i v = #[.string nm, .string tn', .slice va k vc, .int .i64 x', .int .i64 y', .int .i64 z']) : RXk w rb S er nm tn' va k vc pl x' y' z' (W.setCell ⟨w.heap.size + 2, i, none⟩ v) := by
 have hb := h.hrb
 have t1 : (W.setCell ⟨w.heap.size + 2, i, none⟩ v).heap[w.heap.size + 2]? = some (.cells #[.string nm, .string tn', .slice va k vc, .int .i64 x', .int .i64 y', .int .i64 z'] 28) := by
   rw [setCell_eq_setRow W _ i _ 28 _ _ h.tab, ← hi]
   exact setRow_heap W _ _ _ 28 _ h.tab
 exact ⟨h.below.setCell (p := ⟨w.heap.size + 2, i, none⟩) (show w.heap.size ≤ w.heap.size + 2 by omega) _, (heap_set_other W _ (by omega)).trans h.ans, t1, (heap_set_other W _ (by omega)).trans h.rd, ownsRow_setCell_other h.own h.ntb _, h.len, hb⟩
theorem RXk.start {a b c : Obj} {w2 : World} (w : World) (S : ByteArray) (er : Int) (nm : ByteArray) (hb : b = .cells #[.string ⟨#[]⟩, .string ⟨#[]⟩, .slice none 0 0, .int .i64 0, .int .i64 0, .int .i64 0] 28) (hc : c = .cells #[.string nm, .string ⟨#[]⟩, .slice none 0 0, .int .i64 0, .int .i64 0, .int .i64 0] 28) (hB : Below (((w.alloc a).alloc b).alloc c).heap.size (((w.alloc a).alloc b).alloc c) w2) : RXk w w2.heap.size S er nm ⟨#[]⟩ none 0 0 [] 0 0 0 (w2.alloc (.cells #[.string S, .int .i64 er] 128)) := by
 subst hb hc
 have h1 : (((w.alloc a).alloc (.cells #[.string ⟨#[]⟩, .string ⟨#[]⟩, .slice none 0 0, .int .i64 0, .int .i64 0, .int .i64 0] 28)).alloc (.cells #[.string nm, .string ⟨#[]⟩, .slice none 0 0, .int .i64 0, .int .i64 0, .int .i64 0] 28)).heap[w.heap.size + 1]? = some (.cells #[.string ⟨#[]⟩, .string ⟨#[]⟩, .slice none 0 0, .int .i64 0, .int .i64 0, .int .i64 0] 28) := by
   rw [heap_alloc_old _ _ (by simp)]
   have h := heap_alloc_new (w.alloc a) (.cells #[.string ⟨#[]⟩, .string ⟨#[]⟩, .slice none 0 0, .int .i64 0, .int .i64 0, .int .i64 0] 28)
   rw [World.size_alloc] at h
   exact h
 have h2 : (((w.alloc a).alloc (.cells #[.string ⟨#[]⟩, .string ⟨#[]⟩, .slice none 0 0, .int .i64 0, .int .i64 0, .int .i64 0] 28)).alloc (.cells #[.string nm, .string ⟨#[]⟩, .slice none 0 0, .int .i64 0, .int .i64 0, .int .i64 0] 28)).heap[w.heap.size + 2]? = some (.cells #[.string nm, .string ⟨#[]⟩, .slice none 0 0, .int .i64 0, .int .i64 0, .int .i64 0] 28) := by
   have h := heap_alloc_new ((w.alloc a).alloc (.cells #[.string ⟨#[]⟩, .string ⟨#[]⟩, .slice none 0 0, .int .i64 0, .int .i64 0, .int .i64 0] 28)) (.cells #[.string nm, .string ⟨#[]⟩, .slice none 0 0, .int .i64 0, .int .i64 0, .int .i64 0] 28)
   rw [World.size_alloc, World.size_alloc] at h
   exact h
 have hs := hB.size
 simp at hs
 exact ⟨((((below1 w _).alloc (by simp) _).alloc (by simp; omega) _).trans (hB.mono (by simp; omega))).alloc (by omega) _, (heap_alloc_old _ _ (by omega)).trans ((hB.block _ (heap_lt h1)).trans h1), (heap_alloc_old _ _ (by omega)).trans ((hB.block _ (heap_lt h2)).trans h2), heap_alloc_new w2 _, World.ownsRow_nil _ _ _ _, rfl, by omega⟩
theorem RXk.more {w6 : World} {O : Obj} {g cap : Nat} {p : Int} (h : RXk w rb S er nm tn va k vc pl 0 0 0 W)
   (hown : w6.ownsRow (w.heap.size + 3) 3 1 (.slice (some ⟨g, 0, none⟩) (k + 1) cap) (k + 1) (pl.map (Value.int .i64) ++ [.int .i64 p])) (hg : (W.alloc O).grownBy w6 (Value.slice va k vc).ownBlock) :
   RXk w rb S er nm tn (some ⟨g, 0, none⟩) (k + 1) cap (pl ++ [p]) 0 0 0 (w6.setCell ⟨w.heap.size + 2, 2, none⟩ (.slice (some ⟨g, 0, none⟩) (k + 1) cap)) ∧ w6.heap[w.heap.size + 2]? = some (.cells #[.string nm, .string tn, .slice va k vc, .int .i64 0, .int .i64 0, .int .i64 0] 28) := by
 have h5 := h.keep (below1 W O)
 have hb := h5.hrb
 have ht6 := (hg.block _ (heap_lt h5.tab) (fun e => h5.ntb e.symm)).trans h5.tab
 have ha6 := (hg.block _ (heap_lt h5.ans) (fun e => h5.nab e.symm)).trans h5.ans
 have hr6 := (hg.block _ (heap_lt h5.rd) (fun e => h5.nrb e.symm)).trans h5.rd
 have hB6 : Below w.heap.size w w6 := h5.below.grown hg h5.below.size (fun b e => by have := (h5.own.lt b e).1; omega)
 have hne6 : (Value.slice (some ⟨g, 0, none⟩) (k + 1) cap).ownBlock ≠ some (w.heap.size + 2) := row_ty hown ht6 (by decide)
 refine ⟨⟨hB6.setCell (p := ⟨w.heap.size + 2, 2, none⟩) (show w.heap.size ≤ w.heap.size + 2 by omega) _, (heap_set_other _ _ (by omega)).trans ha6, ?_, (heap_set_other _ _ (by omega)).trans hr6, ?_, by rw [List.length_append, h5.len]; rfl, hb⟩, ht6⟩
 · rw [setCell_eq_setRow w6 _ 2 _ 28 _ _ ht6]
   exact setRow_heap w6 _ _ _ 28 _ ht6
 · have := ownsRow_setCell_other hown hne6 (a := ⟨w.heap.size + 2, 2, none⟩) (.slice (some ⟨g, 0, none⟩) (k + 1) cap)
   rw [List.map_append]
   exact this
theorem RXk.done (h : RXk w rb S er nm tn va k vc pl x y z W) (hk : k ≤ 1000) (a a' b d e f : Value) :
   Below w.heap.size w ((((((W.setCell ⟨w.heap.size + 1, 0, none⟩ a).setCell ⟨w.heap.size + 1, 1, none⟩ a').setCell ⟨w.heap.size + 1, 2, none⟩ b).setCell ⟨w.heap.size + 1, 3, none⟩ d).setCell ⟨w.heap.size + 1, 4, none⟩ e).setCell ⟨w.heap.size + 1, 5, none⟩ f) ∧
   ReadIdx ((((((W.setCell ⟨w.heap.size + 1, 0, none⟩ a).setCell ⟨w.heap.size + 1, 1, none⟩ a').setCell ⟨w.heap.size + 1, 2, none⟩ b).setCell ⟨w.heap.size + 1, 3, none⟩ d).setCell ⟨w.heap.size + 1, 4, none⟩ e).setCell ⟨w.heap.size + 1, 5, none⟩ f) ⟨nm, tn, va, k, vc, x, y, z⟩ pl := by
 refine ⟨(((((h.below.setCell (p := ⟨w.heap.size + 1, 0, none⟩) (Nat.le_succ _) _).setCell (p := ⟨w.heap.size + 1, 1, none⟩) (Nat.le_succ _) _).setCell (p := ⟨w.heap.size + 1, 2, none⟩) (Nat.le_succ _) _).setCell (p := ⟨w.heap.size + 1, 3, none⟩) (Nat.le_succ _) _).setCell (p := ⟨w.heap.size + 1, 4, none⟩) (Nat.le_succ _) _).setCell (p := ⟨w.heap.size + 1, 5, none⟩) (Nat.le_succ _) _, ?_⟩
 have ho := ownsRow_setCell_other (a := ⟨w.heap.size + 1, 5, none⟩) (ownsRow_setCell_other (a := ⟨w.heap.size + 1, 4, none⟩) (ownsRow_setCell_other (a := ⟨w.heap.size + 1, 3, none⟩) (ownsRow_setCell_other (a := ⟨w.heap.size + 1, 2, none⟩) (ownsRow_setCell_other (a := ⟨w.heap.size + 1, 1, none⟩) (ownsRow_setCell_other (a := ⟨w.heap.size + 1, 0, none⟩) h.own h.nab a) h.nab a') h.nab b) h.nab d) h.nab e) h.nab f
 have hl := h.len
 obtain ⟨h1, h2⟩ := ho
 rcases h2 with ⟨h3, h4⟩ | ⟨g, cap, cur, h3, h4, h5, h6, h7, h8, h9⟩
 · cases h3
   have : pl = [] := List.length_eq_zero_iff.1 (by omega)
   subst this
   exact ⟨⟨by unfold maxLen; simp, Or.inl rfl⟩, rfl, Nat.zero_le _, fun _ => rfl, by simp⟩
 · cases h3
   refine ⟨⟨by unfold maxLen; omega, Or.inr ⟨g, 0, rfl, heap_lt h5, fun j u hj => ?_⟩⟩, hl.symm, by show pl.length ≤ vc; omega, (fun e => by cases e), by omega⟩
   have hj2 : (pl.map (Value.int .i64))[j]? = some (.int .i64 u) := by rw [List.getElem?_map, hj]; rfl
   rw [← h9, List.getElem?_take] at hj2
   rw [Nat.zero_add, cell_of_row _ g j _ _ _ h5]
   split at hj2
   · rw [← Array.getElem?_toList]; exact hj2
   · cases hj2
theorem list_pl (w : World) {ops : Array Oper} {rest : List Oper} {o : Oper} {a : Act} {Q : Exit → Act → World → Prop} (hgd : o.guard = none) (s x : Operand)
   (ho : o.op = .call { callee := .builtin .append, args := #[s, x], argTypes := #[26, 26] }) (base : Nat) (v : Value) (n : Nat) (xs : List Value) (hv : a.eval s = v) (hown : w.ownsRow base 3 1 v n xs)
   (b c : Nat) (z : Int) (hx : a.eval x = .slice (some ⟨b, 0, none⟩) 1 c) (hq : w.heap[b]? = some (.cells #[.int .i64 z] 3)) (hl : n ≤ 2000) (hbase : base ≤ w.heap.size)
   (h : ∀ v' w', w'.ownsRow base 3 1 v' (n + 1) (xs ++ [.int .i64 z]) → w.grownBy w' v.ownBlock → wpList Tryz.prog ops Q rest (a.put o.dst v') w') : wpList Tryz.prog ops Q (o :: rest) a w := by
 refine wpList_plain hgd fun K hK => ?_
 obtain ⟨i0, hi0, hz0, hz1, hz2⟩ := info_parts info3
 obtain ⟨v', w', hrun, g2, g3, _, g5⟩ := run_append_own_at (P := Tryz.prog) w base 26 o.type 3 i0 _ 1 8 Tryz.underlying26 hi0 hz0 hz1 hz2 rfl (by omega) v n xs hown ⟨b, 0, none⟩ 1 c [.int .i64 z] rfl
   (fun j u hj => by
     rw [Addr.add_lit, Nat.zero_add, cell_of_row w b j _ _ _ hq]
     simpa using hj)
   (fun u hu => by
     rw [List.mem_singleton.1 hu]
     rfl) (by unfold maxLen; omega) (by omega) hbase
 unfold Oper.wp
 simp only [execOp, ho, resolve, invoke, builtin, Sem.run_bind, Sem.run_pure, Result.andThen_ok, List.map_toArray, List.map_cons, List.map_nil, hv, hx, hrun]
 exact hK _ _ (h v' w' g2 g3)
def IdxP (w : World) (nm : ByteArray) (r : Option PX) (e : Ending) (w' : World) : Prop := ∃ (tn : ByteArray) (va : Option Addr) (k vc : Nat) (pl : List Int) (x y z : Int), e = .returned (.tuple #[.agg #[.string nm, .string tn, .slice va k vc, .int .i64 x, .int .i64 y, .int .i64 z], .bool r.isSome]) ∧ Below w.heap.size w w' ∧ ReadIdx w' ⟨nm, tn, va, k, vc, x, y, z⟩ pl ∧ ∀ t, r = some t → pxOf (⟨nm, tn, va, k, vc, x, y, z⟩, pl) = t
end Go.Proofs.YtcgpflkaejbkhaaGreatDoor
namespace Go.Proofs.YtcgpflkaejbkhaaGreatDoor
open Go.RowKit

theorem ridx_end (S1 : Rd) (h : S1 = none) : endR (inS (cnS 1600 (cnS 3 S1))) = false := by subst h; rfl
set_option maxRecDepth 100000 in
set_option maxHeartbeats 16000000 in
theorem rindex (K V nm : ByteArray) (w : World) (hK : 1 ≤ K.size) (hnm : nm = K.extract 1 K.size) (hV : V.size ≤ 1000) : Calls Tryz.prog 54 #[.agg #[.string K, .string V]] w (IdxP w nm (idxF nm (some V.data.toList))) := by
 have hsl : ∀ W, (Instr.slice 9 (.string K) (some (.int .i64 1)) none none).run Tryz.prog W = .ok (.string nm) W := fun W => by rw [hnm]; exact slice_end K _ 1 rfl (by omega) W
 have HCT := dt_t12 V 0 (some V.data.toList)
 generalize hT : idxF nm (some V.data.toList) = T
 have hT0 : T = idxF nm (some V.data.toList) := hT.symm
 unfold idxF at hT0
 have hD0 : DocR V 0 (some V.data.toList) := ⟨hV, rfl, rfl⟩
 generalize (some V.data.toList : Rd) = sV at *
 obtain ⟨tn, htn⟩ : ∃ tn, tn = txV 12 sV := ⟨_, rfl⟩
 obtain ⟨sT, hsT⟩ : ∃ sT, sT = txS 12 sV := ⟨_, rfl⟩
 rw [← htn, ← hsT] at HCT hT0
 have hN6 : cnV 3 sT ≤ 3 := cnV_le _ _
 obtain ⟨N, hN⟩ : ∃ N, N = cnV 3 sT := ⟨_, rfl⟩
 obtain ⟨s0, hs0⟩ : ∃ s0, s0 = cnS 3 sT := ⟨_, rfl⟩
 rw [← hN, ← hs0] at hT0
 rw [← hN] at hN6
 have HCT := Lib.hid (show ∀ W, Calls Tryz.prog 84 #[.agg #[.string V, .int .i64 0], .int .i64 12] W (DocStep sT (.string tn) W) from fun W => HCT W hD0)
 have HC0 := Lib.hid (show ∀ S e W, DocR S e sT → Calls Tryz.prog 83 #[.agg #[.string S, .int .i64 e], .int .i64 3] W (DocStep s0 (.int .i64 (N : Nat)) W) from fun S e W h => by rw [hs0, hN]; exact dt_c3 _ _ _ _ h)
 have HN1 := Lib.hid (show ∀ j, (j = N ∨ plsS j s0 = none) → endR (inS (cnS 1600 (cnS 3 (plsS j s0)))) = true → T = some ⟨nm, tn, plsV j s0, cnV 3 (plsS j s0), cnV 1600 (cnS 3 (plsS j s0)), inV (cnS 1600 (cnS 3 (plsS j s0)))⟩ from fun j hj he => by
   rcases hj with rfl | hj
   · rw [hT0, if_pos he]
   · rw [ridx_end _ hj] at he; cases he)
 have HN0 := Lib.hid (show ∀ j, j ≤ N → (j = N ∨ plsS j s0 = none) → endR (inS (cnS 1600 (cnS 3 (plsS j s0)))) = false → T = none from fun j hle hj he => by
   rcases hj with rfl | hj
   · rw [hT0, if_neg (by rw [he]; decide)]
   · rw [hT0, if_neg (by rw [ridx_end _ (plsS_none hj hle)]; decide)])
 clear hT0 hT hnm hN hs0 hD0 htn hsT
 go_enter Tryz.func54, Tryz.ntmps54
 go_wp2_with (first
   | (go_at_call 84; (with_reducible refine (HCT.out _).mono ?_); rintro e w2 ⟨S2, e2, rfl, hd, hB2⟩
      have HD2 := Lib.hid hd
      have HT2 := Lib.hid (RXk.start w S2 e2 nm rfl rfl hB2)
      have HS2 := Lib.hid hB2.size
      have n1 := HT2.out.hrb
      have n2 : (w2.heap.size = w.heap.size + 1 + 1) = False := eq_false (by omega)
      have n3 : (w.heap.size + 1 + 1 = w2.heap.size) = False := eq_false (by omega)
      have x0 : ∀ O, (w2.alloc O).cell? ⟨w.heap.size + 1 + 1, 1, none⟩ = some (.string ⟨#[]⟩) := fun O => by
        have hs := hB2.size
        simp at hs
        exact cell_of_row _ _ 1 _ _ _ ((heap_alloc_old _ _ (by omega)).trans ((heap_alloc_old _ (.cells #[.string S2, .int .i64 e2] 128) (by omega)).symm.trans HT2.out.tab))
      have x1 : ∀ O, (w2.alloc O).frozen? ⟨w.heap.size + 1 + 1, 1, none⟩ = false := fun O => by
        have hs := hB2.size
        simp at hs
        exact frozen_of_row _ _ 1 _ _ ((heap_alloc_old _ _ (by omega)).trans ((heap_alloc_old _ (.cells #[.string S2, .int .i64 e2] 128) (by omega)).symm.trans HT2.out.tab))
      have HU2 := Lib.hid (HT2.out.setTab 1 (.string tn) (tn' := tn) (x' := 0) (y' := 0) (z' := 0) rfl)
      have y0 := cell_of_row _ _ 0 _ _ _ HU2.out.rd
      have y1 := cell_of_row _ _ 1 _ _ _ HU2.out.rd
      clear hB2 hd HCT)
   | (go_at_call 83; (with_reducible refine (HC0.out S2 e2 _ HD2.out).mono ?_); rintro e w3 ⟨S3, e3, rfl, hd3, hB3⟩
      have HD3 := Lib.hid hd3
      have HT3 := Lib.hid (HU2.out.keep hB3)
      have y0 := cell_of_row _ _ 0 _ _ _ HT3.out.rd
      have y1 := cell_of_row _ _ 1 _ _ _ HT3.out.rd
      have z0 := frozen_of_row _ _ 0 _ _ HT3.out.rd
      have z1 := frozen_of_row _ _ 1 _ _ HT3.out.rd
      have HT := Lib.hid (HT3.out.read S3 e3)
      clear hB3 hd3 HC0 HU2 HT2)
   | fail)
 have hsz := HS2.out
 obtain ⟨rb, hrb⟩ : ∃ rb, rb = w2.heap.size := ⟨_, rfl⟩
 rw [← hrb] at HT HT3 n2 n3 ⊢
 clear hrb hsz x0 x1 y0 y1 z0 z1 n1
 have n1 := HT.out.hrb
 have n4 : (rb = w.heap.size + 1) = False := eq_false (by omega)
 have n5 : (w.heap.size + 1 = rb) = False := eq_false (by omega)
 go_loopw [8] (fun i wr => ∃ (j : Nat) (va : Option Addr) (vc : Nat) (S : ByteArray) (er : Int), j ≤ N ∧ i = .int .i64 j ∧ Hid (DocR S er (plsS j s0)) ∧ Hid (RXk w rb S er nm tn va j vc (plsV j s0) 0 0 0 wr)) (fun i _ => N - (intOf i).toNat)
 case atStart => exact ⟨0, none, 0, S3, e3, Nat.zero_le _, rfl, HD3, HT⟩
 case round =>
   clear HT HD3 HT3 HD2 HS2
   obtain ⟨j, va, vc, S, er, hj, rfl, HD, HT⟩ := hrel
   obtain ⟨wo, rfl⟩ : ∃ wo : World, wo = wr := ⟨_, rfl⟩
   have r0 := cell_of_row _ _ 0 _ _ _ HT.out.rd
   have r1 := cell_of_row _ _ 1 _ _ _ HT.out.rd
   by_cases hgo : j < N ∧ er = 0
   · obtain ⟨hlt, rfl⟩ := hgo
     have q1 : ((j : Int) < (N : Int)) = True := eq_true (by omega)
     go_wp2_with (first
       | (go_at_call 83; (with_reducible refine (dt_c6 S 0 (plsS j s0) _ HD.out).mono ?_); rintro e w5 ⟨S5, e5, rfl, hd5, hB5⟩
          have HD5 := Lib.hid hd5
          have HC5 := Lib.hid (HT.out.keep hB5)
          have a0 := cell_of_row _ _ 0 _ _ _ HC5.out.rd
          have a1 := cell_of_row _ _ 1 _ _ _ HC5.out.rd
          have f0 := frozen_of_row _ _ 0 _ _ HC5.out.rd
          have f1 := frozen_of_row _ _ 1 _ _ HC5.out.rd
          have c5 : w5.cell? ⟨w.heap.size + 1 + 1, 2, none⟩ = some (.slice va j vc) := cell_of_row _ _ 2 _ _ _ HC5.out.tab
          have HR5 := Lib.hid (HC5.out.read S5 e5)
          clear hB5 hd5)
       | (at_builtin; refine list_pl _ rfl _ _ rfl (w.heap.size + 3) _ j ((plsV j s0).map (Value.int .i64)) rfl (own_kept HR5.out.own (below1 _ _) (Nat.le_refl _)) _ 1 (cnV 6 (plsS j s0) : Nat) rfl (alloc_at _ _ _ (by simp)) ?c3 ?c4 ?_)
       | fail)
     case c3 => omega
     case c4 => have := HR5.out.hrb; have := heap_lt HR5.out.rd; simp at this ⊢; omega
     intro v8 w8 hown hgr
     obtain ⟨g, cap, rfl⟩ := own_slice hown
     have HM := Lib.hid (HR5.out.more hown hgr)
     have z8 : w8.cell? ⟨w.heap.size + 1 + 1, 2, none⟩ = some (.slice va j vc) := cell_of_row _ _ 2 _ _ _ HM.out.2
     have z9 : w8.frozen? ⟨w.heap.size + 1 + 1, 2, none⟩ = false := frozen_of_row _ _ 2 _ _ HM.out.2
     clear hown hgr
     go_wp2_with fail
     go_roundw
     case rel => exact ⟨j + 1, _, _, S5, e5, by omega, by go_num, HD5, Lib.hid HM.out.1⟩
     case measure => simp [intOf] <;> omega
   · have hx : j = N ∨ plsS j s0 = none := by
       by_cases h : j = N
       · exact Or.inl h
       · exact Or.inr (HD.out.gone fun e => hgo ⟨by omega, e⟩)
     have HX1 := Lib.hid (HN1.out j hx)
     have HX0 := Lib.hid (HN0.out j hj hx)
     clear HN1 HN0 hx
     generalize hS4 : endR (inS (cnS 1600 (cnS 3 (plsS j s0)))) = E4 at HX1 HX0
     obtain ⟨x, hx⟩ : ∃ x : Int, x = (cnV 3 (plsS j s0) : Nat) := ⟨_, rfl⟩
     obtain ⟨y, hy⟩ : ∃ y : Int, y = (cnV 1600 (cnS 3 (plsS j s0)) : Nat) := ⟨_, rfl⟩
     obtain ⟨z, hz⟩ : ∃ z, z = inV (cnS 1600 (cnS 3 (plsS j s0))) := ⟨_, rfl⟩
     rw [← hx, ← hy, ← hz] at HX1
     have HC5 := Lib.hid (show ∀ W, Calls Tryz.prog 83 #[.agg #[.string S, .int .i64 er], .int .i64 3] W (DocStep (cnS 3 (plsS j s0)) (.int .i64 x) W) from fun W => by rw [hx]; exact dt_c3 _ _ _ _ HD.out)
     have HC6 := Lib.hid (show ∀ S e W, DocR S e (cnS 3 (plsS j s0)) → Calls Tryz.prog 83 #[.agg #[.string S, .int .i64 e], .int .i64 1600] W (DocStep (cnS 1600 (cnS 3 (plsS j s0))) (.int .i64 y) W) from fun S e W h => by rw [hy]; exact dt_c1600 _ _ _ _ h)
     have HC7 := Lib.hid (show ∀ S e W, DocR S e (cnS 1600 (cnS 3 (plsS j s0))) → Calls Tryz.prog 86 #[.agg #[.string S, .int .i64 e]] W (DocStep (inS (cnS 1600 (cnS 3 (plsS j s0)))) (.int .i64 z) W) from fun S e W h => by rw [hz]; exact dt_int _ _ _ _ h)
     have HC8 := Lib.hid (show ∀ S e W, DocR S e (inS (cnS 1600 (cnS 3 (plsS j s0)))) → Calls Tryz.prog 87 #[.agg #[.string S, .int .i64 e]] W (fun en w' => ∃ er : Int, en = .returned (.agg #[.string S, .int .i64 er]) ∧ (er == 0) = E4 ∧ Below W.heap.size W w') from fun S e W h => by rw [← hS4]; exact dt_end _ _ _ _ h)
     clear hS4 hx hy hz
     generalize inS (cnS 1600 (cnS 3 (plsS j s0))) = S4 at HC7 HC8
     generalize cnS 1600 (cnS 3 (plsS j s0)) = S3' at HC6 HC7
     generalize cnS 3 (plsS j s0) = S2' at HC5 HC6
     generalize plsV j s0 = pl at HT HX1
     by_cases hlt : j < N
     all_goals first
       | have q1 : ((j : Int) < (N : Int)) = True := eq_true (by omega)
         have q2 : (er == 0) = false := beq_eq_false_iff_ne.2 fun e => hgo ⟨hlt, e⟩
         have q3 : (er = 0) = False := eq_false fun e => hgo ⟨hlt, e⟩
       | have q1 : ((j : Int) < (N : Int)) = False := eq_false (by omega)
     all_goals
       clear hgo
       go_wp2_with (first
         | (go_at_call 83; first
            | (with_reducible refine (HC6.out S5 e5 _ HD5.out).mono ?_
               rintro e w6 ⟨S6, e6, rfl, hd6, hB6⟩
               have HD6 := Lib.hid hd6
               have HT6 := Lib.hid (HR5.out.keep hB6)
               have b0 := cell_of_row _ _ 0 _ _ _ HT6.out.rd
               have b1 := cell_of_row _ _ 1 _ _ _ HT6.out.rd
               have b2 : w6.cell? ⟨w.heap.size + 1 + 1, 4, none⟩ = some (.int .i64 0) := cell_of_row _ _ 4 _ _ _ HT6.out.tab
               have g0 := frozen_of_row _ _ 0 _ _ HT6.out.rd
               have g1 := frozen_of_row _ _ 1 _ _ HT6.out.rd
               have g2 : w6.frozen? ⟨w.heap.size + 1 + 1, 4, none⟩ = false := frozen_of_row _ _ 4 _ _ HT6.out.tab
               have HR6 := Lib.hid ((HT6.out.read S6 e6).setTab 4 (.int .i64 y) (tn' := tn) (x' := x) (y' := y) (z' := 0) rfl)
               clear hB6 hd6 HT5 HR5 a0 a1 a2 f0 f1 f2)
            | (with_reducible refine (HC5.out _).mono ?_
               rintro e w5 ⟨S5, e5, rfl, hd5, hB5⟩
               have HD5 := Lib.hid hd5
               have HT5 := Lib.hid (HT.out.keep hB5)
               have a0 := cell_of_row _ _ 0 _ _ _ HT5.out.rd
               have a1 := cell_of_row _ _ 1 _ _ _ HT5.out.rd
               have a2 : w5.cell? ⟨w.heap.size + 1 + 1, 3, none⟩ = some (.int .i64 0) := cell_of_row _ _ 3 _ _ _ HT5.out.tab
               have f0 := frozen_of_row _ _ 0 _ _ HT5.out.rd
               have f1 := frozen_of_row _ _ 1 _ _ HT5.out.rd
               have f2 : w5.frozen? ⟨w.heap.size + 1 + 1, 3, none⟩ = false := frozen_of_row _ _ 3 _ _ HT5.out.tab
               have HR5 := Lib.hid ((HT5.out.read S5 e5).setTab 3 (.int .i64 x) (tn' := tn) (x' := x) (y' := 0) (z' := 0) rfl)
               clear hB5 hd5 HT r0 r1 HC5))
         | (go_at_call 86; first
            | (with_reducible refine (HC7.out S6 e6 _ HD6.out).mono ?_
               rintro e w7 ⟨S7, e7, rfl, hd7, hB7⟩
               have HD7 := Lib.hid hd7
               have HT7 := Lib.hid (HR6.out.keep hB7)
               have c0 := cell_of_row _ _ 0 _ _ _ HT7.out.rd
               have c1 := cell_of_row _ _ 1 _ _ _ HT7.out.rd
               have c2 : w7.cell? ⟨w.heap.size + 1 + 1, 5, none⟩ = some (.int .i64 0) := cell_of_row _ _ 5 _ _ _ HT7.out.tab
               have h0 := frozen_of_row _ _ 0 _ _ HT7.out.rd
               have h1 := frozen_of_row _ _ 1 _ _ HT7.out.rd
               have h2 : w7.frozen? ⟨w.heap.size + 1 + 1, 5, none⟩ = false := frozen_of_row _ _ 5 _ _ HT7.out.tab
               have HR7 := Lib.hid (((HT7.out.read S7 e7).setTab 5 (.int .i64 z) (tn' := tn) (x' := x) (y' := y) (z' := z) rfl).keep (Below.refl _ _).drew)
               clear hB7 hd7 HT6 HR6 b0 b1 b2 g0 g1 g2))
         | fail)
     all_goals
       have d0 := cell_of_row _ _ 0 _ _ _ HR7.out.rd
       have d1 := cell_of_row _ _ 1 _ _ _ HR7.out.rd
       have t0 : World.cell? _ ⟨w.heap.size + 1 + 1, 0, none⟩ = some (.string nm) := cell_of_row _ _ 0 _ _ _ HR7.out.tab
       have t1 : World.cell? _ ⟨w.heap.size + 1 + 1, 1, none⟩ = some (.string tn) := cell_of_row _ _ 1 _ _ _ HR7.out.tab
       have t2 : World.cell? _ ⟨w.heap.size + 1 + 1, 2, none⟩ = some (.slice va j vc) := cell_of_row _ _ 2 _ _ _ HR7.out.tab
       have t3 : World.cell? _ ⟨w.heap.size + 1 + 1, 3, none⟩ = some (.int .i64 x) := cell_of_row _ _ 3 _ _ _ HR7.out.tab
       have t4 : World.cell? _ ⟨w.heap.size + 1 + 1, 4, none⟩ = some (.int .i64 y) := cell_of_row _ _ 4 _ _ _ HR7.out.tab
       have t5 : World.cell? _ ⟨w.heap.size + 1 + 1, 5, none⟩ = some (.int .i64 z) := cell_of_row _ _ 5 _ _ _ HR7.out.tab
       clear c0 c1 c2 h0 h1 h2
       have hfd := err_of S7
       go_region_law (first
         | (go_simp; go_at_call 87; (with_reducible refine (HC8.out S7 e7 _ HD7.out).mono ?_); rintro e w8 ⟨er8, rfl, her8, hB8⟩
            have HT8 := Lib.hid (HR7.out.keep hB8)
            have u0 : w8.cell? ⟨w.heap.size + 1 + 1, 0, none⟩ = some (.string nm) := cell_of_row _ _ 0 _ _ _ HT8.out.tab
            have u1 : w8.cell? ⟨w.heap.size + 1 + 1, 1, none⟩ = some (.string tn) := cell_of_row _ _ 1 _ _ _ HT8.out.tab
            have u2 : w8.cell? ⟨w.heap.size + 1 + 1, 2, none⟩ = some (.slice va j vc) := cell_of_row _ _ 2 _ _ _ HT8.out.tab
            have u3 : w8.cell? ⟨w.heap.size + 1 + 1, 3, none⟩ = some (.int .i64 x) := cell_of_row _ _ 3 _ _ _ HT8.out.tab
            have u4 : w8.cell? ⟨w.heap.size + 1 + 1, 4, none⟩ = some (.int .i64 y) := cell_of_row _ _ 4 _ _ _ HT8.out.tab
            have u5 : w8.cell? ⟨w.heap.size + 1 + 1, 5, none⟩ = some (.int .i64 z) := cell_of_row _ _ 5 _ _ _ HT8.out.tab
            have v0 := cell_of_row _ _ 0 _ _ _ HT8.out.ans
            have v1 := cell_of_row _ _ 1 _ _ _ HT8.out.ans
            have v2 := cell_of_row _ _ 2 _ _ _ HT8.out.ans
            have v3 := cell_of_row _ _ 3 _ _ _ HT8.out.ans
            have v4 := cell_of_row _ _ 4 _ _ _ HT8.out.ans
            have v5 := cell_of_row _ _ 5 _ _ _ HT8.out.ans
            have k0 := frozen_of_row _ _ 0 _ _ HT8.out.ans
            have k1 := frozen_of_row _ _ 1 _ _ HT8.out.ans
            have k2 := frozen_of_row _ _ 2 _ _ HT8.out.ans
            have k3 := frozen_of_row _ _ 3 _ _ HT8.out.ans
            have k4 := frozen_of_row _ _ 4 _ _ HT8.out.ans
            have k5 := frozen_of_row _ _ 5 _ _ HT8.out.ans
            clear hB8)
         | fail)
       all_goals
         go_wp2_with fail
         obtain ⟨hB9, hR9⟩ := HT8.out.done (by omega) (.string nm) (.string tn) (.slice va j vc) (.int .i64 x) (.int .i64 y) (.int .i64 z)
         refine bodyPost_ret (v := .tuple #[.agg #[.string nm, .string tn, .slice va j vc, .int .i64 x, .int .i64 y, .int .i64 z], .bool T.isSome]) (by cases E4 with
           | true => simp [results, Tryz.results54, go_sem, v0, v1, v2, v3, v4, v5, HX1.out rfl]
           | false => simp [results, Tryz.results54, go_sem, v0, v1, v2, v3, v4, v5, HX0.out rfl]) rfl ⟨tn, va, j, vc, pl, x, y, z, rfl, hB9, hR9, fun t ht => ?_⟩
         cases E4 with
         | true => rw [HX1.out rfl] at ht; cases ht; rfl
         | false => rw [HX0.out rfl] at ht; cases ht
end Go.Proofs.YtcgpflkaejbkhaaGreatDoor
