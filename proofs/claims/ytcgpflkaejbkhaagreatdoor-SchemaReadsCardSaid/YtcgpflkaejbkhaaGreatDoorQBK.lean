/- The walk of one at a table's entry. -/
import Derived.Test.YtcgpflkaejbkhaaGreatDoorQBI
namespace Go.Proofs.YtcgpflkaejbkhaaGreatDoor
open Go.RowKit

theorem st_c3 (rb : Nat) (st : Rd) (W : World) (h : RdAt W rb st) : Calls Tryz.prog 73 #[.pointer (some ⟨rb, 0, none⟩), .int .i64 3] W (StepP W rb (cnS 3 st) (.int .i64 (cnV 3 st : Nat))) := st_count 3 (by omega) rb st W h
theorem st_c6 (rb : Nat) (st : Rd) (W : World) (h : RdAt W rb st) : Calls Tryz.prog 73 #[.pointer (some ⟨rb, 0, none⟩), .int .i64 6] W (StepP W rb (cnS 6 st) (.int .i64 (cnV 6 st : Nat))) := st_count 6 (by omega) rb st W h
theorem st_c1600 (rb : Nat) (st : Rd) (W : World) (h : RdAt W rb st) : Calls Tryz.prog 73 #[.pointer (some ⟨rb, 0, none⟩), .int .i64 1600] W (StepP W rb (cnS 1600 st) (.int .i64 (cnV 1600 st : Nat))) := st_count 1600 (by omega) rb st W h
theorem st_t12 (rb : Nat) (st : Rd) (W : World) (h : RdAt W rb st) : Calls Tryz.prog 74 #[.pointer (some ⟨rb, 0, none⟩), .int .i64 12] W (StepP W rb (txS 12 st) (.string (txV 12 st))) := st_text 12 (by omega) rb st W h
set_option maxRecDepth 100000 in
set_option maxHeartbeats 16000000 in
theorem one_tab (m : Int) (gt : Nat → Nat) (ht : ∀ j, j < 23 → finD (Ieee.double.read (gt j)) = true) (A : Option Addr) (c : Nat) (ts : List (Tab × List Col)) (ia : Option Addr) (ic : Nat) (xs : List (Idx × List Int)) (nm : ByteArray) (vA : Option Addr) (vc : Nat) (val : List UInt8) (w : World) (hG : Glob m gt w) (hS : ReadS w A ia ts xs) (hv : BtAt w vA val) (hvl : val.length ≤ 1000) :
   Calls Tryz.prog 49 #[.agg #[.slice A ts.length c, .slice ia xs.length ic], .int .u8 116, .string nm, .slice vA val.length vc] w (EntP w (oneT (ts.map ptOf) (xs.map pxOf) nm (some val))) := by
 have HPUT := Lib.hid (show ∀ (t : Tab) (cl : List Col) W, Below w.heap.size w W → ReadTab W t cl → Calls Tryz.prog 27 #[.agg #[.slice A ts.length c, .slice ia xs.length ic], .agg #[.string t.name, .slice t.ca t.cn t.cc, .int .i64 t.root, .int .i64 t.next, .int .i64 t.rows]] W (OutP W (errT (ts.map ptOf) (ptOf (t, cl))) (putT (ts.map ptOf) (ptOf (t, cl))) (xs.map pxOf)) from fun t cl W hB ht2 => put_all m gt ht A c ts ia ic xs t cl W (hG.keep hB) (hS.keep hB) ht2)
 have HRD := Lib.hid (show ∀ W, Below w.heap.size w W → Calls Tryz.prog 72 #[.slice vA val.length vc] W fun e w' => ∃ rb : Nat, e = .returned (.pointer (some ⟨rb, 0, none⟩)) ∧ Below W.heap.size W w' ∧ W.heap.size ≤ rb ∧ RdAt w' rb (some val) from fun W hB => rd_read vA vc val W (hv.keep hB) (by omega))
 have HB0 := Lib.hid (show Below w.heap.size w ((w.alloc (.cells #[.slice A ts.length c, .slice ia xs.length ic] 36)).alloc (.cells #[.slice none 0 0, .slice none 0 0] 36)) from (below1 w _).alloc (by simp) _)
 generalize hT : ts.map ptOf = T at HPUT ⊢
 generalize hX : xs.map pxOf = X at HPUT ⊢
 generalize ts.length = n at HPUT HB0 ⊢
 generalize xs.length = mx at HPUT HB0 ⊢
 generalize val.length = vn at HRD ⊢
 clear hG hS hv hvl ht hT hX
 go_enter Tryz.func49, Tryz.ntmps49
 go_wp2_with (first
   | (go_at_call 72; (with_reducible refine (HRD.out _ HB0.out).mono ?_); rintro e w1 ⟨rb, rfl, hB1, hrb, hrd⟩
      have HK1 := Lib.hid (OneK.start hB1 hrd hrb)
      have HT1 := Lib.hid (show OneT w A n c ia mx ic rb (some val) w1.heap.size nm none 0 0 [] (w1.alloc (.cells #[.string nm, .slice none 0 0, .int .i64 0, .int .i64 0, .int .i64 0] 25)) from ⟨HK1.out.keep (below1 w1 _), heap_alloc_new w1 _, World.ownsRow_nil _ _ _ _, rfl, hrd.lt⟩)
      clear hB1 hrb hrd)
   | (go_at_call 73; (with_reducible refine (st_c6 _ _ _ HT1.out.box.rd).mono ?_); rintro e w2 ⟨hg2, hr2, rfl⟩
      have HT2 := Lib.hid (HT1.out.read hg2 hr2)
      clear hg2 hr2)
   | fail)
 obtain ⟨N, hN⟩ : ∃ N, N = cnV 6 (some val) := ⟨_, rfl⟩
 obtain ⟨s0, hs0⟩ : ∃ s0, s0 = cnS 6 (some val) := ⟨_, rfl⟩
 obtain ⟨pt, hpt⟩ : ∃ pt : PT, pt = ⟨nm, colsV N s0, cnV 1600 (colsS N s0), inV (cnS 1600 (colsS N s0)), inV (inS (cnS 1600 (colsS N s0)))⟩ := ⟨_, rfl⟩
 have HN1 := Lib.hid (show endR (inS (inS (cnS 1600 (colsS N s0)))) = true → oneT T X nm (some val) = if errT T pt = 0 then some (putT T pt, X) else none from fun h => by
   have e : tabF nm (some val) = some pt := by unfold tabF; rw [← hN, ← hs0, if_pos h, hpt]
   unfold oneT
   rw [e])
 have HN0 := Lib.hid (show endR (inS (inS (cnS 1600 (colsS N s0)))) = false → oneT T X nm (some val) = none from fun h => by
   have e : tabF nm (some val) = none := by unfold tabF; rw [← hN, ← hs0, if_neg (by rw [h]; decide)]
   unfold oneT
   rw [e])
 have HPT := Lib.hid hpt
 have hN6 : N ≤ 6 := by rw [hN]; exact cnV_le _ _
 rw [← hN]
 rw [← hs0] at HT2
 clear hN hs0 hpt
 go_loopw [23] (fun i wr => ∃ (j : Nat) (va : Option Addr) (vc : Nat), j ≤ N ∧ i = .int .i64 j ∧ Hid (OneT w A n c ia mx ic rb (colsS j s0) w1.heap.size nm va j vc (colsV j s0) wr)) (fun i _ => N - (intOf i).toNat)
 case atStart => exact ⟨0, none, 0, Nat.zero_le _, rfl, HT2⟩
 case round =>
   obtain ⟨j, va, vc, hj, rfl, HT⟩ := hrel
   obtain ⟨wo, rfl⟩ : ∃ wo : World, wo = wr := ⟨_, rfl⟩
   by_cases hlt : j < N
   · have HT0 := Lib.hid (HT.out.keep (Below.refl _ _).drew)
     have z0 : wo.drew.cell? ⟨w1.heap.size, 1, none⟩ = some (.slice va j vc) := cell_of_row _ _ 1 _ _ _ HT0.out.tab
     go_wp2_with fail
     go_region_law (first
       | (go_simp; go_at_call 74; (with_reducible refine (st_t12 _ _ _ HT0.out.box.rd).mono ?_); rintro e w5 ⟨hg5, hr5, rfl⟩
          have HT5 := Lib.hid (HT0.out.read hg5 hr5)
          have z5 : w5.cell? ⟨w1.heap.size, 1, none⟩ = some (.slice va j vc) := cell_of_row _ _ 1 _ _ _ HT5.out.tab
          clear hg5 hr5)
       | (go_simp; go_at_call 73; (with_reducible refine (st_c3 _ _ _ HT5.out.box.rd).mono ?_); rintro e w6 ⟨hg6, hr6, rfl⟩
          have HT6 := Lib.hid (HT5.out.read hg6 hr6)
          have z6 : w6.cell? ⟨w1.heap.size, 1, none⟩ = some (.slice va j vc) := cell_of_row _ _ 1 _ _ _ HT6.out.tab
          clear hg6 hr6)
       | (go_simp; go_at_call 75; (with_reducible refine (st_bool _ _ _ HT6.out.box.rd).mono ?_); rintro e w7 ⟨hg7, hr7, rfl⟩
          have HT7 := Lib.hid (HT6.out.read hg7 hr7)
          have z7 : w7.cell? ⟨w1.heap.size, 1, none⟩ = some (.slice va j vc) := cell_of_row _ _ 1 _ _ _ HT7.out.tab
          have z7b : ∀ O, (w7.alloc O).cell? ⟨w1.heap.size, 1, none⟩ = some (.slice va j vc) := fun O => cell_kept z7 (below1 w7 O)
          clear hg7 hr7)
       | (refine step_col _ (by rfl) (.tmp 26) (.tmp 34) (by rfl) (rb + 1) (.slice va j vc) j ((colsV j s0).map colL).flatten (by rfl) (own_kept HT7.out.own (below1 w7 _) (Nat.le_refl _)) w7.heap.size 1 (colV (colsS j s0)) (by rfl) (heap_alloc_new w7 _) (by omega) (by have := HT7.out.box.rd.lt; simp; omega) ?_
          intro v8 w8 hown hgr hat
          obtain ⟨g, cap, rfl⟩ := own_slice hown
          have HM := Lib.hid (HT7.out.more hown hgr)
          have z8 := cell_of_row _ _ 1 _ _ _ HM.out.2
          have g8 := frozen_of_row _ _ 1 _ _ HM.out.2
          clear hown hgr hat)
       | fail)
     all_goals
       go_wp2_with fail
       go_roundw
       case rel => exact ⟨j + 1, _, _, by omega, by go_num, Lib.hid HM.out.1⟩
       case measure => simp [intOf] <;> omega
   · obtain rfl : j = N := by omega
     generalize hS4 : endR (inS (inS (cnS 1600 (colsS j s0)))) = E4 at HN1 HN0
     generalize hx : cnV 1600 (colsS j s0) = x at HPT
     generalize hy : inV (cnS 1600 (colsS j s0)) = y at HPT
     generalize hz : inV (inS (cnS 1600 (colsS j s0))) = z at HPT
     have HC5 := Lib.hid (show ∀ W, RdAt W rb (colsS j s0) → Calls Tryz.prog 73 #[.pointer (some ⟨rb, 0, none⟩), .int .i64 1600] W (StepP W rb (cnS 1600 (colsS j s0)) (.int .i64 (x : Nat))) from fun W h => by rw [← hx]; exact st_c1600 _ _ _ h)
     have HC6 := Lib.hid (show ∀ W, RdAt W rb (cnS 1600 (colsS j s0)) → Calls Tryz.prog 76 #[.pointer (some ⟨rb, 0, none⟩)] W (StepP W rb (inS (cnS 1600 (colsS j s0))) (.int .i64 y)) from fun W h => by rw [← hy]; exact st_int _ _ _ h)
     have HC7 := Lib.hid (show ∀ W, RdAt W rb (inS (cnS 1600 (colsS j s0))) → Calls Tryz.prog 76 #[.pointer (some ⟨rb, 0, none⟩)] W (StepP W rb (inS (inS (cnS 1600 (colsS j s0)))) (.int .i64 z)) from fun W h => by rw [← hz]; exact st_int _ _ _ h)
     have HC8 := Lib.hid (show ∀ W, RdAt W rb (inS (inS (cnS 1600 (colsS j s0)))) → Calls Tryz.prog 77 #[.pointer (some ⟨rb, 0, none⟩)] W fun e w' => ∃ er : Int, e = .returned (.int .i64 er) ∧ (er == 0) = E4 ∧ W.grownBy w' (some rb) from fun W h => by rw [← hS4]; exact rd_end _ _ _ h)
     clear hS4 hx hy hz
     generalize inS (inS (cnS 1600 (colsS j s0))) = S4 at HC7 HC8
     generalize inS (cnS 1600 (colsS j s0)) = S3 at HC6 HC7
     generalize cnS 1600 (colsS j s0) = S2 at HC5 HC6
     generalize colsS j s0 = S1 at HT HC5
     generalize colsV j s0 = cols at HT HPT
     cases E4 with
     | true =>
       have HN := Lib.hid (HN1.out rfl)
       clear HN1 HN0
       go_wp2_with (first
         | (go_at_call 73; (with_reducible refine (HC5.out _ HT.out.box.rd).mono ?_); rintro e w5 ⟨hg5, hr5, rfl⟩
            have HT5 := Lib.hid (HT.out.read hg5 hr5)
            clear hg5 hr5 HC5)
         | (go_at_call 76; first
            | (with_reducible refine (HC6.out _ HT5.out.box.rd).mono ?_
               rintro e w6 ⟨hg6, hr6, rfl⟩
               have HT6 := Lib.hid (HT5.out.read hg6 hr6)
               clear hg6 hr6 HC6)
            | (with_reducible refine (HC7.out _ HT6.out.box.rd).mono ?_
               rintro e w7 ⟨hg7, hr7, rfl⟩
               have HT7 := Lib.hid (HT6.out.read hg7 hr7)
               have t2 := cell_of_row _ _ 2 _ _ _ HT7.out.tab
               have t3 := cell_of_row _ _ 3 _ _ _ HT7.out.tab
               have t4 := cell_of_row _ _ 4 _ _ _ HT7.out.tab
               have y2 := frozen_of_row _ _ 2 _ _ HT7.out.tab
               have y3 := frozen_of_row _ _ 3 _ _ HT7.out.tab
               have y4 := frozen_of_row _ _ 4 _ _ HT7.out.tab
               have HF := Lib.hid (HT7.out.fields x y z)
               clear hg7 hr7 HC7))
         | (go_at_call 77; (with_reducible refine (HC8.out _ HF.out.box.rd).mono ?_); rintro e w8 ⟨er, rfl, her, hg8⟩
            obtain rfl : er = 0 := by simpa using her
            obtain ⟨hB8, a8, s8, t8, r8⟩ := HF.out.ended (by omega) hg8
            have HB8 := Lib.hid hB8
            have HS8 := Lib.hid s8
            have HP8 := Lib.hid (show Calls Tryz.prog 27 #[.agg #[.slice A n c, .slice ia mx ic], .agg #[.string nm, .slice va j vc, .int .i64 (x : Nat), .int .i64 y, .int .i64 z]] w8 (OutP w8 (errT T pt) (putT T pt) X) from by rw [HPT.out]; exact HPUT.out ⟨nm, va, j, vc, (x : Nat), y, z⟩ cols w8 hB8 r8)
            have a0 := cell_of_row _ _ 0 _ _ _ a8
            have a1 := cell_of_row _ _ 1 _ _ _ a8
            have b0 := cell_of_row _ _ 0 _ _ _ s8
            have b1 := cell_of_row _ _ 1 _ _ _ s8
            have f0 := frozen_of_row _ _ 0 _ _ s8
            have f1 := frozen_of_row _ _ 1 _ _ s8
            have u0 := cell_of_row _ _ 0 _ _ _ t8
            have u1 := cell_of_row _ _ 1 _ _ _ t8
            have u2 := cell_of_row _ _ 2 _ _ _ t8
            have u3 := cell_of_row _ _ 3 _ _ _ t8
            have u4 := cell_of_row _ _ 4 _ _ _ t8
            clear t2 t3 t4 y2 y3 y4
            clear her hg8 hB8 a8 s8 t8 r8 HC8)
         | (go_at_call 27; (with_reducible refine HP8.out.mono ?_); rintro e w9 ⟨hB9, hO⟩
            have HB9 := Lib.hid (HB8.out.trans (hB9.mono HB8.out.size))
            have HS9 := Lib.hid ((hB9.block _ (heap_lt HS8.out)).trans HS8.out)
            have b0 := cell_of_row _ _ 0 _ _ _ HS9.out
            have b1 := cell_of_row _ _ 1 _ _ _ HS9.out
            have f0 := frozen_of_row _ _ 0 _ _ HS9.out
            have f1 := frozen_of_row _ _ 1 _ _ HS9.out
            have HL8 := Lib.hid HB8.out.size
            have HRB := Lib.hid (show w.heap.size + 1 < w8.heap.size from heap_lt HS8.out)
            rcases hO with ⟨h0, A9, ia9, c9, ic9, hh, ts9, xs9, rfl, hS9, hT9, hX9⟩ | ⟨hne, rfl⟩
            all_goals first
            | (have HZ := Lib.hid h0
               have HO9 := Lib.hid hS9
               have HT9 := Lib.hid hT9
               have HX9 := Lib.hid hX9
               generalize hn9 : ts9.length = n9 at HO9 ⊢
               generalize hm9 : xs9.length = m9 at HO9 ⊢
               have HN9 := Lib.hid hn9
               have HM9 := Lib.hid hm9
               clear hB9 hS9 hT9 hX9 h0 hn9 hm9)
            | (have HNE := Lib.hid hne
               clear hB9 hne))
         | fail)
       · refine bodyPost_ret (v := .tuple #[.agg #[.slice A9 n9 c9, .slice ia9 m9 ic9], .int .i64 0]) (by simp [results, Tryz.results49, go_sem, b0, b1]) rfl ?_
         refine ⟨(HB9.out.setCell (p := ⟨w.heap.size + 1, 0, none⟩) (Nat.le_succ _) _).setCell (p := ⟨w.heap.size + 1, 1, none⟩) (Nat.le_succ _) _, Or.inr ⟨A9, ia9, c9, ic9, hh, ts9, xs9, ?_, by rw [HN9.out, HM9.out], ?_⟩⟩
         · rw [HN.out, if_pos HZ.out, HT9.out, HX9.out]
         · rw [HN9.out, HM9.out]
           have h1 := HS9.out
           have hlt := HL8.out
           exact ((HO9.out.box (w.heap.size + 1) 0 _ (Or.inl (by have := HRB.out; omega))).box (w.heap.size + 1) 1 _ (Or.inl (by have := HRB.out; omega))).le (by omega)
       · refine bodyPost_ret (v := .tuple #[.agg #[.slice none 0 0, .slice none 0 0], .int .i64 (errT T pt)]) (by simp [results, Tryz.results49, go_sem, b0, b1]) rfl ?_
         exact ⟨(HB9.out.setCell (p := ⟨w.heap.size + 1, 0, none⟩) (Nat.le_succ _) _).setCell (p := ⟨w.heap.size + 1, 1, none⟩) (Nat.le_succ _) _, Or.inl ⟨by rw [HN.out, if_neg HNE.out], _, _, _, _, _, _, _, HNE.out, rfl⟩⟩
     | false =>
       have HN := Lib.hid (HN0.out rfl)
       clear HN1 HN0
       go_wp2_with (first
         | (go_at_call 73; (with_reducible refine (HC5.out _ HT.out.box.rd).mono ?_); rintro e w5 ⟨hg5, hr5, rfl⟩
            have HT5 := Lib.hid (HT.out.read hg5 hr5)
            clear hg5 hr5 HC5)
         | (go_at_call 76; first
            | (with_reducible refine (HC6.out _ HT5.out.box.rd).mono ?_
               rintro e w6 ⟨hg6, hr6, rfl⟩
               have HT6 := Lib.hid (HT5.out.read hg6 hr6)
               clear hg6 hr6 HC6)
            | (with_reducible refine (HC7.out _ HT6.out.box.rd).mono ?_
               rintro e w7 ⟨hg7, hr7, rfl⟩
               have HT7 := Lib.hid (HT6.out.read hg7 hr7)
               have t2 := cell_of_row _ _ 2 _ _ _ HT7.out.tab
               have t3 := cell_of_row _ _ 3 _ _ _ HT7.out.tab
               have t4 := cell_of_row _ _ 4 _ _ _ HT7.out.tab
               have y2 := frozen_of_row _ _ 2 _ _ HT7.out.tab
               have y3 := frozen_of_row _ _ 3 _ _ HT7.out.tab
               have y4 := frozen_of_row _ _ 4 _ _ HT7.out.tab
               have HF := Lib.hid (HT7.out.fields x y z)
               clear hg7 hr7 HC7))
         | (go_at_call 77; (with_reducible refine (HC8.out _ HF.out.box.rd).mono ?_); rintro e w8 ⟨er, rfl, her, hg8⟩
            have r1 : (er != 0) = true := by rw [bne_iff_ne]; intro e; rw [e] at her; simp at her
            have HER := Lib.hid (show er ≠ 0 from bne_iff_ne.1 r1)
            obtain ⟨hB8, a8, s8, t8, r8⟩ := HF.out.ended (by omega) hg8
            have HB8 := Lib.hid hB8
            have HS8 := Lib.hid s8
            have HP8 := Lib.hid (show Calls Tryz.prog 27 #[.agg #[.slice A n c, .slice ia mx ic], .agg #[.string nm, .slice va j vc, .int .i64 (x : Nat), .int .i64 y, .int .i64 z]] w8 (OutP w8 (errT T pt) (putT T pt) X) from by rw [HPT.out]; exact HPUT.out ⟨nm, va, j, vc, (x : Nat), y, z⟩ cols w8 hB8 r8)
            have a0 := cell_of_row _ _ 0 _ _ _ a8
            have a1 := cell_of_row _ _ 1 _ _ _ a8
            have b0 := cell_of_row _ _ 0 _ _ _ s8
            have b1 := cell_of_row _ _ 1 _ _ _ s8
            have f0 := frozen_of_row _ _ 0 _ _ s8
            have f1 := frozen_of_row _ _ 1 _ _ s8
            have u0 := cell_of_row _ _ 0 _ _ _ t8
            have u1 := cell_of_row _ _ 1 _ _ _ t8
            have u2 := cell_of_row _ _ 2 _ _ _ t8
            have u3 := cell_of_row _ _ 3 _ _ _ t8
            have u4 := cell_of_row _ _ 4 _ _ _ t8
            clear t2 t3 t4 y2 y3 y4
            clear her hg8 hB8 a8 s8 t8 r8 HC8)
         | fail)
       refine bodyPost_ret (v := .tuple #[.agg #[.slice A n c, .slice ia mx ic], .int .i64 er]) (by simp [results, Tryz.results49, go_sem, b0, b1]) rfl ?_
       exact ⟨(HB8.out.setCell (p := ⟨w.heap.size + 1, 0, none⟩) (Nat.le_succ _) _).setCell (p := ⟨w.heap.size + 1, 1, none⟩) (Nat.le_succ _) _, Or.inl ⟨HN.out, _, _, _, _, _, _, er, HER.out, rfl⟩⟩
end Go.Proofs.YtcgpflkaejbkhaaGreatDoor
namespace Go.Proofs.YtcgpflkaejbkhaaGreatDoor
open Go.RowKit

set_option maxRecDepth 100000 in
set_option maxHeartbeats 16000000 in
theorem one_idx (m : Int) (gt : Nat → Nat) (ht : ∀ j, j < 23 → finD (Ieee.double.read (gt j)) = true) (A : Option Addr) (c : Nat) (ts : List (Tab × List Col)) (ia : Option Addr) (ic : Nat) (xs : List (Idx × List Int)) (nm : ByteArray) (vA : Option Addr) (vc : Nat) (val : List UInt8) (w : World) (hG : Glob m gt w) (hS : ReadS w A ia ts xs) (hv : BtAt w vA val) (hvl : val.length ≤ 1000) :
   Calls Tryz.prog 49 #[.agg #[.slice A ts.length c, .slice ia xs.length ic], .int .u8 105, .string nm, .slice vA val.length vc] w (EntP w (oneX (ts.map ptOf) (xs.map pxOf) nm (some val))) := by
 have HPUT := Lib.hid (show ∀ (t : Idx) (cl : List Int) W, Below w.heap.size w W → ReadIdx W t cl → Calls Tryz.prog 30 #[.agg #[.slice A ts.length c, .slice ia xs.length ic], .agg #[.string t.name, .string t.table, .slice t.pa t.pn t.pc, .int .i64 t.state, .int .i64 t.root, .int .i64 t.cursor]] W (OutP W (errX (ts.map ptOf) (xs.map pxOf) (pxOf (t, cl))) (ts.map ptOf) (putX (xs.map pxOf) (pxOf (t, cl)))) from fun t cl W hB ht2 => putx_all m gt ht A c ts ia ic xs t cl W (hG.keep hB) (hS.keep hB) ht2)
 have HRD := Lib.hid (show ∀ W, Below w.heap.size w W → Calls Tryz.prog 72 #[.slice vA val.length vc] W fun e w' => ∃ rb : Nat, e = .returned (.pointer (some ⟨rb, 0, none⟩)) ∧ Below W.heap.size W w' ∧ W.heap.size ≤ rb ∧ RdAt w' rb (some val) from fun W hB => rd_read vA vc val W (hv.keep hB) (by omega))
 have HB0 := Lib.hid (show Below w.heap.size w ((w.alloc (.cells #[.slice A ts.length c, .slice ia xs.length ic] 36)).alloc (.cells #[.slice none 0 0, .slice none 0 0] 36)) from (below1 w _).alloc (by simp) _)
 generalize hT : ts.map ptOf = T at HPUT ⊢
 generalize hX : xs.map pxOf = X at HPUT ⊢
 generalize ts.length = n at HPUT HB0 ⊢
 generalize xs.length = mx at HPUT HB0 ⊢
 generalize val.length = vn at HRD ⊢
 clear hG hS hv hvl ht hT hX
 obtain ⟨tn, htn⟩ : ∃ tn, tn = txV 12 (some val) := ⟨_, rfl⟩
 obtain ⟨sT, hsT⟩ : ∃ sT, sT = txS 12 (some val) := ⟨_, rfl⟩
 obtain ⟨N, hN⟩ : ∃ N, N = cnV 3 sT := ⟨_, rfl⟩
 obtain ⟨s0, hs0⟩ : ∃ s0, s0 = cnS 3 sT := ⟨_, rfl⟩
 have HCT := Lib.hid (show ∀ (rb : Nat) W, RdAt W rb (some val) → Calls Tryz.prog 74 #[.pointer (some ⟨rb, 0, none⟩), .int .i64 12] W (StepP W rb sT (.string tn)) from fun rb W h => by rw [hsT, htn]; exact st_t12 _ _ _ h)
 have HCC := Lib.hid (show ∀ (rb : Nat) W, RdAt W rb sT → Calls Tryz.prog 73 #[.pointer (some ⟨rb, 0, none⟩), .int .i64 3] W (StepP W rb s0 (.int .i64 (N : Nat))) from fun rb W h => by rw [hs0, hN]; exact st_c3 _ _ _ h)
 obtain ⟨px, hpx⟩ : ∃ px : PX, px = ⟨nm, tn, plsV N s0, cnV 3 (plsS N s0), cnV 1600 (cnS 3 (plsS N s0)), inV (cnS 1600 (cnS 3 (plsS N s0)))⟩ := ⟨_, rfl⟩
 have HN1 := Lib.hid (show endR (inS (cnS 1600 (cnS 3 (plsS N s0)))) = true → oneX T X nm (some val) = if errX T X px = 0 then some (T, putX X px) else none from fun h => by
   have e : idxF nm (some val) = some px := by unfold idxF; rw [← hsT, ← hN, ← hs0, if_pos h, hpx, htn]
   unfold oneX
   rw [e])
 have HN0 := Lib.hid (show endR (inS (cnS 1600 (cnS 3 (plsS N s0)))) = false → oneX T X nm (some val) = none from fun h => by
   have e : idxF nm (some val) = none := by unfold idxF; rw [← hsT, ← hN, ← hs0, if_neg (by rw [h]; decide)]
   unfold oneX
   rw [e])
 have HPT := Lib.hid hpx
 have hN6 : N ≤ 3 := by rw [hN]; exact cnV_le _ _
 clear hN hs0 hpx htn hsT
 go_enter Tryz.func49, Tryz.ntmps49
 go_wp2_with (first
   | (go_at_call 72; (with_reducible refine (HRD.out _ HB0.out).mono ?_); rintro e w1 ⟨rb, rfl, hB1, hrb, hrd⟩
      have HK1 := Lib.hid (OneK.start hB1 hrd hrb)
      clear hB1 hrb hrd)
   | (go_at_call 74; (with_reducible refine (HCT.out _ _ HK1.out.rd).mono ?_); rintro e w2 ⟨hg2, hr2, rfl⟩
      have HK2 := Lib.hid (HK1.out.read hg2 hr2)
      have HT1 := Lib.hid (show OneX w A n c ia mx ic rb sT w2.heap.size nm tn none 0 0 [] 0 0 0 (w2.alloc (.cells #[.string nm, .string tn, .slice none 0 0, .int .i64 0, .int .i64 0, .int .i64 0] 28)) from ⟨HK2.out.keep (below1 w2 _), heap_alloc_new w2 _, World.ownsRow_nil _ _ _ _, rfl, hr2.lt⟩)
      clear hg2 hr2)
   | (go_at_call 73; (with_reducible refine (HCC.out _ _ HT1.out.box.rd).mono ?_); rintro e w3 ⟨hg3, hr3, rfl⟩
      have HT2 := Lib.hid (HT1.out.read hg3 hr3)
      clear hg3 hr3)
   | fail)
 go_loopw [64] (fun i wr => ∃ (j : Nat) (va : Option Addr) (vc : Nat), j ≤ N ∧ i = .int .i64 j ∧ Hid (OneX w A n c ia mx ic rb (plsS j s0) w2.heap.size nm tn va j vc (plsV j s0) 0 0 0 wr)) (fun i _ => N - (intOf i).toNat)
 case atStart => exact ⟨0, none, 0, Nat.zero_le _, rfl, HT2⟩
 case round =>
   obtain ⟨j, va, vc, hj, rfl, HT⟩ := hrel
   obtain ⟨wo, rfl⟩ : ∃ wo : World, wo = wr := ⟨_, rfl⟩
   by_cases hlt : j < N
   · have HT0 := Lib.hid (HT.out.keep (Below.refl _ _).drew)
     have z0 : wo.drew.cell? ⟨w2.heap.size, 2, none⟩ = some (.slice va j vc) := cell_of_row _ _ 2 _ _ _ HT0.out.tab
     go_wp2_with fail
     go_region_law (first
       | (go_simp; go_at_call 73; (with_reducible refine (st_c6 _ _ _ HT0.out.box.rd).mono ?_); rintro e w7 ⟨hg7, hr7, rfl⟩
          have HT7 := Lib.hid (HT0.out.read hg7 hr7)
          have z7 : w7.cell? ⟨w2.heap.size, 2, none⟩ = some (.slice va j vc) := cell_of_row _ _ 2 _ _ _ HT7.out.tab
          have z7b : ∀ O, (w7.alloc O).cell? ⟨w2.heap.size, 2, none⟩ = some (.slice va j vc) := fun O => cell_kept z7 (below1 w7 O)
          clear hg7 hr7)
       | (refine step_int _ (by rfl) (.tmp 67) (.tmp 70) (by rfl) (rb + 1) (.slice va j vc) j ((plsV j s0).map (Value.int .i64)) (by rfl) (own_kept HT7.out.own (below1 w7 _) (Nat.le_refl _)) w7.heap.size 1 (cnV 6 (plsS j s0) : Nat) (by rfl) (heap_alloc_new w7 _) (by omega) (by have := HT7.out.box.rd.lt; simp; omega) ?_
          intro v8 w8 hown hgr hat
          obtain ⟨g, cap, rfl⟩ := own_slice hown
          have HM := Lib.hid (HT7.out.more hown hgr)
          have z8 := cell_of_row _ _ 2 _ _ _ HM.out.2
          have g8 := frozen_of_row _ _ 2 _ _ HM.out.2
          clear hown hgr hat)
       | fail)
     all_goals
       go_wp2_with fail
       go_roundw
       case rel => exact ⟨j + 1, _, _, by omega, by go_num, Lib.hid HM.out.1⟩
       case measure => simp [intOf] <;> omega
   · obtain rfl : j = N := by omega
     generalize hS4 : endR (inS (cnS 1600 (cnS 3 (plsS j s0)))) = E4 at HN1 HN0
     generalize hx : cnV 3 (plsS j s0) = x at HPT
     generalize hy : cnV 1600 (cnS 3 (plsS j s0)) = y at HPT
     generalize hz : inV (cnS 1600 (cnS 3 (plsS j s0))) = z at HPT
     have HC5 := Lib.hid (show ∀ W, RdAt W rb (plsS j s0) → Calls Tryz.prog 73 #[.pointer (some ⟨rb, 0, none⟩), .int .i64 3] W (StepP W rb (cnS 3 (plsS j s0)) (.int .i64 (x : Nat))) from fun W h => by rw [← hx]; exact st_c3 _ _ _ h)
     have HC6 := Lib.hid (show ∀ W, RdAt W rb (cnS 3 (plsS j s0)) → Calls Tryz.prog 73 #[.pointer (some ⟨rb, 0, none⟩), .int .i64 1600] W (StepP W rb (cnS 1600 (cnS 3 (plsS j s0))) (.int .i64 (y : Nat))) from fun W h => by rw [← hy]; exact st_c1600 _ _ _ h)
     have HC7 := Lib.hid (show ∀ W, RdAt W rb (cnS 1600 (cnS 3 (plsS j s0))) → Calls Tryz.prog 76 #[.pointer (some ⟨rb, 0, none⟩)] W (StepP W rb (inS (cnS 1600 (cnS 3 (plsS j s0)))) (.int .i64 z)) from fun W h => by rw [← hz]; exact st_int _ _ _ h)
     have HC8 := Lib.hid (show ∀ W, RdAt W rb (inS (cnS 1600 (cnS 3 (plsS j s0)))) → Calls Tryz.prog 77 #[.pointer (some ⟨rb, 0, none⟩)] W fun e w' => ∃ er : Int, e = .returned (.int .i64 er) ∧ (er == 0) = E4 ∧ W.grownBy w' (some rb) from fun W h => by rw [← hS4]; exact rd_end _ _ _ h)
     clear hS4 hx hy hz
     generalize inS (cnS 1600 (cnS 3 (plsS j s0))) = S4 at HC7 HC8
     generalize cnS 1600 (cnS 3 (plsS j s0)) = S3 at HC6 HC7
     generalize cnS 3 (plsS j s0) = S2 at HC5 HC6
     generalize plsS j s0 = S1 at HT HC5
     generalize plsV j s0 = cols at HT HPT
     cases E4 with
     | true =>
       have HN := Lib.hid (HN1.out rfl)
       clear HN1 HN0
       go_wp2_with (first
         | (go_at_call 73; first
            | (with_reducible refine (HC6.out _ HT5.out.box.rd).mono ?_
               rintro e w6 ⟨hg6, hr6, rfl⟩
               have HT6 := Lib.hid (HT5.out.read hg6 hr6)
               clear hg6 hr6 HC6)
            | (with_reducible refine (HC5.out _ HT.out.box.rd).mono ?_
               rintro e w5 ⟨hg5, hr5, rfl⟩
               have HT5 := Lib.hid (HT.out.read hg5 hr5)
               clear hg5 hr5 HC5))
         | (go_at_call 76; first
            | (with_reducible refine (HC7.out _ HT6.out.box.rd).mono ?_
               rintro e w7 ⟨hg7, hr7, rfl⟩
               have HT7 := Lib.hid (HT6.out.read hg7 hr7)
               have t2 := cell_of_row _ _ 5 _ _ _ HT7.out.tab
               have t3 := cell_of_row _ _ 3 _ _ _ HT7.out.tab
               have t4 := cell_of_row _ _ 4 _ _ _ HT7.out.tab
               have y2 := frozen_of_row _ _ 5 _ _ HT7.out.tab
               have y3 := frozen_of_row _ _ 3 _ _ HT7.out.tab
               have y4 := frozen_of_row _ _ 4 _ _ HT7.out.tab
               have HF := Lib.hid (HT7.out.fields x y z)
               clear hg7 hr7 HC7))
         | (go_at_call 77; (with_reducible refine (HC8.out _ HF.out.box.rd).mono ?_); rintro e w8 ⟨er, rfl, her, hg8⟩
            obtain rfl : er = 0 := by simpa using her
            obtain ⟨hB8, a8, s8, t8, r8⟩ := HF.out.ended (by omega) hg8
            have HB8 := Lib.hid hB8
            have HS8 := Lib.hid s8
            have HP8 := Lib.hid (show Calls Tryz.prog 30 #[.agg #[.slice A n c, .slice ia mx ic], .agg #[.string nm, .string tn, .slice va j vc, .int .i64 (x : Nat), .int .i64 (y : Nat), .int .i64 z]] w8 (OutP w8 (errX T X px) T (putX X px)) from by rw [HPT.out]; exact HPUT.out ⟨nm, tn, va, j, vc, (x : Nat), (y : Nat), z⟩ cols w8 hB8 r8)
            have a0 := cell_of_row _ _ 0 _ _ _ a8
            have a1 := cell_of_row _ _ 1 _ _ _ a8
            have b0 := cell_of_row _ _ 0 _ _ _ s8
            have b1 := cell_of_row _ _ 1 _ _ _ s8
            have f0 := frozen_of_row _ _ 0 _ _ s8
            have f1 := frozen_of_row _ _ 1 _ _ s8
            have u0 := cell_of_row _ _ 0 _ _ _ t8
            have u1 := cell_of_row _ _ 1 _ _ _ t8
            have u2 := cell_of_row _ _ 2 _ _ _ t8
            have u3 := cell_of_row _ _ 3 _ _ _ t8
            have u4 := cell_of_row _ _ 4 _ _ _ t8
            have u5 := cell_of_row _ _ 5 _ _ _ t8
            clear t2 t3 t4 y2 y3 y4
            clear her hg8 hB8 a8 s8 t8 r8 HC8)
         | (go_at_call 30; (with_reducible refine HP8.out.mono ?_); rintro e w9 ⟨hB9, hO⟩
            have HB9 := Lib.hid (HB8.out.trans (hB9.mono HB8.out.size))
            have HS9 := Lib.hid ((hB9.block _ (heap_lt HS8.out)).trans HS8.out)
            have b0 := cell_of_row _ _ 0 _ _ _ HS9.out
            have b1 := cell_of_row _ _ 1 _ _ _ HS9.out
            have f0 := frozen_of_row _ _ 0 _ _ HS9.out
            have f1 := frozen_of_row _ _ 1 _ _ HS9.out
            have HL8 := Lib.hid HB8.out.size
            have HRB := Lib.hid (show w.heap.size + 1 < w8.heap.size from heap_lt HS8.out)
            rcases hO with ⟨h0, A9, ia9, c9, ic9, hh, ts9, xs9, rfl, hS9, hT9, hX9⟩ | ⟨hne, rfl⟩
            all_goals first
            | (have HZ := Lib.hid h0
               have HO9 := Lib.hid hS9
               have HT9 := Lib.hid hT9
               have HX9 := Lib.hid hX9
               generalize hn9 : ts9.length = n9 at HO9 ⊢
               generalize hm9 : xs9.length = m9 at HO9 ⊢
               have HN9 := Lib.hid hn9
               have HM9 := Lib.hid hm9
               clear hB9 hS9 hT9 hX9 h0 hn9 hm9)
            | (have HNE := Lib.hid hne
               clear hB9 hne))
         | fail)
       · refine bodyPost_ret (v := .tuple #[.agg #[.slice A9 n9 c9, .slice ia9 m9 ic9], .int .i64 0]) (by simp [results, Tryz.results49, go_sem, b0, b1]) rfl ?_
         refine ⟨(HB9.out.setCell (p := ⟨w.heap.size + 1, 0, none⟩) (Nat.le_succ _) _).setCell (p := ⟨w.heap.size + 1, 1, none⟩) (Nat.le_succ _) _, Or.inr ⟨A9, ia9, c9, ic9, hh, ts9, xs9, ?_, by rw [HN9.out, HM9.out], ?_⟩⟩
         · rw [HN.out, if_pos HZ.out, HT9.out, HX9.out]
         · rw [HN9.out, HM9.out]
           have h1 := HS9.out
           have hlt := HL8.out
           exact ((HO9.out.box (w.heap.size + 1) 0 _ (Or.inl (by have := HRB.out; omega))).box (w.heap.size + 1) 1 _ (Or.inl (by have := HRB.out; omega))).le (by omega)
       · refine bodyPost_ret (v := .tuple #[.agg #[.slice none 0 0, .slice none 0 0], .int .i64 (errX T X px)]) (by simp [results, Tryz.results49, go_sem, b0, b1]) rfl ?_
         exact ⟨(HB9.out.setCell (p := ⟨w.heap.size + 1, 0, none⟩) (Nat.le_succ _) _).setCell (p := ⟨w.heap.size + 1, 1, none⟩) (Nat.le_succ _) _, Or.inl ⟨by rw [HN.out, if_neg HNE.out], _, _, _, _, _, _, _, HNE.out, rfl⟩⟩
     | false =>
       have HN := Lib.hid (HN0.out rfl)
       clear HN1 HN0
       go_wp2_with (first
         | (go_at_call 73; first
            | (with_reducible refine (HC6.out _ HT5.out.box.rd).mono ?_
               rintro e w6 ⟨hg6, hr6, rfl⟩
               have HT6 := Lib.hid (HT5.out.read hg6 hr6)
               clear hg6 hr6 HC6)
            | (with_reducible refine (HC5.out _ HT.out.box.rd).mono ?_
               rintro e w5 ⟨hg5, hr5, rfl⟩
               have HT5 := Lib.hid (HT.out.read hg5 hr5)
               clear hg5 hr5 HC5))
         | (go_at_call 76; first
            | (with_reducible refine (HC7.out _ HT6.out.box.rd).mono ?_
               rintro e w7 ⟨hg7, hr7, rfl⟩
               have HT7 := Lib.hid (HT6.out.read hg7 hr7)
               have t2 := cell_of_row _ _ 5 _ _ _ HT7.out.tab
               have t3 := cell_of_row _ _ 3 _ _ _ HT7.out.tab
               have t4 := cell_of_row _ _ 4 _ _ _ HT7.out.tab
               have y2 := frozen_of_row _ _ 5 _ _ HT7.out.tab
               have y3 := frozen_of_row _ _ 3 _ _ HT7.out.tab
               have y4 := frozen_of_row _ _ 4 _ _ HT7.out.tab
               have HF := Lib.hid (HT7.out.fields x y z)
               clear hg7 hr7 HC7))
         | (go_at_call 77; (with_reducible refine (HC8.out _ HF.out.box.rd).mono ?_); rintro e w8 ⟨er, rfl, her, hg8⟩
            have r1 : (er != 0) = true := by rw [bne_iff_ne]; intro e; rw [e] at her; simp at her
            have HER := Lib.hid (show er ≠ 0 from bne_iff_ne.1 r1)
            obtain ⟨hB8, a8, s8, t8, r8⟩ := HF.out.ended (by omega) hg8
            have HB8 := Lib.hid hB8
            have HS8 := Lib.hid s8
            have HP8 := Lib.hid (show Calls Tryz.prog 30 #[.agg #[.slice A n c, .slice ia mx ic], .agg #[.string nm, .string tn, .slice va j vc, .int .i64 (x : Nat), .int .i64 (y : Nat), .int .i64 z]] w8 (OutP w8 (errX T X px) T (putX X px)) from by rw [HPT.out]; exact HPUT.out ⟨nm, tn, va, j, vc, (x : Nat), (y : Nat), z⟩ cols w8 hB8 r8)
            have a0 := cell_of_row _ _ 0 _ _ _ a8
            have a1 := cell_of_row _ _ 1 _ _ _ a8
            have b0 := cell_of_row _ _ 0 _ _ _ s8
            have b1 := cell_of_row _ _ 1 _ _ _ s8
            have f0 := frozen_of_row _ _ 0 _ _ s8
            have f1 := frozen_of_row _ _ 1 _ _ s8
            have u0 := cell_of_row _ _ 0 _ _ _ t8
            have u1 := cell_of_row _ _ 1 _ _ _ t8
            have u2 := cell_of_row _ _ 2 _ _ _ t8
            have u3 := cell_of_row _ _ 3 _ _ _ t8
            have u4 := cell_of_row _ _ 4 _ _ _ t8
            have u5 := cell_of_row _ _ 5 _ _ _ t8
            clear t2 t3 t4 y2 y3 y4
            clear her hg8 hB8 a8 s8 t8 r8 HC8)
         | fail)
       refine bodyPost_ret (v := .tuple #[.agg #[.slice A n c, .slice ia mx ic], .int .i64 er]) (by simp [results, Tryz.results49, go_sem, b0, b1]) rfl ?_
       exact ⟨(HB8.out.setCell (p := ⟨w.heap.size + 1, 0, none⟩) (Nat.le_succ _) _).setCell (p := ⟨w.heap.size + 1, 1, none⟩) (Nat.le_succ _) _, Or.inl ⟨HN.out, _, _, _, _, _, _, er, HER.out, rfl⟩⟩
end Go.Proofs.YtcgpflkaejbkhaaGreatDoor
