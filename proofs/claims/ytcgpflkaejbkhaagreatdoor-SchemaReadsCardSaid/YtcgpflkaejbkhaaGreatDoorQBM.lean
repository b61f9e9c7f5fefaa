/- The walk of the document's Entries. -/
import Derived.Test.YtcgpflkaejbkhaaGreatDoorQBL
namespace Go.Proofs.YtcgpflkaejbkhaaGreatDoor
open Go.RowKit

set_option maxRecDepth 100000 in
set_option maxHeartbeats 16000000 in
theorem rents_any (A : Option Addr) (c : Nat) (ts : List (Tab × List Col)) (ia : Option Addr) (ic : Nat) (xs : List (Idx × List Int)) (w : World) (hD : DeepAt w A ts) (hX : DeepIx w ia xs) (hn : ts.length ≤ 1000) (hm : xs.length ≤ 1000) (hT : ∀ p ∈ ts, OkT (ptOf p)) (hX2 : ∀ p ∈ xs, OkX (pxOf p)) :
   Calls Tryz.prog 55 #[.agg #[.slice A ts.length c, .slice ia xs.length ic]] w (DEntsP w (entsP (ts.map ptOf) (xs.map pxOf))) := by
 obtain ⟨n, hnn⟩ : ∃ n, n = ts.length := ⟨_, rfl⟩
 obtain ⟨mx, hmm⟩ : ∃ n, n = xs.length := ⟨_, rfl⟩
 have HN := Lib.hid hnn
 have HM := Lib.hid hmm
 have HD := Lib.hid hD
 have HX := Lib.hid hX
 have HT := Lib.hid hT
 have HX2 := Lib.hid hX2
 rw [← hnn] at hn ⊢
 rw [← hmm] at hm ⊢
 have HB0 := Lib.hid (show RE w A n c ia mx ic (.slice none 0 0) 0 [] (w.alloc (.cells #[.slice A n c, .slice ia mx ic] 36)) from ⟨below1 w _, heap_alloc_new w _, World.ownsRow_nil _ _ _ _, rfl⟩)
 have HNM := Lib.hid (show ∀ (z : Int) (W : World), 0 ≤ z → z ≤ 1000000 → Calls Tryz.prog 89 #[.int .i64 z] W (RetV (.string (sB (numB z.toNat))) W) from fun z W h0 h1 => by
   have h := rwr_n z.toNat W (by omega)
   rw [Int.toNat_of_nonneg h0] at h
   exact h)
 have HIN := Lib.hid (show ∀ (z : Int) (W : World), 0 ≤ z → z ≤ 9223372036854775807 → Calls Tryz.prog 90 #[.int .i64 z] W (RetV (.string (sB (intB z))) W) from fun z W h0 h1 => rwr_int z W h0 h1)
 have HTX := Lib.hid (show ∀ (s : ByteArray) (W : World), s.size ≤ 100 → Calls Tryz.prog 88 #[.string s] W (RetV (.string (sB (textB s))) W) from fun s W h0 => rwr_text s W (by omega))
 clear hD hX hT hX2 hnn hmm
 go_enter Tryz.func55, Tryz.ntmps55
 go_wp2_with fail
 go_loopw [3, 4] (fun v i wr => ∃ (k : Nat) (L : List (List UInt8 × List UInt8)), k ≤ mx ∧ i = .int .i64 k ∧ Hid (RE w A n c ia mx ic v k L wr) ∧ Hid (L = ((xs.map pxOf).take k).map entX)) (fun _ i _ => mx - (intOf i).toNat)
 case atStart => exact ⟨0, [], Nat.zero_le _, rfl, HB0, Lib.hid rfl⟩
 case round =>
   clear HB0
   obtain ⟨k, L, hk, rfl, HE, HL⟩ := hrel
   obtain ⟨wo, rfl⟩ : ∃ wo : World, wo = wr := ⟨_, rfl⟩
   have q0 := cell_of_row _ _ 0 _ _ _ HE.out.arg
   have q1 := cell_of_row _ _ 1 _ _ _ HE.out.arg
   by_cases hlt : k < mx
   · obtain ⟨⟨x, pl⟩, hx⟩ : ∃ x, xs[k]? = some x := ⟨_, List.getElem?_eq_getElem (by have := HM.out; omega)⟩
     have HXK := Lib.hid (show L ++ [entX (pxOf (x, pl))] = ((xs.map pxOf).take (k + 1)).map entX by rw [HL.out, List.take_add_one, List.getElem?_map, hx]; simp)
     obtain ⟨hpl, hpn, hpc, hnone⟩ := HX.out.2 (x, pl) (List.mem_of_getElem? hx)
     have hok := HX2.out (x, pl) (List.mem_of_getElem? hx)
     dsimp only at hpl hpn hpc hnone
     obtain ⟨b, off, rfl, hbl, hcells⟩ : ∃ b off, ia = some ⟨b, off, none⟩ ∧ b < w.heap.size ∧ ∀ (i : Nat) (u : Value), (idxL x)[i]? = some u → w.cell? ⟨b, off + k * 6 + i, none⟩ = some u := by
       rcases HX.out.1.2 with h0' | ⟨b, off, h1, h2, h3⟩
       · exfalso
         have := List.map_eq_nil_iff.1 (List.map_eq_nil_iff.1 h0')
         subst this
         simp at hx
       · exact ⟨b, off, h1, h2, (h3 k _ (by rw [List.getElem?_map, List.getElem?_map, hx]; rfl)).2⟩
     obtain ⟨xn, xt, xa, xl, xc, xr, xo, xu⟩ := x
     obtain rfl : xl = pl.length := hpn
     have HPL := Lib.hid hpl
     have HXT := Lib.hid (show xt.size ≤ 100 from hok.table)
     have HXN := Lib.hid (show xn.size ≤ 100 from hok.name)
     have HXR := Lib.hid (show 0 ≤ xr ∧ xr ≤ 1000 from hok.state)
     have HXO := Lib.hid (show 0 ≤ xo ∧ xo ≤ 10000 from hok.root)
     have HXU := Lib.hid (show 0 ≤ xu ∧ xu ≤ 9223372036854775807 from hok.cursor)
     have HPC := Lib.hid (show ∀ z ∈ pl, 0 ≤ z ∧ z ≤ 1000 from hok.places)
     have hkk : ∀ (i : Nat) (u : Value), [Value.string xn, .string xt, .slice xa pl.length xc, .int .i64 xr, .int .i64 xo, .int .i64 xu][i]? = some u → wo.cell? ⟨b, off + k * 6 + i, none⟩ = some u := fun i u hi => (HE.out.below.cell (p := ⟨b, off + k * 6 + i, none⟩) hbl).trans (hcells i u hi)
     have k0 : wo.cell? ⟨b, off + k * 6, none⟩ = some (.string xn) := hkk 0 _ rfl
     have k1 : wo.cell? ⟨b, off + k * 6 + 1, none⟩ = some (.string xt) := hkk 1 _ rfl
     have k2 : wo.cell? ⟨b, off + k * 6 + 2, none⟩ = some (.slice xa pl.length xc) := hkk 2 _ rfl
     have k3 : wo.cell? ⟨b, off + k * 6 + 3, none⟩ = some (.int .i64 xr) := hkk 3 _ rfl
     have k4 : wo.cell? ⟨b, off + k * 6 + 4, none⟩ = some (.int .i64 xo) := hkk 4 _ rfl
     have k5 : wo.cell? ⟨b, off + k * 6 + 5, none⟩ = some (.int .i64 xu) := hkk 5 _ rfl
     have HP := Lib.hid (show pl.length ≤ 10 from hok.len)
     obtain ⟨pn, hpn2⟩ : ∃ pn, pn = pl.length := ⟨_, rfl⟩
     rw [← hpn2] at k2 HP
     have HPN := Lib.hid hpn2
     have hpn10 : pn ≤ 10 := HP.out
     obtain ⟨w4, hw4⟩ : ∃ w4, w4 = wo.alloc (.cells #[.string xn, .string xt, .slice xa pn xc, .int .i64 xr, .int .i64 xo, .int .i64 xu] 28) := ⟨_, rfl⟩
     have HB4 := Lib.hid (show REB w A n c (some ⟨b, off, none⟩) mx ic _ k L wo.heap.size #[.string xn, .string xt, .slice xa pn xc, .int .i64 xr, .int .i64 xo, .int .i64 xu] 28 w4.drew from ⟨HE.out.keep (by rw [hw4]; exact (below1 wo _).drew), by rw [hw4]; exact heap_alloc_new wo _⟩)
     have j1 : w4.drew.cell? ⟨wo.heap.size, 1, none⟩ = some (.string xt) := cell_of_row _ _ 1 _ _ _ HB4.out.box
     have j2 : w4.drew.cell? ⟨wo.heap.size, 2, none⟩ = some (.slice xa pn xc) := cell_of_row _ _ 2 _ _ _ HB4.out.box
     obtain ⟨S1, hS1⟩ : ∃ S1, S1 = sB (textB xt) := ⟨_, rfl⟩
     obtain ⟨S2, hS2⟩ : ∃ S2, S2 = sB (numB pn) := ⟨_, rfl⟩
     obtain ⟨L1, hL1⟩ : ∃ L1, L1 = textB xt ++ numB pn := ⟨_, rfl⟩
     have HL1 := Lib.hid hL1
     obtain ⟨S3, hS3⟩ : ∃ S3, S3 = sB L1 := ⟨_, rfl⟩
     have hadd : ∀ W, (Op.stringOp .add S1 S2).run Tryz.prog W = .ok (.string S3) W := fun W => by
       rw [hS1, hS2, hS3, hL1]
       exact add_sB _ _ (by have h1 := textB_len hok.table; have h2 := numB_ten (n := pn) (by omega); dsimp only [pxOf] at *; omega) W
     have HC1 := Lib.hid (show ∀ W, Calls Tryz.prog 88 #[.string xt] W (RetV (.string S1) W) from fun W => by rw [hS1]; exact HTX.out xt W HXT.out)
     have HC2 := Lib.hid (show ∀ W, Calls Tryz.prog 89 #[.int .i64 (pn : Int)] W (RetV (.string S2) W) from fun W => by rw [hS2]; exact HNM.out (pn : Int) W (by omega) (by omega))
     have HS3 := Lib.hid hS3
     clear hL1 hx hcells hkk hpl hok hpc hnone hpn2 hS1 hS2 hS3
     go_upto_region 6 with (fail)
     rw [← hw4]
     clear hw4 k0 k1 k2 k3 k4 k5 q0 q1
     go_cut [6] from 12 to 66 (fun s6 wc => s6 = .string S3 ∧ Hid (REB w A n c (some ⟨b, off, none⟩) mx ic _ k L wo.heap.size #[.string xn, .string xt, .slice xa pn xc, .int .i64 xr, .int .i64 xo, .int .i64 xu] 28 wc))
     case first =>
       go_region_law (first
         | (go_simp; go_at_call 88; (with_reducible refine (HC1.out _).mono ?_); rintro e w5 ⟨rfl, hB5⟩
            have HB5 := Lib.hid (HB4.out.keep hB5)
            have i2 : w5.cell? ⟨wo.heap.size, 2, none⟩ = some (.slice xa pn xc) := cell_of_row _ _ 2 _ _ _ HB5.out.box
            clear hB5)
         | (go_simp; go_at_call 89; (with_reducible refine (HC2.out _).mono ?_); rintro e w6 ⟨rfl, hB6⟩
            have HB6 := Lib.hid (HB5.out.keep hB6)
            clear hB6)
         | fail)
       all_goals
         go_wp2_with fail
         go_meet
         exact ⟨rfl, HB6⟩
     case rest =>
       obtain ⟨rfl, HB⟩ := hcut
       obtain ⟨w7, rfl⟩ : ∃ w7 : World, w7 = wc := ⟨_, rfl⟩
       clear HB4 j1 j2 HC1 HC2 hadd
       have z2 := cell_of_row _ _ 2 _ _ _ HB.out.box
       go_wp2_with fail
       clear z2
       go_loopw [6, 7] (fun vb i wr => ∃ (j : Nat) (S : ByteArray), j ≤ pn ∧ i = .int .i64 j ∧ vb = .string S ∧ Hid (S = sB (L1 ++ plB (pl.take j))) ∧ Hid (REB w A n c (some ⟨b, off, none⟩) mx ic _ k L wo.heap.size #[.string xn, .string xt, .slice xa pn xc, .int .i64 xr, .int .i64 xo, .int .i64 xu] 28 wr)) (fun _ i _ => pn - (intOf i).toNat)
       case atStart => exact ⟨0, S3, Nat.zero_le _, rfl, rfl, Lib.hid (by rw [show L1 ++ plB (pl.take 0) = L1 from List.append_nil _]; exact HS3.out), HB⟩
       case round =>
         clear HB
         obtain ⟨j, S, hj, rfl, rfl, HS, HB⟩ := hrel
         obtain ⟨wp, rfl⟩ : ∃ wp : World, wp = wr := ⟨_, rfl⟩
         have z2 := cell_of_row _ _ 2 _ _ _ HB.out.box
         by_cases hjl : j < pn
         · obtain ⟨z, hz⟩ : ∃ z, pl[j]? = some z := ⟨_, List.getElem?_eq_getElem (by have := HPN.out; omega)⟩
           have hzr := HPC.out z (List.mem_of_getElem? hz)
           obtain ⟨pb, po, rfl, hpb, hpcell⟩ : ∃ pb po, xa = some ⟨pb, po, none⟩ ∧ pb < w.heap.size ∧ w.cell? ⟨pb, po + j, none⟩ = some (.int .i64 z) := by
             rcases HPL.out.2 with h0 | ⟨pb, po, h1, h2, h3⟩
             · rw [h0] at hz; simp at hz
             · exact ⟨pb, po, h1, h2, h3 j z hz⟩
           have y0 : wp.cell? ⟨pb, po + j, none⟩ = some (.int .i64 z) := (HB.out.en.below.cell (p := ⟨pb, po + j, none⟩) hpb).trans hpcell
           obtain ⟨R, hR⟩ : ∃ R, R = sB (numB z.toNat) := ⟨_, rfl⟩
           obtain ⟨S5, hS5⟩ : ∃ S5, S5 = sB (L1 ++ plB (pl.take (j + 1))) := ⟨_, rfl⟩
           have hadd : ∀ W, (Op.stringOp .add S R).run Tryz.prog W = .ok (.string S5) W := fun W => by
             rw [hS5, plB_succ hz, ← List.append_assoc, HS.out, hR]
             exact add_sB _ _ (by
               have h1 := plB_take HPC.out (by have := HPN.out; omega) j
               have h2 := num_len (z := z) (by omega)
               have h3 := textB_len HXT.out
               have h4 := numB_ten (n := pn) (by omega)
               rw [HL1.out, List.length_append, List.length_append]
               omega) W
           have HNZ := Lib.hid (show ∀ W : World, Calls Tryz.prog 89 #[.int .i64 z] W (RetV (.string R) W) from fun W => by rw [hR]; exact HNM.out z W hzr.1 (by omega))
           have HS5 := Lib.hid hS5
           clear hz hpcell hR hS5 hzr
           go_wp2_with (first
             | (go_at_call 89; (with_reducible refine (HNZ.out _).mono ?_); rintro e w8 ⟨rfl, hB8⟩
                have HJ8 := Lib.hid (HB.out.keep hB8)
                clear hB8)
             | fail)
           go_roundw
           case rel => exact ⟨j + 1, S5, by omega, by go_num, rfl, HS5, HJ8⟩
           case measure => simp [intOf] <;> omega
         · obtain rfl : j = pn := by omega
           obtain ⟨L3, hL3⟩ : ∃ L3, L3 = L1 ++ plB (pl.take j) := ⟨_, rfl⟩
           have HL3 := Lib.hid (show L3 = (textB xt ++ numB pl.length) ++ plB pl by rw [hL3, HL1.out, HPN.out, List.take_length])
           have HLN := Lib.hid (show L3.length ≤ 500 by
             have h1 := plB_take HPC.out (by have := HPN.out; omega) j
             have h3 := textB_len HXT.out
             have h4 := numB_ten (n := j) (by omega)
             rw [hL3, HL1.out, List.length_append, List.length_append]
             omega)
           rw [← hL3] at HS
           obtain ⟨R, hR⟩ : ∃ R, R = sB (numB xr.toNat) := ⟨_, rfl⟩
           obtain ⟨O, hO⟩ : ∃ O, O = sB (numB xo.toNat) := ⟨_, rfl⟩
           obtain ⟨U, hU⟩ : ∃ U, U = sB (intB xu) := ⟨_, rfl⟩
           obtain ⟨V1, hV1⟩ : ∃ V1, V1 = sB (L3 ++ numB xr.toNat) := ⟨_, rfl⟩
           obtain ⟨V2, hV2⟩ : ∃ V2, V2 = sB ((L3 ++ numB xr.toNat) ++ numB xo.toNat) := ⟨_, rfl⟩
           obtain ⟨V3, hV3⟩ : ∃ V3, V3 = sB (((L3 ++ numB xr.toNat) ++ numB xo.toNat) ++ intB xu) := ⟨_, rfl⟩
           obtain ⟨KS, hKS⟩ : ∃ KS, KS = sB (105 :: xn.data.toList) := ⟨_, rfl⟩
           have l1 := num_len (z := xr) (by have := HXR.out.2; omega)
           have l2 := num_len (z := xo) (by have := HXO.out.2; omega)
           have l3 := intB_len HXU.out.1 HXU.out.2
           have l4 := HLN.out
           have hk : ∀ W, (Op.stringOp .add ⟨#[105]⟩ xn).run Tryz.prog W = .ok (.string KS) W := fun W => by rw [hKS]; exact add_key 105 xn (by have := HXN.out; omega) W
           have ha1 : ∀ W, (Op.stringOp .add S R).run Tryz.prog W = .ok (.string V1) W := fun W => by rw [hV1, HS.out, hR]; exact add_sB _ _ (by omega) W
           have ha2 : ∀ W, (Op.stringOp .add V1 O).run Tryz.prog W = .ok (.string V2) W := fun W => by rw [hV2, hV1, hO]; exact add_sB _ _ (by rw [List.length_append]; omega) W
           have ha3 : ∀ W, (Op.stringOp .add V2 U).run Tryz.prog W = .ok (.string V3) W := fun W => by rw [hV3, hV2, hU]; exact add_sB _ _ (by rw [List.length_append, List.length_append]; omega) W
           have HC4 := Lib.hid (show ∀ W, Calls Tryz.prog 89 #[.int .i64 xr] W (RetV (.string R) W) from fun W => by rw [hR]; exact HNM.out xr W HXR.out.1 (by have := HXR.out.2; omega))
           have HC5 := Lib.hid (show ∀ W, Calls Tryz.prog 89 #[.int .i64 xo] W (RetV (.string O) W) from fun W => by rw [hO]; exact HNM.out xo W HXO.out.1 (by have := HXO.out.2; omega))
           have HC6 := Lib.hid (show ∀ W, Calls Tryz.prog 90 #[.int .i64 xu] W (RetV (.string U) W) from fun W => by rw [hU]; exact HIN.out xu W HXU.out.1 HXU.out.2)
           have HEX := Lib.hid (show [Value.string KS, .string V3] = [.string (sB (entX (pxOf (⟨xn, xt, xa, pl.length, xc, xr, xo, xu⟩, pl))).1), .string (sB (entX (pxOf (⟨xn, xt, xa, pl.length, xc, xr, xo, xu⟩, pl))).2)] by
             rw [hKS, hV3, HL3.out]
             simp [entX, pxOf, List.append_assoc])
           have HBD := Lib.hid (HB.out.keep (Below.refl _ _).drew)
           clear l1 l2 l3 l4 hR hO hU hV1 hV2 hV3 hKS hL3
           have HSZ := Lib.hid HB.out.en.below.size
           have HLT := Lib.hid (heap_lt HB.out.en.arg)
           go_upto_region 11 with (fail)
           go_region_held3 (fun wx => wx.cell? ⟨wo.heap.size, 0, none⟩ = some (.string xn) ∧ wx.cell? ⟨wo.heap.size, 3, none⟩ = some (.int .i64 xr) ∧ wx.cell? ⟨wo.heap.size, 4, none⟩ = some (.int .i64 xo) ∧ wx.cell? ⟨wo.heap.size, 5, none⟩ = some (.int .i64 xu))
             (first
               | (with_reducible exact sx6 HBD.out.box)
               | (with_reducible exact sx6 HX11.out)
               | (with_reducible exact sx6 HB8.out.box)
               | (with_reducible exact sx6 HB9.out.box)
               | (with_reducible exact sx6 HB10.out.box)
               | (with_reducible exact sx6 (old_box _ HB10.out.box))
               | fail)
             (first
               | (go_at_call 89; first
                  | (with_reducible refine (HC5.out _).mono ?_
                     rintro e w9 ⟨rfl, hB9⟩
                     have HB9 := Lib.hid (HB8.out.keep hB9)
                     clear hB9)
                  | (with_reducible refine (HC4.out _).mono ?_
                     rintro e w8 ⟨rfl, hB8⟩
                     have HB8 := Lib.hid (HBD.out.keep hB8)
                     clear hB8))
               | (go_at_call 90; (with_reducible refine (HC6.out _).mono ?_); rintro e w10 ⟨rfl, hB10⟩
                  have HB10 := Lib.hid (HB9.out.keep hB10)
                  clear hB10)
               | (refine step_dent _ (by rfl) (.tmp 47) (.tmp 65) (by rfl) (w.heap.size + 1) _ k (L.map deL).flatten (by rfl) (own_kept HB10.out.en.own (below1 w10 _) (Nat.le_refl _)) w10.heap.size 1 KS V3 (by rfl) (heap_alloc_new w10 _) (by omega) (by have := heap_lt HB10.out.en.arg; simp; omega) ?_
                  intro v11 w11 hown hgr
                  have HMO := Lib.hid ((HB10.out.en.keep (below1 w10 _)).more (p := entX (pxOf (⟨xn, xt, xa, pl.length, xc, xr, xo, xu⟩, pl))) (by rw [← HEX.out]; exact hown) hgr)
                  have HX11 := Lib.hid (grown_box (old_box _ HB10.out.box) (own_kept HB10.out.en.own (below1 w10 _) (Nat.le_refl _)) (by decide) hgr)
                  clear hown hgr)
               | fail)
           all_goals
             go_wp2_with fail
             go_roundw
             case rel => exact ⟨k + 1, _, by omega, by go_num, HMO, HXK⟩
             case measure => simp [intOf] <;> omega
   · obtain rfl : k = mx := by omega
     have HLX := Lib.hid (show L = (xs.map pxOf).map entX by rw [HL.out, List.take_of_length_le (by rw [List.length_map, ← HM.out]; exact Nat.le_refl _)])
     clear hlt HL
     go_wp2_with fail
     clear q0 q1
     go_loopw [3, 8] (fun v i wr => ∃ (q : Nat) (F : List (List UInt8 × List UInt8)), q ≤ n ∧ i = .int .i64 q ∧ Hid (RE w A n c ia k ic v (k + q) F wr) ∧ Hid (F = (xs.map pxOf).map entX ++ ((ts.map ptOf).take q).map entT)) (fun _ i _ => n - (intOf i).toNat)
     case atStart => exact ⟨0, L, Nat.zero_le _, rfl, HE, Lib.hid (by rw [HLX.out]; simp)⟩
     case round =>
       clear HE HLX
       obtain ⟨q, F, hq, rfl, HE, HL⟩ := hrel
       obtain ⟨wo, rfl⟩ : ∃ wo : World, wo = wr := ⟨_, rfl⟩
       have q0 := cell_of_row _ _ 0 _ _ _ HE.out.arg
       have q1 := cell_of_row _ _ 1 _ _ _ HE.out.arg
       by_cases hlt : q < n
       · obtain ⟨⟨x, cl⟩, hx⟩ : ∃ x, ts[q]? = some x := ⟨_, List.getElem?_eq_getElem (by have := HN.out; omega)⟩
         have HXK := Lib.hid (show F ++ [entT (ptOf (x, cl))] = (xs.map pxOf).map entX ++ ((ts.map ptOf).take (q + 1)).map entT by rw [HL.out, List.take_add_one, List.getElem?_map, hx]; simp)
         obtain ⟨hcl, hcn, hcc, hnone⟩ := HD.out.2 (x, cl) (List.mem_of_getElem? hx)
         have hok := HT.out (x, cl) (List.mem_of_getElem? hx)
         dsimp only at hcl hcn hcc hnone
         obtain ⟨b, off, rfl, hbl, hcells⟩ : ∃ b off, A = some ⟨b, off, none⟩ ∧ b < w.heap.size ∧ ∀ (i : Nat) (u : Value), (tabL x)[i]? = some u → w.cell? ⟨b, off + q * 5 + i, none⟩ = some u := by
           rcases HD.out.1.2 with h0' | ⟨b, off, h1, h2, h3⟩
           · exfalso
             have := List.map_eq_nil_iff.1 (List.map_eq_nil_iff.1 h0')
             subst this
             simp at hx
           · exact ⟨b, off, h1, h2, (h3 q _ (by rw [List.getElem?_map, List.getElem?_map, hx]; rfl)).2⟩
         obtain ⟨xn, xa, xl, xc, xr, xo, xu⟩ := x
         obtain rfl : xl = cl.length := hcn
         have HCL := Lib.hid hcl
         have HXN := Lib.hid (show xn.size ≤ 100 from hok.name)
         have HXR := Lib.hid (show 0 ≤ xr ∧ xr ≤ 10000 from hok.root)
         have HXO := Lib.hid (show 0 ≤ xo ∧ xo ≤ 9223372036854775807 from hok.next)
         have HXU := Lib.hid (show 0 ≤ xu ∧ xu ≤ 9223372036854775807 from hok.rows)
         have HPC := Lib.hid (show ∀ z ∈ cl, z.name.size ≤ 100 ∧ 0 ≤ z.ty ∧ z.ty ≤ 1000 from hok.cols)
         have HP := Lib.hid (show cl.length ≤ 10 from hok.len)
         have hkk : ∀ (i : Nat) (u : Value), [Value.string xn, .slice xa cl.length xc, .int .i64 xr, .int .i64 xo, .int .i64 xu][i]? = some u → wo.cell? ⟨b, off + q * 5 + i, none⟩ = some u := fun i u hi => (HE.out.below.cell (p := ⟨b, off + q * 5 + i, none⟩) hbl).trans (hcells i u hi)
         have k0 : wo.cell? ⟨b, off + q * 5, none⟩ = some (.string xn) := hkk 0 _ rfl
         have k1 : wo.cell? ⟨b, off + q * 5 + 1, none⟩ = some (.slice xa cl.length xc) := hkk 1 _ rfl
         have k2 : wo.cell? ⟨b, off + q * 5 + 2, none⟩ = some (.int .i64 xr) := hkk 2 _ rfl
         have k3 : wo.cell? ⟨b, off + q * 5 + 3, none⟩ = some (.int .i64 xo) := hkk 3 _ rfl
         have k4 : wo.cell? ⟨b, off + q * 5 + 4, none⟩ = some (.int .i64 xu) := hkk 4 _ rfl
         obtain ⟨pn, hpn2⟩ : ∃ pn, pn = cl.length := ⟨_, rfl⟩
         rw [← hpn2] at k1 HP
         have HPN := Lib.hid hpn2
         have hpn10 : pn ≤ 10 := HP.out
         obtain ⟨w4, hw4⟩ : ∃ w4, w4 = wo.alloc (.cells #[.string xn, .slice xa pn xc, .int .i64 xr, .int .i64 xo, .int .i64 xu] 25) := ⟨_, rfl⟩
         have HB4 := Lib.hid (show REB w (some ⟨b, off, none⟩) n c ia k ic _ (k + q) F wo.heap.size #[.string xn, .slice xa pn xc, .int .i64 xr, .int .i64 xo, .int .i64 xu] 25 w4 from ⟨HE.out.keep (by rw [hw4]; exact below1 wo _), by rw [hw4]; exact heap_alloc_new wo _⟩)
         have j1 : w4.cell? ⟨wo.heap.size, 1, none⟩ = some (.slice xa pn xc) := cell_of_row _ _ 1 _ _ _ HB4.out.box
         obtain ⟨L1, hL1⟩ : ∃ L1, L1 = numB pn := ⟨_, rfl⟩
         have HL1 := Lib.hid hL1
         obtain ⟨S3, hS3⟩ : ∃ S3, S3 = sB L1 := ⟨_, rfl⟩
         have HC2 := Lib.hid (show ∀ W, Calls Tryz.prog 89 #[.int .i64 (pn : Int)] W (RetV (.string S3) W) from fun W => by rw [hS3, hL1]; exact HNM.out (pn : Int) W (by omega) (by omega))
         have HS3 := Lib.hid hS3
         clear hL1 hx hcells hkk hcl hok hcc hnone hpn2 hS3
         go_upto_region 16 with (fail)
         rw [← hw4]
         clear hw4 k0 k1 k2 k3 k4 q0 q1
         go_wp2_with (first
           | (go_at_call 89; (with_reducible refine (HC2.out _).mono ?_); rintro e w6 ⟨rfl, hB6⟩
              have HB := Lib.hid (HB4.out.keep hB6)
              have z1 := cell_of_row _ _ 1 _ _ _ HB.out.box
              clear hB6)
           | fail)
         clear z1 j1
         go_loopw [10, 11] (fun vb i wr => ∃ (j : Nat) (S : ByteArray), j ≤ pn ∧ i = .int .i64 j ∧ vb = .string S ∧ Hid (S = sB (L1 ++ colsB (cl.take j))) ∧ Hid (REB w (some ⟨b, off, none⟩) n c ia k ic _ (k + q) F wo.heap.size #[.string xn, .slice xa pn xc, .int .i64 xr, .int .i64 xo, .int .i64 xu] 25 wr)) (fun _ i _ => pn - (intOf i).toNat)
         case atStart => exact ⟨0, S3, Nat.zero_le _, rfl, rfl, Lib.hid (by rw [show L1 ++ colsB (cl.take 0) = L1 from List.append_nil _]; exact HS3.out), HB⟩
         case round =>
           clear HB HB4
           obtain ⟨j, S, hj, rfl, rfl, HS, HB⟩ := hrel
           obtain ⟨wp, rfl⟩ : ∃ wp : World, wp = wr := ⟨_, rfl⟩
           have z1 := cell_of_row _ _ 1 _ _ _ HB.out.box
           by_cases hjl : j < pn
           · obtain ⟨z, hz⟩ : ∃ z, cl[j]? = some z := ⟨_, List.getElem?_eq_getElem (by have := HPN.out; omega)⟩
             have hzr := HPC.out z (List.mem_of_getElem? hz)
             obtain ⟨pb, po, rfl, hpb, hpcell⟩ : ∃ pb po, xa = some ⟨pb, po, none⟩ ∧ pb < w.heap.size ∧ ∀ (i : Nat) (u : Value), (colL z)[i]? = some u → w.cell? ⟨pb, po + j * 3 + i, none⟩ = some u := by
               rcases HCL.out.2 with h0 | ⟨pb, po, h1, h2, h3⟩
               · rw [List.map_eq_nil_iff] at h0; subst h0; cases hz
               · exact ⟨pb, po, h1, h2, (h3 j _ (by rw [List.getElem?_map, hz]; rfl)).2⟩
             obtain ⟨zn, zt, zb⟩ := z
             obtain ⟨R1, hR1⟩ : ∃ R, R = sB (textB zn) := ⟨_, rfl⟩
             obtain ⟨R2, hR2⟩ : ∃ R, R = sB (numB zt.toNat) := ⟨_, rfl⟩
             obtain ⟨R3, hR3⟩ : ∃ R, R = sB (boolB zb) := ⟨_, rfl⟩
             obtain ⟨R4, hR4⟩ : ∃ R, R = sB (textB zn ++ numB zt.toNat) := ⟨_, rfl⟩
             obtain ⟨R5, hR5⟩ : ∃ R, R = sB ((textB zn ++ numB zt.toNat) ++ boolB zb) := ⟨_, rfl⟩
             obtain ⟨S5, hS5⟩ : ∃ S5, S5 = sB (L1 ++ colsB (cl.take (j + 1))) := ⟨_, rfl⟩
             have l1 := textB_len hzr.1
             have l2 := num_len (z := zt) (by have := hzr.2.2; dsimp only at this; omega)
             have l3 : (boolB zb).length = 1 := rfl
             dsimp only at l1
             have ha1 : ∀ W, (Op.stringOp .add R1 R2).run Tryz.prog W = .ok (.string R4) W := fun W => by rw [hR1, hR2, hR4]; exact add_sB _ _ (by omega) W
             have ha2 : ∀ W, (Op.stringOp .add R4 R3).run Tryz.prog W = .ok (.string R5) W := fun W => by rw [hR4, hR3, hR5]; exact add_sB _ _ (by rw [List.length_append]; omega) W
             have ha3 : ∀ W, (Op.stringOp .add S R5).run Tryz.prog W = .ok (.string S5) W := fun W => by
               have e : L1 ++ colsB (cl.take (j + 1)) = (L1 ++ colsB (cl.take j)) ++ ((textB zn ++ numB zt.toNat) ++ boolB zb) := by
                 rw [colsB_succ hz]
                 simp [colB, List.append_assoc]
               rw [hS5, e, HS.out, hR5]
               exact add_sB _ _ (by
                 have h1 := colsB_take HPC.out (by have := HPN.out; omega) j
                 have h4 := numB_ten (n := pn) (by omega)
                 rw [HL1.out, List.length_append, List.length_append, List.length_append]
                 omega) W
             have HC4 := Lib.hid (show ∀ W, Calls Tryz.prog 88 #[.string zn] W (RetV (.string R1) W) from fun W => by rw [hR1]; exact HTX.out zn W hzr.1)
             have HC5 := Lib.hid (show ∀ W, Calls Tryz.prog 89 #[.int .i64 zt] W (RetV (.string R2) W) from fun W => by rw [hR2]; exact HNM.out zt W hzr.2.1 (by have := hzr.2.2; dsimp only at this; omega))
             have HC6 := Lib.hid (show ∀ W, Calls Tryz.prog 91 #[.bool zb] W (RetV (.string R3) W) from fun W => by rw [hR3]; exact rwr_bool zb W)
             have HS5 := Lib.hid hS5
             have HBD := Lib.hid (HB.out.keep (Below.refl _ _).drew)
             have HCOL := Lib.hid (show ∀ W, Below w.heap.size w W → W.cell? ⟨pb, po + j * 3, none⟩ = some (.string zn) ∧ W.cell? ⟨pb, po + j * 3 + 1, none⟩ = some (.int .i64 zt) ∧ W.cell? ⟨pb, po + j * 3 + 2, none⟩ = some (.bool zb) from fun W hW => ⟨(hW.cell (p := ⟨pb, po + j * 3, none⟩) hpb).trans (hpcell 0 _ rfl), (hW.cell (p := ⟨pb, po + j * 3 + 1, none⟩) hpb).trans (hpcell 1 _ rfl), (hW.cell (p := ⟨pb, po + j * 3 + 2, none⟩) hpb).trans (hpcell 2 _ rfl)⟩)
             have HSX := Lib.hid (show ∀ W v, REB w (some ⟨b, off, none⟩) n c ia k ic v (k + q) F wo.heap.size #[.string xn, .slice (some ⟨pb, po, none⟩) pn xc, .int .i64 xr, .int .i64 xo, .int .i64 xu] 25 W → W.cell? ⟨wo.heap.size, 1, none⟩ = some (.slice (some ⟨pb, po, none⟩) pn xc) ∧ W.cell? ⟨pb, po + j * 3, none⟩ = some (.string zn) ∧ W.cell? ⟨pb, po + j * 3 + 1, none⟩ = some (.int .i64 zt) ∧ W.cell? ⟨pb, po + j * 3 + 2, none⟩ = some (.bool zb) from fun W v h => ⟨cell_of_row _ _ 1 _ _ _ h.box, HCOL.out W h.en.below⟩)
             clear hz hpcell hR1 hR2 hR3 hR4 hR5 hS5 hzr l1 l2 l3 HCOL
             go_wp2_with fail
             clear z1
             go_region_held3 (fun wx => wx.cell? ⟨wo.heap.size, 1, none⟩ = some (.slice (some ⟨pb, po, none⟩) pn xc) ∧ wx.cell? ⟨pb, po + j * 3, none⟩ = some (.string zn) ∧ wx.cell? ⟨pb, po + j * 3 + 1, none⟩ = some (.int .i64 zt) ∧ wx.cell? ⟨pb, po + j * 3 + 2, none⟩ = some (.bool zb))
               (first
                 | (with_reducible exact HSX.out _ _ HBD.out)
                 | (with_reducible exact HSX.out _ _ HB8.out)
                 | (with_reducible exact HSX.out _ _ HB9.out)
                 | (with_reducible exact HSX.out _ _ HB10.out)
                 | fail)
               (first
                 | (go_at_call 88; (with_reducible refine (HC4.out _).mono ?_); rintro e w8 ⟨rfl, hB8⟩
                    have HB8 := Lib.hid (HBD.out.keep hB8)
                    clear hB8)
                 | (go_at_call 89; (with_reducible refine (HC5.out _).mono ?_); rintro e w9 ⟨rfl, hB9⟩
                    have HB9 := Lib.hid (HB8.out.keep hB9)
                    clear hB9)
                 | (go_at_call 91; (with_reducible refine (HC6.out _).mono ?_); rintro e w10 ⟨rfl, hB10⟩
                    have HB10 := Lib.hid (HB9.out.keep hB10)
                    clear hB10)
                 | fail)
             all_goals
               go_wp2_with fail
               go_roundw
               case rel => exact ⟨j + 1, S5, by omega, by go_num, rfl, HS5, HB10⟩
               case measure => simp [intOf] <;> omega
           · obtain rfl : j = pn := by omega
             obtain ⟨L3, hL3⟩ : ∃ L3, L3 = L1 ++ colsB (cl.take j) := ⟨_, rfl⟩
             have HL3 := Lib.hid (show L3 = numB cl.length ++ colsB cl by rw [hL3, HL1.out, HPN.out, List.take_length])
             have HLN := Lib.hid (show L3.length ≤ 1500 by
               have h1 := colsB_take HPC.out (by have := HPN.out; omega) j
               have h4 := numB_ten (n := j) (by omega)
               rw [hL3, HL1.out, List.length_append]
               omega)
             rw [← hL3] at HS
             obtain ⟨R, hR⟩ : ∃ R, R = sB (numB xr.toNat) := ⟨_, rfl⟩
             obtain ⟨O, hO⟩ : ∃ O, O = sB (intB xo) := ⟨_, rfl⟩
             obtain ⟨U, hU⟩ : ∃ U, U = sB (intB xu) := ⟨_, rfl⟩
             obtain ⟨V1, hV1⟩ : ∃ V1, V1 = sB (L3 ++ numB xr.toNat) := ⟨_, rfl⟩
             obtain ⟨V2, hV2⟩ : ∃ V2, V2 = sB ((L3 ++ numB xr.toNat) ++ intB xo) := ⟨_, rfl⟩
             obtain ⟨V3, hV3⟩ : ∃ V3, V3 = sB (((L3 ++ numB xr.toNat) ++ intB xo) ++ intB xu) := ⟨_, rfl⟩
             obtain ⟨KS, hKS⟩ : ∃ KS, KS = sB (116 :: xn.data.toList) := ⟨_, rfl⟩
             have l1 := num_len (z := xr) (by have := HXR.out.2; omega)
             have l2 := intB_len HXO.out.1 HXO.out.2
             have l3 := intB_len HXU.out.1 HXU.out.2
             have l4 := HLN.out
             have hk : ∀ W, (Op.stringOp .add ⟨#[116]⟩ xn).run Tryz.prog W = .ok (.string KS) W := fun W => by rw [hKS]; exact add_key 116 xn (by have := HXN.out; omega) W
             have ha1 : ∀ W, (Op.stringOp .add S R).run Tryz.prog W = .ok (.string V1) W := fun W => by rw [hV1, HS.out, hR]; exact add_sB _ _ (by omega) W
             have ha2 : ∀ W, (Op.stringOp .add V1 O).run Tryz.prog W = .ok (.string V2) W := fun W => by rw [hV2, hV1, hO]; exact add_sB _ _ (by rw [List.length_append]; omega) W
             have ha3 : ∀ W, (Op.stringOp .add V2 U).run Tryz.prog W = .ok (.string V3) W := fun W => by rw [hV3, hV2, hU]; exact add_sB _ _ (by rw [List.length_append, List.length_append]; omega) W
             have HC4 := Lib.hid (show ∀ W, Calls Tryz.prog 89 #[.int .i64 xr] W (RetV (.string R) W) from fun W => by rw [hR]; exact HNM.out xr W HXR.out.1 (by have := HXR.out.2; omega))
             have HC5 := Lib.hid (show ∀ W, Calls Tryz.prog 90 #[.int .i64 xo] W (RetV (.string O) W) from fun W => by rw [hO]; exact HIN.out xo W HXO.out.1 HXO.out.2)
             have HC6 := Lib.hid (show ∀ W, Calls Tryz.prog 90 #[.int .i64 xu] W (RetV (.string U) W) from fun W => by rw [hU]; exact HIN.out xu W HXU.out.1 HXU.out.2)
             have HEX := Lib.hid (show [Value.string KS, .string V3] = [.string (sB (entT (ptOf (⟨xn, xa, cl.length, xc, xr, xo, xu⟩, cl))).1), .string (sB (entT (ptOf (⟨xn, xa, cl.length, xc, xr, xo, xu⟩, cl))).2)] by
               rw [hKS, hV3, HL3.out]
               simp [entT, ptOf, List.append_assoc])
             have HBD := Lib.hid (HB.out.keep (Below.refl _ _).drew)
             clear l1 l2 l3 l4 hR hO hU hV1 hV2 hV3 hKS hL3
             go_upto_region 21 with (fail)
             clear z1
             go_region_held3 (fun wx => wx.cell? ⟨wo.heap.size, 0, none⟩ = some (.string xn) ∧ wx.cell? ⟨wo.heap.size, 2, none⟩ = some (.int .i64 xr) ∧ wx.cell? ⟨wo.heap.size, 3, none⟩ = some (.int .i64 xo) ∧ wx.cell? ⟨wo.heap.size, 4, none⟩ = some (.int .i64 xu))
               (first
                 | (with_reducible exact sx5 HBD.out.box)
                 | (with_reducible exact sx5 HX11.out)
                 | (with_reducible exact sx5 HB8.out.box)
                 | (with_reducible exact sx5 HB9.out.box)
                 | (with_reducible exact sx5 HB10.out.box)
                 | (with_reducible exact sx5 (old_box _ HB10.out.box))
                 | fail)
               (first
                 | (go_at_call 89; (with_reducible refine (HC4.out _).mono ?_); rintro e w8 ⟨rfl, hB8⟩
                    have HB8 := Lib.hid (HBD.out.keep hB8)
                    clear hB8)
                 | (go_at_call 90; first
                    | (with_reducible refine (HC6.out _).mono ?_
                       rintro e w10 ⟨rfl, hB10⟩
                       have HB10 := Lib.hid (HB9.out.keep hB10)
                       clear hB10)
                    | (with_reducible refine (HC5.out _).mono ?_
                       rintro e w9 ⟨rfl, hB9⟩
                       have HB9 := Lib.hid (HB8.out.keep hB9)
                       clear hB9))
                 | (refine step_dent _ (by rfl) (.tmp 115) (.tmp 133) (by rfl) (w.heap.size + 1) _ (k + q) (F.map deL).flatten (by rfl) (own_kept HB10.out.en.own (below1 w10 _) (Nat.le_refl _)) w10.heap.size 1 KS V3 (by rfl) (heap_alloc_new w10 _) (by omega) (by have := heap_lt HB10.out.en.arg; simp; omega) ?_
                    intro v11 w11 hown hgr
                    have HMO := Lib.hid ((HB10.out.en.keep (below1 w10 _)).more (p := entT (ptOf (⟨xn, xa, cl.length, xc, xr, xo, xu⟩, cl))) (by rw [← HEX.out]; exact hown) hgr)
                    have HX11 := Lib.hid (grown_box (old_box _ HB10.out.box) (own_kept HB10.out.en.own (below1 w10 _) (Nat.le_refl _)) (by decide) hgr)
                    clear hown hgr)
                 | fail)
             all_goals
               go_wp2_with fail
               go_roundw
               case rel => exact ⟨q + 1, _, by omega, by go_num, HMO, HXK⟩
               case measure => simp [intOf] <;> omega
       · obtain rfl : q = n := by omega
         go_wp2_with fail
         go_ret
         refine ⟨_, rfl, HE.out.below, ?_⟩
         have h := DEnts_of HE.out
         have e : F = entsP (ts.map ptOf) (xs.map pxOf) := by
           rw [HL.out, List.take_of_length_le (by rw [List.length_map, ← HN.out]; exact Nat.le_refl _)]
           rfl
         rw [e] at h
         exact h
end Go.Proofs.YtcgpflkaejbkhaaGreatDoor
