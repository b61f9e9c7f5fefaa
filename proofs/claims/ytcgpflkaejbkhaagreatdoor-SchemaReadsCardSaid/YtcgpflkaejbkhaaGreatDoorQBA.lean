/- The walks of the reader's Bool, Text, End, and of Read. -/
import Derived.Test.YtcgpflkaejbkhaaGreatDoorQAX
import Derived.Laws.MakeOwn
import Derived.Laws.IdiomCopy
import Derived.Handy
import Derived.RegionTactic
namespace Go.Proofs.YtcgpflkaejbkhaaGreatDoor
open Go.RowKit

theorem rd_bool (rb : Nat) (st : Rd) (W : World) (h : RdAt W rb st) : Calls Tryz.prog 75 #[.pointer (some ⟨rb, 0, none⟩)] W (RdP W rb (boolR st) (fun v => .bool v) (.bool false)) := by
 obtain ⟨A, n, c, e, hb, he0, he1⟩ := h.row
 have HE := Lib.hid (show ∀ w', Below W.heap.size W w' → Calls Tryz.prog 100 #[.pointer (some ⟨rb, 0, none⟩)] w' (RetV (.int .i64 e) w') from fun w' hB => rd_err rb A n c e w' ((hB.block _ (heap_lt hb)).trans hb))
 have HB := Lib.hid hb
 have HH := Lib.hid h
 cases st with
 | none =>
   have r1 : (e != 0) = true := bne_iff_ne.2 (he0 rfl)
   clear hb he0 he1 h
   go_enter Tryz.func75, Tryz.ntmps75
   go_wp2_with (first
     | (go_at_call 100; (with_reducible refine (HE.out _ (Below.refl _ _)).mono ?_); rintro e w1 ⟨rfl, hB1⟩
        have HB1 := Lib.hid hB1
        clear hB1)
     | fail)
   go_ret
   exact ⟨grownB HB1.out _, HH.out.keep HB1.out, rfl⟩
 | some l =>
   obtain ⟨rfl, hnl, hnc, b, off, rfl, hne, hA⟩ := he1 l rfl
   clear he0 he1 h
   have HA := Lib.hid hA
   have HNE := Lib.hid hne
   cases l with
   | nil =>
     obtain rfl : n = 0 := hnl
     clear hb hA
     go_enter Tryz.func75, Tryz.ntmps75
     go_wp2_with (first
       | (go_at_call 100; (with_reducible refine (HE.out _ (Below.refl _ _)).mono ?_); rintro e w1 ⟨rfl, hB1⟩
          have HB1 := Lib.hid hB1
          have HB2 := Lib.hid ((hB1.block _ (heap_lt HB.out)).trans HB.out)
          have r0 := cell_of_row _ _ 0 _ _ _ HB2.out
          have r1 := cell_of_row _ _ 1 _ _ _ HB2.out
          have z1 := frozen_of_row _ _ 1 _ _ HB2.out
          clear hB1)
       | fail)
     go_ret
     obtain ⟨g3, g4⟩ := row_set HB2.out 10
     exact ⟨(grownB HB1.out _).trans g3, RdAt.bad g4 (by decide), rfl⟩
   | cons ch l =>
     have hnp : n = l.length + 1 := hnl
     have r2 : ((n : Int) == 0) = false := beq_eq_false_iff_ne.2 (by omega)
     have r3 : (0 < (n : Int)) = True := eq_true (by omega)
     have r3b : (0 < n) = True := eq_true (by omega)
     have r3c : (1 ≤ n) = True := eq_true (by omega)
     have r3d : ((1 : Int) ≤ (n : Int)) = True := eq_true (by omega)
     have r3e : ((n : Int) < 1) = False := eq_false (by omega)
     obtain ⟨hlt, hcell⟩ : b < W.heap.size ∧ W.cell? ⟨b, off, none⟩ = some (byV ch) := by
       rcases hA.2 with h0 | ⟨b', off', h1, h2, h3⟩
       · cases h0
       · cases h1; exact ⟨h2, h3 0 _ rfl⟩
     obtain ⟨z, hz⟩ : ∃ z : Int, z = (ch.toNat : Int) := ⟨_, rfl⟩
     have m0 : ∀ w', Below W.heap.size W w' → w'.cell? ⟨b, off, none⟩ = some (.int .u8 z) := fun w' hB => ((hB.cell (p := ⟨b, off, none⟩) hlt).trans hcell).trans (by rw [hz]; rfl)
     have HM := Lib.hid m0
     have FIN := Lib.hid (show ∀ (w1 : World) (A' : Option Addr) (c' n' : Nat), Below W.heap.size W w1 → c' = c - 1 → n' = n - 1 → (A' = some ⟨b, off + 1, none⟩ ∨ (n = 1 ∧ A' = some ⟨b, off, none⟩)) → W.grownBy (w1.setCell ⟨rb, 0, none⟩ (.slice A' n' c')) (some rb) ∧ RdAt (w1.setCell ⟨rb, 0, none⟩ (.slice A' n' c')) rb (some l) from by
       intro w1 A' c' n' hB hc' hn' hA'
       subst hc' hn'
       have hb1 := (hB.block _ (heap_lt HB.out)).trans HB.out
       obtain ⟨g1, g2⟩ := row_set0 hb1 A' (n - 1) (c - 1)
       have hg := (grownB hB (some rb)).trans g1
       refine ⟨hg, ?_⟩
       have hl1 : (ch :: l).length = n := hnl.symm
       exact RdAt.moved (k := 1) (c := c) (l := ch :: l) HA.out HNE.out (by simp) (by omega) (by rw [hl1]; exact hA') hg (by rw [hl1]; exact g2))
     have HNP := Lib.hid hnp
     clear hb hA hcell m0 hnl
     by_cases hbig : 1 < ch.toNat
     · have q1 : (1 < z) = True := eq_true (by omega)
       have HI2 := Lib.hid (show boolR (some (ch :: l)) = none by show (if 1 < ch.toNat then none else _) = none; rw [if_pos hbig])
       clear hz hbig hnp
       go_enter Tryz.func75, Tryz.ntmps75
       go_wp2_with (first
         | (go_at_call 100; (with_reducible refine (HE.out _ (Below.refl _ _)).mono ?_); rintro e w1 ⟨rfl, hB1⟩
            have HB1 := Lib.hid hB1
            have HB2 := Lib.hid ((hB1.block _ (heap_lt HB.out)).trans HB.out)
            have r0 := cell_of_row _ _ 0 _ _ _ HB2.out
            have r1 := cell_of_row _ _ 1 _ _ _ HB2.out
            have z1 := frozen_of_row _ _ 1 _ _ HB2.out
            have m0 := HM.out _ hB1
            clear hB1)
         | fail)
       go_ret
       obtain ⟨g3, g4⟩ := row_set HB2.out 7
       exact ⟨(grownB HB1.out _).trans g3, by rw [HI2.out]; exact RdAt.bad g4 (by decide), by rw [HI2.out]; rfl⟩
     · have q1 : (1 < z) = False := eq_false (by omega)
       have q2 : (z == 1) = (ch.toNat == 1) := by
         by_cases h : ch.toNat = 1
         · rw [beq_iff_eq.2 h, beq_iff_eq.2 (by omega)]
         · rw [beq_eq_false_iff_ne.2 h, beq_eq_false_iff_ne.2 (by omega)]
       have HI2 := Lib.hid (show boolR (some (ch :: l)) = some (ch.toNat == 1, l) by show (if 1 < ch.toNat then none else some (ch.toNat == 1, l)) = _; rw [if_neg hbig])
       generalize (ch.toNat == 1) = bb at q2 HI2
       clear hz hbig hnp
       go_enter Tryz.func75, Tryz.ntmps75
       go_wp2_with (first
         | (go_at_call 100; (with_reducible refine (HE.out _ (Below.refl _ _)).mono ?_); rintro e w1 ⟨rfl, hB1⟩
            have HB1 := Lib.hid hB1
            have HB2 := Lib.hid ((hB1.block _ (heap_lt HB.out)).trans HB.out)
            have r0 := cell_of_row _ _ 0 _ _ _ HB2.out
            have r1 := cell_of_row _ _ 1 _ _ _ HB2.out
            have z0 := frozen_of_row _ _ 0 _ _ HB2.out
            have m0 := HM.out _ hB1
            clear hB1)
         | fail)
       all_goals
         have hnp := HNP.out
         go_ret
         first
         | (obtain ⟨g3, g4⟩ := FIN.out _ (some ⟨b, off + 1, none⟩) (c - 1) (n - 1) HB1.out rfl rfl (Or.inl rfl)
            exact ⟨g3, by rw [HI2.out]; exact g4, by rw [HI2.out]; rfl⟩)
         | (obtain ⟨g3, g4⟩ := FIN.out _ (some ⟨b, off, none⟩) 0 (n - 1) HB1.out (by omega) rfl (Or.inr ⟨by omega, rfl⟩)
            exact ⟨g3, by rw [HI2.out]; exact g4, by rw [HI2.out]; rfl⟩)
def endR (st : Rd) : Bool := match st with | some [] => true | _ => false
theorem rd_end (rb : Nat) (st : Rd) (W : World) (h : RdAt W rb st) : Calls Tryz.prog 77 #[.pointer (some ⟨rb, 0, none⟩)] W fun e w' => ∃ z : Int, e = .returned (.int .i64 z) ∧ (z == 0) = endR st ∧ W.grownBy w' (some rb) := by
 obtain ⟨A, n, c, e, hb, he0, he1⟩ := h.row
 have HE := Lib.hid (show ∀ w', Below W.heap.size W w' → Calls Tryz.prog 100 #[.pointer (some ⟨rb, 0, none⟩)] w' (RetV (.int .i64 e) w') from fun w' hB => rd_err rb A n c e w' ((hB.block _ (heap_lt hb)).trans hb))
 have HB := Lib.hid hb
 cases st with
 | none =>
   have he : e ≠ 0 := he0 rfl
   have r1 : (e == 0) = false := beq_eq_false_iff_ne.2 he
   clear hb he0 he1 h he
   go_enter Tryz.func77, Tryz.ntmps77
   go_wp2_with (first
     | (go_at_call 100; first
        | (with_reducible refine (HE.out _ HB1.out).mono ?_
           rintro e w2 ⟨rfl, hB2⟩
           have HB2 := Lib.hid (HB1.out.trans (hB2.mono HB1.out.size))
           clear hB2)
        | (with_reducible refine (HE.out _ (Below.refl _ _)).mono ?_
           rintro e w1 ⟨rfl, hB1⟩
           have HB1 := Lib.hid hB1
           clear hB1))
     | fail)
   go_ret
   exact ⟨e, rfl, r1, grownB HB2.out _⟩
 | some l =>
   obtain ⟨rfl, hnl, hnc, b, off, rfl, hne, hA⟩ := he1 l rfl
   clear he0 he1 h hA
   cases l with
   | nil =>
     obtain rfl : n = 0 := hnl
     clear hb
     go_enter Tryz.func77, Tryz.ntmps77
     go_wp2_with (first
       | (go_at_call 100; first
          | (with_reducible refine (HE.out _ HB1.out).mono ?_
             rintro e w2 ⟨rfl, hB2⟩
             have HB2 := Lib.hid (HB1.out.trans (hB2.mono HB1.out.size))
             clear hB2)
          | (with_reducible refine (HE.out _ (Below.refl _ _)).mono ?_
             rintro e w1 ⟨rfl, hB1⟩
             have HB1 := Lib.hid hB1
             have r0 := cell_of_row _ _ 0 _ _ _ ((hB1.block _ (heap_lt HB.out)).trans HB.out)
             clear hB1))
       | fail)
     go_ret
     exact ⟨0, rfl, rfl, grownB HB2.out _⟩
   | cons ch l =>
     have hnp : n = l.length + 1 := hnl
     have r3 : (0 < (n : Int)) = True := eq_true (by omega)
     have r3b : (0 < n) = True := eq_true (by omega)
     have HE2 := Lib.hid (show ∀ w', w'.heap[rb]? = some (.cells #[.slice (some ⟨b, off, none⟩) n c, .int .i64 12] 151) → Calls Tryz.prog 100 #[.pointer (some ⟨rb, 0, none⟩)] w' (RetV (.int .i64 12) w') from fun w' hb => rd_err rb _ n c 12 w' hb)
     clear hb hnp hnl
     go_enter Tryz.func77, Tryz.ntmps77
     go_wp2_with (first
       | (go_at_call 100; first
          | (with_reducible refine (HE2.out _ (row_set HB1.out.2 12).2).mono ?_
             rintro e w2 ⟨rfl, hB2⟩
             have HG := Lib.hid (((grownB HB1.out.1 (some rb)).trans (row_set HB1.out.2 12).1).trans (grownB hB2 _))
             clear hB2)
          | (with_reducible refine (HE.out _ (Below.refl _ _)).mono ?_
             rintro e w1 ⟨rfl, hB1⟩
             have HB1 := Lib.hid (⟨hB1, (hB1.block _ (heap_lt HB.out)).trans HB.out⟩ : Below W.heap.size W w1 ∧ w1.heap[rb]? = some (.cells #[.slice (some ⟨b, off, none⟩) n c, .int .i64 0] 151))
             have r0 := cell_of_row _ _ 0 _ _ _ HB1.out.2
             have r1 := cell_of_row _ _ 1 _ _ _ HB1.out.2
             have z1 := frozen_of_row _ _ 1 _ _ HB1.out.2
             clear hB1))
       | fail)
     go_ret
     exact ⟨12, rfl, rfl, HG.out⟩
end Go.Proofs.YtcgpflkaejbkhaaGreatDoor
namespace Go.Proofs.YtcgpflkaejbkhaaGreatDoor
open Go.RowKit

def DocR (S : ByteArray) (e : Int) (st : Rd) : Prop := S.size ≤ 1000 ∧ match st with | none => e ≠ 0 | some l => e = 0 ∧ S.data.toList = l
def rdV (S : ByteArray) (e : Int) : Value := .agg #[.string S, .int .i64 e]
def DocRP {α : Type} (r : Option (α × List UInt8)) (val : α → Value) (z : Value) (w : World) (e : Ending) (w' : World) : Prop := ∃ (S : ByteArray) (er : Int), e = .returned (.tuple #[rdV S er, match r with | some p => val p.1 | none => z]) ∧ DocR S er (restR r) ∧ Below w.heap.size w w'
theorem DocR.bad {S : ByteArray} {e : Int} (h : S.size ≤ 1000) (he : e ≠ 0) : DocR S e none := ⟨h, he⟩
theorem drop_doc (S : ByteArray) (k : Nat) (h : S.size ≤ 1000) : DocR (S.extract k S.size) 0 (some (S.data.toList.drop k)) := by
 refine ⟨by rw [ByteArray.size_extract]; omega, rfl, ?_⟩
 rw [ByteArray.data_extract, Array.toList_extract, List.extract_eq_take_drop]
 refine List.take_of_length_le ?_
 rw [List.length_drop, Array.length_toList]
 exact Nat.le_refl _
theorem slice_end (s : ByteArray) (i : Int) (a : Nat) (hi : i = a) (h1 : a ≤ s.size) (W : World) : (Instr.slice 9 (.string s) (some (.int .i64 i)) none none).run Tryz.prog W = .ok (.string (s.extract a s.size)) W := by
 subst hi
 have := run_slice_string_l (P := Tryz.prog) W 9 s Tryz.underlying9 .i64 (a : Int) (by omega) (by omega)
 simpa using this
theorem slice_beg (s : ByteArray) (i : Int) (a : Nat) (hi : i = a) (h1 : a ≤ s.size) (W : World) : (Instr.slice 9 (.string s) none (some (.int .i64 i)) none).run Tryz.prog W = .ok (.string (s.extract 0 a)) W := by
 subst hi
 have := run_slice_string_h (P := Tryz.prog) W 9 s Tryz.underlying9 .i64 (a : Int) (by omega) (by omega)
 simpa using this
theorem drop_byte (S : ByteArray) (k : Nat) (h : k < S.size) : S.data.toList.drop k = S[k] :: S.data.toList.drop (k + 1) := by
 rw [List.drop_eq_getElem_cons (by simpa using h)]
 rfl
set_option maxRecDepth 100000 in
set_option maxHeartbeats 4000000 in
theorem rtake (S : ByteArray) (e : Int) (st : Rd) (w : World) (h : DocR S e st) : Calls Tryz.prog 103 #[rdV S e] w (DocRP (numR st) (fun v => .int .u64 (v : Nat)) (.int .u64 0) w) := by
 unfold rdV
 cases st with
 | none =>
   have r1 : (e != 0) = true := bne_iff_ne.2 h.2
   have HH := Lib.hid h
   clear h
   go_enter Tryz.func103, Tryz.ntmps103
   go_wp2_with fail
   exact bodyPost_ret (v := .tuple #[rdV S e, .int .u64 0]) (by simp [results, Tryz.results103, go_sem, rdV]) rfl ⟨S, e, rfl, HH.out, by go_grown⟩
 | some l =>
   obtain ⟨hS, rfl, rfl⟩ := h
   have hsz63 : S.size ≤ 1000 := hS
   have HBAD := Lib.hid (show ∀ (er : Int) (w' : World), er ≠ 0 → numR (some S.data.toList) = none → Below w.heap.size w w' → DocRP (numR (some S.data.toList)) (fun v => .int .u64 (v : Nat)) (.int .u64 0) w (.returned (.tuple #[rdV S er, .int .u64 0])) w' from fun er w' he hn hB => ⟨S, er, by rw [hn], by rw [hn]; exact DocR.bad hS he, hB⟩)
   go_enter Tryz.func103, Tryz.ntmps103
   go_wp2_with fail
   go_loop [4, 5, 6] (fun x un i => ∃ (k acc : Nat), k ≤ S.size ∧ k ≤ 9 ∧ i = .int .i64 k ∧ un = .int .u64 (128 ^ k : Nat) ∧ x = .int .u64 acc ∧ acc < 128 ^ k ∧ numR (some S.data.toList) = takeN k acc (S.data.toList.drop k)) (fun _ _ i => 10 - (intOf i).toNat)
   case atStart => exact ⟨0, 0, Nat.zero_le _, Nat.zero_le _, rfl, rfl, rfl, by decide, rfl⟩
   case round =>
     obtain ⟨k, acc, hk, hk9, rfl, rfl, rfl, hacc, hnum⟩ := hrel
     have hu63 : (128 : Nat) ^ k ≤ 128 ^ 9 := Nat.pow_le_pow_right (by omega) hk9
     have e63 : (128 : Nat) ^ 9 = 9223372036854775808 := by decide
     rw [e63] at hu63
     have hu8 : k ≤ 8 → (128 : Nat) ^ k ≤ 72057594037927936 := fun h => Nat.le_trans (Nat.pow_le_pow_right (by omega) h) (by decide)
     have HNUM := Lib.hid hnum
     have HSC := Lib.hid (Nat.pow_succ (n := 128) (m := k))
     clear hnum e63
     by_cases hkn : k < S.size
     · have HD := Lib.hid (drop_byte S k hkn)
       obtain ⟨c, hc⟩ : ∃ c, c = S[k] := ⟨_, rfl⟩
       obtain ⟨z, hz⟩ : ∃ z : Int, z = (c.toNat : Int) := ⟨_, rfl⟩
       have hkz : ((S[k].toNat : Nat) : Int) = z := by rw [hz, hc]
       rw [← hc] at HD
       have hz0 : 0 ≤ z ∧ z ≤ 255 := by have := c.toNat_lt; omega
       have hzm : z.tmod 128 = z % 128 := Int.tmod_eq_emod_of_nonneg hz0.1
       have hkn3 : ((k : Int) < (S.size : Int)) = True := eq_true (by omega)
       have hk10 : ((k : Int) < 10) = True := eq_true (by omega)
       clear hc
       by_cases hb9 : k = 9 ∧ 1 < c.toNat
       · have q1 : ((k : Int) == 9) = true := beq_iff_eq.2 (by omega)
         have q2 : ((k : Int) = 9) = True := eq_true (by omega)
         have q3 : (1 < z) = True := eq_true (by omega)
         have HNN := Lib.hid (show numR (some S.data.toList) = none by rw [HNUM.out, HD.out]; exact takeN_bad (Or.inl hb9))
         clear hz hb9 hacc hu63 hu8
         go_wp2_with fail
         exact bodyPost_ret (v := .tuple #[rdV S 7, .int .u64 0]) (by simp [results, Tryz.results103, go_sem, rdV]) rfl (HBAD.out _ _ (by decide) HNN.out (by go_grown))
       · by_cases hbig : 128 ≤ c.toNat
         · have q1 : ((k : Int) == 9) = false := beq_eq_false_iff_ne.2 (by omega)
           have q2 : ((k : Int) = 9) = False := eq_false (by omega)
           have q3 : (128 ≤ z) = True := eq_true (by omega)
           have q4 : (z < 128) = False := eq_false (by omega)
           have hk8 : k ≤ 8 := by omega
           have hu8 := hu8 hk8
           have HNX := Lib.hid (show numR (some S.data.toList) = takeN (k + 1) (acc + c.toNat % 128 * 128 ^ k) (S.data.toList.drop (k + 1)) by rw [HNUM.out, HD.out]; exact takeN_more hb9 hbig)
           have HML := Lib.hid (more_lt (d := c.toNat) hacc)
           generalize hu : (128 : Nat) ^ k = u at hacc hu8 hu63 HNX HML HSC ⊢
           obtain ⟨m, hm⟩ : ∃ m : Nat, m = c.toNat % 128 * u := ⟨_, rfl⟩
           have hml : m ≤ 127 * u := by rw [hm]; exact Nat.mul_le_mul_right _ (by have := Nat.mod_lt c.toNat (by omega : 0 < 128); omega)
           rw [← hm] at HNX HML
           have hm1 : IntKind.u64.wrap ((u : Int) * (z % 128)) = (m : Int) := by
             have e1 : (u : Int) * (z % 128) = (m : Int) := by rw [hm, hz, Int.mul_comm]; simp
             rw [e1]
             exact IntWalk.u64_in _ ⟨by omega, by omega⟩
           have hm2 : IntKind.u64.wrap ((acc : Int) + (m : Int)) = (acc : Int) + (m : Int) := IntWalk.u64_in _ ⟨by omega, by omega⟩
           have hm3 : IntKind.u64.wrap ((u : Int) * 128) = (u : Int) * 128 := IntWalk.u64_in _ ⟨by omega, by omega⟩
           clear hz hb9 hbig hacc hu63 hu8 hu hm hml
           go_wp2_with fail
           go_round
           case rel => exact ⟨k + 1, acc + m, by omega, by omega, by go_num, by rw [HSC.out]; go_num, by go_num, HML.out, HNX.out⟩
           case measure => simp [intOf] <;> omega
         · by_cases hze : c.toNat = 0 ∧ 0 < k
           · have q1 : ((k : Int) == 9) = decide (k = 9) := by
               by_cases h : k = 9
               · rw [beq_iff_eq.2 (by omega), decide_eq_true h]
               · rw [beq_eq_false_iff_ne.2 (by omega), decide_eq_false h]
             have q5 : z = 0 := by omega
             have q6 : (0 < (k : Int)) = True := eq_true (by omega)
             have q7 : (0 < k) = True := eq_true (by omega)
             have HNN := Lib.hid (show numR (some S.data.toList) = none by rw [HNUM.out, HD.out]; exact takeN_bad (Or.inr hze))
             obtain ⟨x, hx⟩ : ∃ x : Int, x = IntKind.u64.wrap (((128 : Nat) ^ k : Nat) * (0 % 128)) := ⟨_, rfl⟩
             clear hz hb9 hze hacc hu63 hu8 hbig
             subst q5
             go_wp2_with fail
             all_goals exact bodyPost_ret (v := .tuple #[rdV S 7, .int .u64 0]) (by simp [results, Tryz.results103, go_sem, rdV]) rfl (HBAD.out _ _ (by decide) HNN.out (by go_grown))
           · have HOK := Lib.hid (show numR (some S.data.toList) = some (acc + c.toNat % 128 * 128 ^ k, S.data.toList.drop (k + 1)) by rw [HNUM.out, HD.out]; exact takeN_end hb9 (by omega) hze)
             have hv := numR_lt HOK.out
             generalize hu : (128 : Nat) ^ k = u at hacc hu8 hu63 HOK HSC hv ⊢
             obtain ⟨m, hm⟩ : ∃ m : Nat, m = c.toNat % 128 * u := ⟨_, rfl⟩
             rw [← hm] at HOK hv
             have hm1 : IntKind.u64.wrap ((u : Int) * (z % 128)) = (m : Int) := by
               have e1 : (u : Int) * (z % 128) = (m : Int) := by rw [hm, hz, Int.mul_comm]; simp
               rw [e1]
               exact IntWalk.u64_in _ ⟨by omega, by omega⟩
             have hm2 : IntKind.u64.wrap ((acc : Int) + (m : Int)) = (acc : Int) + (m : Int) := IntWalk.u64_in _ ⟨by omega, by omega⟩
             obtain ⟨T, hT⟩ : ∃ T, T = S.extract (k + 1) S.size := ⟨_, rfl⟩
             have hsl : ∀ W, (Instr.slice 9 (.string S) (some (.int .i64 ((k : Int) + 1))) none none).run Tryz.prog W = .ok (.string T) W := fun W => by rw [hT]; exact slice_end S _ (k + 1) (by omega) (by omega) W
             have HT := Lib.hid (show DocR T 0 (some (S.data.toList.drop (k + 1))) by rw [hT]; exact drop_doc S _ hS)
             have FIN := Lib.hid (show ∀ w' : World, Below w.heap.size w w' → DocRP (numR (some S.data.toList)) (fun v => .int .u64 (v : Nat)) (.int .u64 0) w (.returned (.tuple #[rdV T 0, .int .u64 ((acc : Int) + (m : Int))])) w' from fun w' hB => ⟨T, 0, by rw [HOK.out]; simp, by rw [HOK.out]; exact HT.out, hB⟩)
             by_cases hz9 : z = 0
             · have h9 : k ≠ 9 := by omega
               have q1 : ((k : Int) == 9) = false := beq_eq_false_iff_ne.2 (by omega)
               have q2 : ((k : Int) = 9) = False := eq_false (by omega)
               have q7 : (0 < (k : Int)) = False := eq_false (by omega)
               have q8 : (0 < k) = False := eq_false (by omega)
               have q9 : ((k : Int) == 0) = true := beq_iff_eq.2 (by omega)
               have hwa : IntKind.u64.wrap (acc : Int) = (acc : Int) := IntWalk.u64_in _ ⟨by omega, by omega⟩
               have hm0 : m = 0 := by rw [hm, show c.toNat = 0 by omega]; simp
               clear hz hb9 hze hacc hu63 hu8 hbig hu hm hT hv
               subst hz9
               go_wp2_with fail
               all_goals exact bodyPost_ret (v := .tuple #[rdV T 0, .int .u64 ((acc : Int) + (m : Int))]) (by subst hm0; simp [results, Tryz.results103, go_sem, rdV]) rfl (FIN.out _ (by go_grown))
             · have q5 : (z == 0) = false := beq_eq_false_iff_ne.2 (by omega)
               have q6 : (z = 0) = False := eq_false (by omega)
               have q4 : (z < 128) = True := eq_true (by omega)
               by_cases h9 : k = 9
               · have q1 : ((k : Int) == 9) = true := beq_iff_eq.2 (by omega)
                 have q2 : ((k : Int) = 9) = True := eq_true (by omega)
                 have q3 : (1 < z) = False := eq_false (by omega)
                 clear hz hb9 hze hacc hu63 hu8 hbig hu hm hT hv h9 hz9
                 go_wp2_with fail
                 all_goals exact bodyPost_ret (v := .tuple #[rdV T 0, .int .u64 ((acc : Int) + (m : Int))]) (by simp [results, Tryz.results103, go_sem, rdV]) rfl (FIN.out _ (by go_grown))
               · have q1 : ((k : Int) == 9) = false := beq_eq_false_iff_ne.2 (by omega)
                 have q2 : ((k : Int) = 9) = False := eq_false (by omega)
                 clear hz hb9 hze hacc hu63 hu8 hbig hu hm hT hv h9 hz9
                 go_wp2_with fail
                 all_goals exact bodyPost_ret (v := .tuple #[rdV T 0, .int .u64 ((acc : Int) + (m : Int))]) (by simp [results, Tryz.results103, go_sem, rdV]) rfl (FIN.out _ (by go_grown))
     · obtain rfl : S.size = k := by omega
       have HNN := Lib.hid (show numR (some S.data.toList) = none by rw [HNUM.out, List.drop_of_length_le (by simp)]; rfl)
       clear hacc hu63 hu8
       go_wp2_with fail
       exact bodyPost_ret (v := .tuple #[rdV S 10, .int .u64 0]) (by simp [results, Tryz.results103, go_sem, rdV]) rfl (HBAD.out _ _ (by decide) HNN.out (by go_grown))
theorem DocR.some {S : ByteArray} {e : Int} {l : List UInt8} (h : DocR S e (some l)) : e = 0 ∧ S.data.toList = l ∧ S.size = l.length := ⟨h.2.1, h.2.2, by rw [← h.2.2]; simp⟩
structure TwoB (w : World) (S : ByteArray) (e : Int) (W : World) : Prop where
 b0 : W.heap[w.heap.size]? = some (.cells #[.string S, .int .i64 e] 128)
 b1 : W.heap[w.heap.size + 1]? = some (.cells #[.string ⟨#[]⟩, .int .i64 0] 128)
 below : Below w.heap.size w W
theorem TwoB.keep {w W W' : World} {S : ByteArray} {e : Int} (h : TwoB w S e W) (hB : Below W.heap.size W W') : TwoB w S e W' :=
 ⟨(hB.block _ (heap_lt h.b0)).trans h.b0, (hB.block _ (heap_lt h.b1)).trans h.b1, h.below.trans (hB.mono h.below.size)⟩
theorem TwoB.start (w : World) (S : ByteArray) (e : Int) : TwoB w S e ((w.alloc (.cells #[.string S, .int .i64 e] 128)).alloc (.cells #[.string ⟨#[]⟩, .int .i64 0] 128)) := by
 refine ⟨?_, ?_, (below1 w _).alloc (by simp) _⟩
 · rw [heap_alloc_old _ _ (by simp)]
   exact heap_alloc_new w _
 · have h := heap_alloc_new (w.alloc (.cells #[.string S, .int .i64 e] 128)) (.cells #[.string ⟨#[]⟩, .int .i64 0] 128)
   rw [World.size_alloc] at h
   exact h
theorem TwoB.ans {w W : World} {S : ByteArray} {e : Int} (h : TwoB w S e W) : W.cell? ⟨w.heap.size + 1, 0, none⟩ = some (.string ⟨#[]⟩) ∧ W.cell? ⟨w.heap.size + 1, 1, none⟩ = some (.int .i64 0) ∧ W.frozen? ⟨w.heap.size + 1, 0, none⟩ = false ∧ W.frozen? ⟨w.heap.size + 1, 1, none⟩ = false :=
 ⟨cell_of_row _ _ 0 _ _ _ h.b1, cell_of_row _ _ 1 _ _ _ h.b1, frozen_of_row _ _ 0 _ _ h.b1, frozen_of_row _ _ 1 _ _ h.b1⟩
theorem TwoB.arg {w W : World} {S : ByteArray} {e : Int} (h : TwoB w S e W) : W.cell? ⟨w.heap.size, 0, none⟩ = some (.string S) ∧ W.cell? ⟨w.heap.size, 1, none⟩ = some (.int .i64 e) := ⟨cell_of_row _ _ 0 _ _ _ h.b0, cell_of_row _ _ 1 _ _ _ h.b0⟩
theorem TwoB.done {w W : World} {S : ByteArray} {e : Int} (h : TwoB w S e W) (x y : Value) : Below w.heap.size w ((W.setCell ⟨w.heap.size + 1, 0, none⟩ x).setCell ⟨w.heap.size + 1, 1, none⟩ y) :=
 (h.below.setCell (p := ⟨w.heap.size + 1, 0, none⟩) (Nat.le_succ _) _).setCell (p := ⟨w.heap.size + 1, 1, none⟩) (Nat.le_succ _) _
set_option maxHeartbeats 1000000 in
theorem rtake_int (S : ByteArray) (e : Int) (st : Rd) (w : World) (h : DocR S e st) : Calls Tryz.prog 86 #[rdV S e] w (DocRP (intR st) (fun v => .int .i64 v) (.int .i64 0) w) := by
 have HN := Lib.hid (show ∀ W, Calls Tryz.prog 103 #[.agg #[.string S, .int .i64 e]] W (DocRP (numR st) (fun v => .int .u64 (v : Nat)) (.int .u64 0) W) from fun W => rtake S e st W h)
 have HI := Lib.hid (show intR st = (numR st).map fun p => (if p.1 % 2 = 1 then -((p.1 / 2 : Nat) : Int) - 1 else ((p.1 / 2 : Nat) : Int), p.2) from rfl)
 have HK := Lib.hid (TwoB.start w S e)
 unfold rdV
 clear h
 cases hn : numR st with
 | none =>
   rw [hn] at HN HI
   go_enter Tryz.func86, Tryz.ntmps86
   go_wp2_with (first
     | (go_at_call 103; (with_reducible refine (HN.out _).mono ?_); rintro e w2 ⟨S2, e2, rfl, ha, hB⟩
        have HA := Lib.hid ha
        have HK2 := Lib.hid ((HK.out.keep hB).keep (below1 _ (.cells #[.string S2, .int .i64 e2] 128)))
        obtain ⟨q0, q1, z0, z1⟩ := HK2.out.ans
        unfold rdV
        clear hB ha)
     | fail)
   exact bodyPost_ret (v := .tuple #[rdV S2 e2, .int .i64 0]) (by simp [results, Tryz.results86, go_sem, rdV, q0, q1]) rfl ⟨S2, e2, by rw [HI.out]; rfl, by rw [HI.out]; exact HA.out, HK2.out.done _ _⟩
 | some p =>
   obtain ⟨v, l'⟩ := p
   have hv := numR_lt hn
   rw [hn] at HN HI
   obtain ⟨q, hq⟩ : ∃ q : Nat, q = v / 2 := ⟨_, rfl⟩
   have hq63 : q < 2 ^ 63 := by omega
   by_cases ho : v % 2 = 1
   · have r1 : ((v : Int).tmod 2) = 1 := by rw [Int.tmod_eq_emod_of_nonneg (by omega)]; omega
     have r1b : (v : Int) % 2 = 1 := by omega
     have r2 : ((v : Int).tdiv 2) = (q : Int) := by rw [Int.tdiv_eq_ediv_of_nonneg (by omega)]; omega
     have r2b : (v : Int) / 2 = (q : Int) := by omega
     have r3 : IntKind.i64.wrap (q : Int) = (q : Int) := IntWalk.i64_in _ (by omega)
     have r4 : IntKind.i64.wrap (-(q : Int)) = -(q : Int) := IntWalk.i64_in _ (by omega)
     have r5 : IntKind.i64.wrap (-(q : Int) - 1) = -(q : Int) - 1 := IntWalk.i64_in _ (by omega)
     have HI2 := Lib.hid (show intR st = some (-(q : Int) - 1, l') by rw [HI.out]; simp only [Option.map_some, if_pos ho]; rw [← hq])
     clear hv hq ho
     go_enter Tryz.func86, Tryz.ntmps86
     go_wp2_with (first
       | (go_at_call 103; (with_reducible refine (HN.out _).mono ?_); rintro e w2 ⟨S2, e2, rfl, ha, hB⟩
          have HA := Lib.hid ha
          have HK2 := Lib.hid ((HK.out.keep hB).keep (below1 _ (.cells #[.string S2, .int .i64 e2] 128)))
          obtain ⟨q0, q1, z0, z1⟩ := HK2.out.ans
          unfold rdV
          clear hB ha)
       | fail)
     exact bodyPost_ret (v := .tuple #[rdV S2 e2, .int .i64 (-(q : Int) - 1)]) (by simp [results, Tryz.results86, go_sem, rdV, q0, q1]) rfl ⟨S2, e2, by rw [HI2.out], by rw [HI2.out]; exact HA.out, HK2.out.done _ _⟩
   · have r1 : ((v : Int).tmod 2) = 0 := by rw [Int.tmod_eq_emod_of_nonneg (by omega)]; omega
     have r1b : (v : Int) % 2 = 0 := by omega
     have r2 : ((v : Int).tdiv 2) = (q : Int) := by rw [Int.tdiv_eq_ediv_of_nonneg (by omega)]; omega
     have r2b : (v : Int) / 2 = (q : Int) := by omega
     have r3 : IntKind.i64.wrap (q : Int) = (q : Int) := IntWalk.i64_in _ (by omega)
     have HI2 := Lib.hid (show intR st = some ((q : Int), l') by rw [HI.out]; simp only [Option.map_some, if_neg ho]; rw [← hq])
     clear hv hq ho
     go_enter Tryz.func86, Tryz.ntmps86
     go_wp2_with (first
       | (go_at_call 103; (with_reducible refine (HN.out _).mono ?_); rintro e w2 ⟨S2, e2, rfl, ha, hB⟩
          have HA := Lib.hid ha
          have HK2 := Lib.hid ((HK.out.keep hB).keep (below1 _ (.cells #[.string S2, .int .i64 e2] 128)))
          obtain ⟨q0, q1, z0, z1⟩ := HK2.out.ans
          unfold rdV
          clear hB ha)
       | fail)
     exact bodyPost_ret (v := .tuple #[rdV S2 e2, .int .i64 (q : Int)]) (by simp [results, Tryz.results86, go_sem, rdV, q0, q1]) rfl ⟨S2, e2, by rw [HI2.out], by rw [HI2.out]; exact HA.out, HK2.out.done _ _⟩
end Go.Proofs.YtcgpflkaejbkhaaGreatDoor
