/- The walks of the reader's Text, and of Read. -/
import Derived.Test.YtcgpflkaejbkhaaGreatDoorQBA
import Derived.Laws.CopyOwn
namespace Go.Proofs.YtcgpflkaejbkhaaGreatDoor
open Go.RowKit

theorem conv_take (b off v c : Nat) (l : List UInt8) (w : World) (hv : v ≤ l.length) (h : BtAt w (some ⟨b, off, none⟩) l) : (convert 55 9 (.slice (some ⟨b, off, none⟩) v c)).run Tryz.prog w = .ok (.string ⟨(l.take v).toArray⟩) w := by
 have hl : (l.take v).length = v := by rw [List.length_take]; omega
 have := run_convert_bytes_back (P := Tryz.prog) w 55 9 5 ⟨b, off, none⟩ c (l.take v) Tryz.underlying55 Tryz.underlying5 Tryz.underlying9 (fun j hj => by
   rw [hl] at hj
   rcases h.2 with h0 | ⟨b', off', h1, h2, h3⟩
   · subst h0; simp at hv; omega
   · cases h1
     rw [Addr.add_lit]
     have hjl : j < l.length := by omega
     rw [h3 j l[j] (List.getElem?_eq_getElem hjl)]
     simp [byV, List.getElem_take])
 rw [hl] at this
 exact this
theorem rd_text (most : Nat) (hmost : most ≤ 1000000) (rb : Nat) (st : Rd) (W : World) (h : RdAt W rb st) : Calls Tryz.prog 74 #[.pointer (some ⟨rb, 0, none⟩), .int .i64 most] W (RdP W rb (textR most st) (fun v => .string ⟨v.toArray⟩) (.string ⟨#[]⟩)) := by
 have HI := Lib.hid (show textR most st = (countR most st).bind fun p => if p.2.length < p.1 then none else some (p.2.take p.1, p.2.drop p.1) from rfl)
 obtain ⟨A, n, c, e, hb, he0, he1⟩ := h.row
 have HE := Lib.hid (show ∀ w', Below W.heap.size W w' → Calls Tryz.prog 100 #[.pointer (some ⟨rb, 0, none⟩)] w' (RetV (.int .i64 e) w') from fun w' hB => rd_err rb A n c e w' ((hB.block _ (heap_lt hb)).trans hb))
 have HN := Lib.hid (show ∀ w', Below W.heap.size W w' → Calls Tryz.prog 73 #[.pointer (some ⟨rb, 0, none⟩), .int .i64 most] w' (RdP w' rb (countR most st) (fun v => .int .i64 (v : Nat)) (.int .i64 0)) from fun w' hB => rd_count most hmost rb st w' (h.keep hB))
 have HB := Lib.hid hb
 have HH := Lib.hid h
 cases st with
 | none =>
   have r1 : (e != 0) = true := bne_iff_ne.2 (he0 rfl)
   clear hb he0 he1 h
   go_enter Tryz.func74, Tryz.ntmps74
   go_wp2_with (first
     | (go_at_call 100; (with_reducible refine (HE.out _ (Below.refl _ _)).mono ?_); rintro e w1 ⟨rfl, hB1⟩
        have HB1 := Lib.hid hB1
        clear hB1)
     | fail)
   go_ret
   exact ⟨grownB HB1.out _, HH.out.keep HB1.out, rfl⟩
 | some l =>
   obtain ⟨rfl, hnl, hnc, b, off, rfl, hne, hA⟩ := he1 l rfl
   clear he0 he1 h
   cases hn : countR most (some l) with
   | none =>
     rw [hn] at HN HI
     clear hb hA hn
     go_enter Tryz.func74, Tryz.ntmps74
     go_wp2_with (first
       | (go_at_call 100; (with_reducible refine (HE.out _ (Below.refl _ _)).mono ?_); rintro e w1 ⟨rfl, hB1⟩
          have HB1 := Lib.hid hB1
          have r0 := cell_of_row _ _ 0 _ _ _ ((hB1.block _ (heap_lt HB.out)).trans HB.out)
          clear hB1)
       | (go_at_call 73; (with_reducible refine (HN.out _ HB1.out).mono ?_); rintro e w2 ⟨hg, ha, rfl⟩
          have HG := Lib.hid ((grownB HB1.out (some rb)).trans hg)
          have HA := Lib.hid ha
          obtain ⟨A2, n2, c2, e2, hb2, h2, _⟩ := ha.row
          have r1 : (e2 != 0) = true := bne_iff_ne.2 (h2 rfl)
          clear r0
          have r0 := cell_of_row _ _ 1 _ _ _ hb2
          clear hg ha h2 hb2)
       | fail)
     go_ret
     exact ⟨HG.out, by rw [HI.out]; exact HA.out, by rw [HI.out]; rfl⟩
   | some p =>
     obtain ⟨v, l'⟩ := p
     rw [hn] at HN HI
     clear hb hA hn
     have hv : v ≤ 1000000 ∨ True := Or.inr trivial
     by_cases hvl : l'.length < v
     · have q2 : ((l'.length : Int) < (v : Int)) = True := eq_true (by omega)
       have q3 : (l'.length < v) = True := eq_true hvl
       have HI2 := Lib.hid (show textR most (some l) = none by rw [HI.out]; simp only [Option.bind_some, if_pos hvl])
       clear hvl hnl hv
       go_enter Tryz.func74, Tryz.ntmps74
       go_wp2_with (first
         | (go_at_call 100; (with_reducible refine (HE.out _ (Below.refl _ _)).mono ?_); rintro e w1 ⟨rfl, hB1⟩
            have HB1 := Lib.hid hB1
            have r0 := cell_of_row _ _ 0 _ _ _ ((hB1.block _ (heap_lt HB.out)).trans HB.out)
            clear hB1)
         | (go_at_call 73; (with_reducible refine (HN.out _ HB1.out).mono ?_); rintro e w2 ⟨hg, ha, rfl⟩
            have HG := Lib.hid ((grownB HB1.out (some rb)).trans hg)
            obtain ⟨A2, n2, c2, e2, hb2, _, h2⟩ := ha.row
            obtain ⟨rfl, rfl, _⟩ := h2 l' rfl
            have HB2 := Lib.hid hb2
            clear r0
            have r1 := cell_of_row _ _ 1 _ _ _ hb2
            have r0 := cell_of_row _ _ 0 _ _ _ hb2
            have z0 := frozen_of_row _ _ 0 _ _ hb2
            have z1 := frozen_of_row _ _ 1 _ _ hb2
            clear hg ha h2 hb2)
         | fail)
       go_ret
       obtain ⟨g1, g2⟩ := row_set0 HB2.out (some ⟨b, off, none⟩) n c
       obtain ⟨g3, g4⟩ := row_set g2 10
       exact ⟨(HG.out.trans g1).trans g3, by rw [HI2.out]; exact RdAt.bad g4 (by decide), by rw [HI2.out]; rfl⟩
     · have q2 : ((l'.length : Int) < (v : Int)) = False := eq_false (by omega)
       have q3 : (l'.length < v) = False := eq_false hvl
       have q4 : ((v : Int) ≤ (l'.length : Int)) = True := eq_true (by omega)
       have q4b : (v ≤ l'.length) = True := eq_true (by omega)
       have HI2 := Lib.hid (show textR most (some l) = some (l'.take v, l'.drop v) by rw [HI.out]; simp only [Option.bind_some, if_neg hvl])
       have HVL := Lib.hid (show v ≤ l'.length from by omega)
       clear hnl hv hvl
       go_enter Tryz.func74, Tryz.ntmps74
       go_wp2_with (first
         | (go_at_call 100; (with_reducible refine (HE.out _ (Below.refl _ _)).mono ?_); rintro e w1 ⟨rfl, hB1⟩
            have HB1 := Lib.hid hB1
            have r0 := cell_of_row _ _ 0 _ _ _ ((hB1.block _ (heap_lt HB.out)).trans HB.out)
            clear hB1)
         | (go_at_call 73; (with_reducible refine (HN.out _ HB1.out).mono ?_); rintro e w2 ⟨hg, ha, rfl⟩
            have HG := Lib.hid ((grownB HB1.out (some rb)).trans hg)
            obtain ⟨A2, n2, c2, e2, hb2, _, h2⟩ := ha.row
            obtain ⟨rfl, rfl, hc2, b2, off2, rfl, hne2, hA2⟩ := h2 l' rfl
            have HB2 := Lib.hid hb2
            have hcv := fun cc => conv_take b2 off2 v cc l' w2 HVL.out hA2
            have q5 : ((v : Int) ≤ (c2 : Int)) = True := eq_true (by have := HVL.out; omega)
            have q5b : (v ≤ c2) = True := eq_true (by have := HVL.out; omega)
            have FIN := Lib.hid (show ∀ (A' : Option Addr) (c' n' : Nat), c' = c2 - v → n' = l'.length - v → (A' = some ⟨b2, off2 + v, none⟩ ∨ (l'.length = v ∧ A' = some ⟨b2, off2, none⟩)) → W.grownBy (w2.setCell ⟨rb, 0, none⟩ (.slice A' n' c')) (some rb) ∧ RdAt (w2.setCell ⟨rb, 0, none⟩ (.slice A' n' c')) rb (some (l'.drop v)) from by
              intro A' c' n' hc' hn' hA'
              subst hc' hn'
              obtain ⟨g1, g2⟩ := row_set0 hb2 A' (l'.length - v) (c2 - v)
              exact ⟨HG.out.trans g1, RdAt.moved (k := v) (c := c2) hA2 hne2 HVL.out hc2 hA' g1 g2⟩)
            have HC2 := Lib.hid hc2
            clear r0
            have r1 := cell_of_row _ _ 1 _ _ _ hb2
            have r0 := cell_of_row _ _ 0 _ _ _ hb2
            have z0 := frozen_of_row _ _ 0 _ _ hb2
            clear hg ha h2 hb2 hA2 hc2)
         | fail)
       all_goals
         have hvl := HVL.out
         have hc2 := HC2.out
         go_ret
         first
         | (obtain ⟨g3, g4⟩ := FIN.out (some ⟨b2, off2 + v, none⟩) (c2 - v) (l'.length - v) rfl rfl (Or.inl rfl)
            exact ⟨g3, by rw [HI2.out]; exact g4, by rw [HI2.out]; rfl⟩)
         | (obtain ⟨g3, g4⟩ := FIN.out (some ⟨b2, off2, none⟩) 0 (l'.length - v) (by omega) rfl (Or.inr ⟨by omega, rfl⟩)
            exact ⟨g3, by rw [HI2.out]; exact g4, by rw [HI2.out]; rfl⟩)
theorem info5 : (Tryz.prog.info? 5).map (·.size) = some 1 := by kernel_rfl
theorem make_bytes : ∃ z : Value, z.cells = #[.int .u8 0] ∧ ∀ (n : Nat) (w : World), n ≤ 100000 → (Instr.makeSlice 55 (.int .i64 n) (.int .i64 n)).run Tryz.prog w = .ok (.slice (some ⟨w.heap.size, 0, none⟩) n n) (w.alloc (.cells (madeCells z.cells n) 5)) := by
 obtain ⟨i, hi⟩ : ∃ i, Tryz.prog.info? 5 = some i := by
   cases h : Tryz.prog.info? 5 with
   | none => have := info5; rw [h] at this; cases this
   | some i => exact ⟨i, rfl⟩
 have hs : i.size = 1 := by have := info5; rw [hi] at this; simpa using this
 have hz : i.zero = some (.int .u8 0) := by
   have : (Tryz.prog.info? 5).map (·.zero) = some (some (.int .u8 0)) := by kernel_rfl
   rw [hi] at this
   simpa using this
 have hby : i.bytes = 1 := by
   have : (Tryz.prog.info? 5).map (·.bytes) = some 1 := by kernel_rfl
   rw [hi] at this
   simpa using this
 refine ⟨.int .u8 0, rfl, fun n w hn => ?_⟩
 have := run_makeSlice (P := Tryz.prog) (w := w) 55 5 i (.int .u8 0) Tryz.underlying55 hi hz .i64 .i64 (n : Int) (n : Int) (by omega) (by omega) (by rw [hs]; simp; omega) (by rw [hby]; omega) (by omega)
 simpa [hs] using this
theorem copy_bytes (C : Array Value) (A : Option Addr) (c : Nat) (l : List UInt8) (W : World) (h : BtAt W A l) (hC : C.size = l.length) : ∃ w' : World, (Builtin.copy_ #[55, 55] 3 #[.slice (some ⟨W.heap.size, 0, none⟩) l.length l.length, .slice A l.length c]).run Tryz.prog (W.alloc (.cells C 5)) = .ok (.int .i64 (l.length : Int)) w' ∧ Below W.heap.size W w' ∧ W.heap.size < w'.heap.size ∧ w'.heap[W.heap.size]? = some (.cells (l.map byV).toArray 5 (0, 0)) := by
 have hb : (W.alloc (.cells C 5)).heap[W.heap.size]? = some (.cells C 5 (0, 0)) := heap_alloc_new W _
 by_cases h0 : l = []
 · subst h0
   have hC0 : C = #[] := Array.eq_empty_of_size_eq_zero hC
   subst hC0
   have := run_copy_none (P := Tryz.prog) (W.alloc (.cells #[] 5)) 55 55 3 5 (some ⟨W.heap.size, 0, none⟩) A 0 0 0 c Tryz.underlying55 info5 rfl
   exact ⟨_, this, below1 W _, by simp, hb⟩
 · obtain ⟨b, off, rfl, hlt, hcell⟩ : ∃ b off, A = some ⟨b, off, none⟩ ∧ b < W.heap.size ∧ ∀ (i : Nat) (c : UInt8), l[i]? = some c → W.cell? ⟨b, off + i, none⟩ = some (byV c) := by
     rcases h.2 with h1 | ⟨b, off, h1, h2, h3⟩
     · exact absurd h1 h0
     · exact ⟨b, off, h1, h2, h3⟩
   have := run_copy_row (P := Tryz.prog) (W.alloc (.cells C 5)) 55 55 3 5 W.heap.size 0 l.length l.length ⟨b, off, none⟩ l.length c C 5 (l.map byV) Tryz.underlying55 info5 hb (by simp) (fun j v hj => by
     rw [List.getElem?_map, Option.map_eq_some_iff] at hj
     obtain ⟨ch, hch, rfl⟩ := hj
     rw [Addr.add_lit]
     exact Lib.cell?_alloc_some _ (hcell j ch hch)) (by simp; omega) (fun v hv => by
     obtain ⟨ch, _, rfl⟩ := List.mem_map.1 hv
     rfl)
   rw [List.length_map] at this
   have e : (C.toList.take 0 ++ l.map byV ++ C.toList.drop (0 + l.length)) = l.map byV := by
     rw [List.take_zero, List.nil_append, List.drop_eq_nil_of_le (by rw [Array.length_toList]; omega), List.append_nil]
   rw [e] at this
   exact ⟨_, this, below_setRow (below1 W _) (Nat.le_refl _) _, by simp [World.setRow], setRow_heap _ _ _ _ 5 _ hb⟩
theorem BtAt.whole {w : World} {g : Nat} {l : List UInt8} (h : w.heap[g]? = some (.cells (l.map byV).toArray 5 (0, 0))) (hl : l.length ≤ maxLen) : BtAt w (some ⟨g, 0, none⟩) l :=
 ⟨hl, Or.inr ⟨g, 0, rfl, heap_lt h, fun i c hi => by rw [cell_of_row w g _ _ _ _ h, Nat.zero_add, List.getElem?_toArray, List.getElem?_map, hi]; rfl⟩⟩
set_option maxRecDepth 100000 in
theorem rd_read (A : Option Addr) (c : Nat) (l : List UInt8) (W : World) (h : BtAt W A l) (hl : l.length ≤ 100000) : Calls Tryz.prog 72 #[.slice A l.length c] W fun e w' => ∃ rb : Nat, e = .returned (.pointer (some ⟨rb, 0, none⟩)) ∧ Below W.heap.size W w' ∧ W.heap.size ≤ rb ∧ RdAt w' rb (some l) := by
 obtain ⟨z, _, hm0⟩ := make_bytes
 have hm1 := fun w => hm0 l.length w hl
 obtain ⟨C, hC⟩ : ∃ C, C = madeCells z.cells l.length := ⟨_, rfl⟩
 have hm : ∀ w : World, (Instr.makeSlice 55 (.int .i64 l.length) (.int .i64 l.length)).run Tryz.prog w = .ok (.slice (some ⟨w.heap.size, 0, none⟩) l.length l.length) (w.alloc (.cells C 5)) := fun w => by rw [hC]; exact hm1 w
 obtain ⟨w2, hcp, hB2, hs2, hr2⟩ := copy_bytes C A c l W h (by rw [hC, size_madeCells])
 have HB2 := Lib.hid hB2
 have HS2 := Lib.hid hs2
 have HR2 := Lib.hid hr2
 have HL := Lib.hid h.1
 clear hm0 hm1 hC hl h hB2 hs2 hr2
 go_enter Tryz.func72, Tryz.ntmps72
 go_wp2_with fail
 go_ret
 have hlt := HS2.out
 have hn := heap_alloc_new w2 (.cells #[.slice (some ⟨W.heap.size, 0, none⟩) l.length l.length, .int .i64 0] 151)
 exact ⟨w2.heap.size, rfl, HB2.out.alloc HB2.out.size _, by omega, _, _, _, _, hn, rfl, rfl, Nat.le_refl _, W.heap.size, 0, rfl, by omega, (BtAt.whole HR2.out HL.out).keep (below1 w2 _)⟩
end Go.Proofs.YtcgpflkaejbkhaaGreatDoor
