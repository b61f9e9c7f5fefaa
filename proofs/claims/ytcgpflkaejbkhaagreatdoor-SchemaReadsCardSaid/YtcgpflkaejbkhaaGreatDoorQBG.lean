/- The walks of the document's readers: Count, TakeText, TakeBool, End. -/
import Derived.Test.YtcgpflkaejbkhaaGreatDoorQBA
namespace Go.Proofs.YtcgpflkaejbkhaaGreatDoor
open Go.RowKit
theorem TwoB.res {w W : World} {S : ByteArray} {e : Int} (h : TwoB w S e W) (x y : Value) (O : Obj) : (((W.setCell ⟨w.heap.size + 1, 0, none⟩ x).setCell ⟨w.heap.size + 1, 1, none⟩ y).alloc O).cell? ⟨w.heap.size + 1, 0, none⟩ = some x ∧ (((W.setCell ⟨w.heap.size + 1, 0, none⟩ x).setCell ⟨w.heap.size + 1, 1, none⟩ y).alloc O).cell? ⟨w.heap.size + 1, 1, none⟩ = some y ∧ Below w.heap.size w (((W.setCell ⟨w.heap.size + 1, 0, none⟩ x).setCell ⟨w.heap.size + 1, 1, none⟩ y).alloc O).drew := by
 have h1 : (W.setCell ⟨w.heap.size + 1, 0, none⟩ x).heap[w.heap.size + 1]? = some (.cells #[x, .int .i64 0] 128) := by
   rw [setCell_eq_setRow W _ 0 _ 128 _ _ h.b1]
   exact setRow_heap W _ _ _ 128 _ h.b1
 have h2 : ((W.setCell ⟨w.heap.size + 1, 0, none⟩ x).setCell ⟨w.heap.size + 1, 1, none⟩ y).heap[w.heap.size + 1]? = some (.cells #[x, y] 128) := by
   rw [setCell_eq_setRow _ _ 1 _ 128 _ _ h1]
   exact setRow_heap _ _ _ _ 128 _ h1
 have h3 := ((below1 ((W.setCell ⟨w.heap.size + 1, 0, none⟩ x).setCell ⟨w.heap.size + 1, 1, none⟩ y) O).block _ (heap_lt h2)).trans h2
 exact ⟨cell_of_row _ _ 0 _ _ _ h3, cell_of_row _ _ 1 _ _ _ h3, (Below.alloc (h.done x y) (by simp; exact h.below.size) O).drew⟩
theorem take_bytes (S : ByteArray) (v : Nat) : S.extract 0 v = ⟨(S.data.toList.take v).toArray⟩ := by
 have h : (S.extract 0 v).data = (S.data.toList.take v).toArray := by
   rw [ByteArray.data_extract]
   apply Array.ext'
   rw [Array.toList_extract, List.extract_eq_take_drop]
   simp
 rw [← h]
set_option maxHeartbeats 1000000 in
theorem rcount (most : Nat) (hmost : most ≤ 1000000) (S : ByteArray) (e : Int) (st : Rd) (w : World) (h : DocR S e st) : Calls Tryz.prog 83 #[rdV S e, .int .i64 most] w (DocRP (countR most st) (fun v => .int .i64 (v : Nat)) (.int .i64 0) w) := by
 have HN := Lib.hid (show ∀ W, Calls Tryz.prog 103 #[.agg #[.string S, .int .i64 e]] W (DocRP (numR st) (fun v => .int .u64 (v : Nat)) (.int .u64 0) W) from fun W => rtake S e st W h)
 have HI := Lib.hid (show countR most st = (numR st).bind fun p => if most < p.1 then none else some p from rfl)
 have HK := Lib.hid (TwoB.start w S e)
 have HS := Lib.hid h.1
 unfold rdV
 clear h
 cases hn : numR st with
 | none =>
   rw [hn] at HN HI
   go_enter Tryz.func83, Tryz.ntmps83
   go_wp2_with (first
     | (go_at_call 103; (with_reducible refine (HN.out _).mono ?_); rintro e w2 ⟨S2, e2, rfl, ha, hB⟩
        have HA := Lib.hid ha
        have HK2 := Lib.hid ((HK.out.keep hB).keep (below1 _ (.cells #[.string S2, .int .i64 e2] 128)))
        obtain ⟨q0, q1, z0, z1⟩ := HK2.out.ans
        have r1 : (e2 != 0) = true := bne_iff_ne.2 ha.2
        unfold rdV
        clear hB ha)
     | fail)
   exact bodyPost_ret (v := .tuple #[rdV S2 e2, .int .i64 0]) (by simp [results, Tryz.results83, go_sem, rdV, q0, q1]) rfl ⟨S2, e2, by rw [HI.out]; rfl, by rw [HI.out]; exact HA.out, HK2.out.done _ _⟩
 | some p =>
   obtain ⟨v, l'⟩ := p
   have hv := numR_lt hn
   rw [hn] at HN HI
   have q0' : ((most : Int) < 0) = False := eq_false (by omega)
   have q1' : IntKind.u64.wrap (most : Int) = (most : Int) := IntWalk.u64_in _ ⟨by omega, by omega⟩
   by_cases hmv : most < v
   · have q2 : ((most : Int) < (v : Int)) = True := eq_true (by omega)
     have q3 : (most < v) = True := eq_true hmv
     have HI2 := Lib.hid (show countR most st = none by rw [HI.out]; simp only [Option.bind_some, if_pos hmv])
     clear hmv hn
     go_enter Tryz.func83, Tryz.ntmps83
     go_wp2_with (first
       | (go_at_call 103; (with_reducible refine (HN.out _).mono ?_); rintro e w2 ⟨S2, e2, rfl, ha, hB⟩
          obtain ⟨_, rfl, _⟩ := ha
          have HK2 := Lib.hid ((HK.out.keep hB).keep (below1 _ (.cells #[.string S2, .int .i64 0] 128)))
          obtain ⟨q0, q1, z0, z1⟩ := HK2.out.ans
          obtain ⟨p0, p1⟩ := HK2.out.arg
          unfold rdV
          clear hB)
       | fail)
     exact bodyPost_ret (v := .tuple #[rdV S 11, .int .i64 0]) (by simp [results, Tryz.results83, go_sem, rdV, q0, q1]) rfl ⟨S, 11, by rw [HI2.out], by rw [HI2.out]; exact DocR.bad HS.out (by decide), HK2.out.done _ _⟩
   · have q2 : ((most : Int) < (v : Int)) = False := eq_false (by omega)
     have q3 : (most < v) = False := eq_false hmv
     have q4 : IntKind.i64.wrap (v : Int) = (v : Int) := IntWalk.i64_in _ (by omega)
     have HI2 := Lib.hid (show countR most st = some (v, l') by rw [HI.out]; simp only [Option.bind_some, if_neg hmv])
     clear hmv hn
     go_enter Tryz.func83, Tryz.ntmps83
     go_wp2_with (first
       | (go_at_call 103; (with_reducible refine (HN.out _).mono ?_); rintro e w2 ⟨S2, e2, rfl, ha, hB⟩
          have HA := Lib.hid ha
          obtain ⟨_, rfl, _⟩ := ha
          have HK2 := Lib.hid ((HK.out.keep hB).keep (below1 _ (.cells #[.string S2, .int .i64 0] 128)))
          obtain ⟨q0, q1, z0, z1⟩ := HK2.out.ans
          obtain ⟨p0, p1⟩ := HK2.out.arg
          unfold rdV
          clear hB)
       | fail)
     exact bodyPost_ret (v := .tuple #[rdV S2 0, .int .i64 (v : Int)]) (by simp [results, Tryz.results83, go_sem, rdV, q0, q1]) rfl ⟨S2, 0, by rw [HI2.out], by rw [HI2.out]; exact HA.out, HK2.out.done _ _⟩
theorem rtake_bool (S : ByteArray) (e : Int) (st : Rd) (w : World) (h : DocR S e st) : Calls Tryz.prog 85 #[rdV S e] w (DocRP (boolR st) (fun v => .bool v) (.bool false) w) := by
 unfold rdV
 cases st with
 | none =>
   have r1 : (e != 0) = true := bne_iff_ne.2 h.2
   have HH := Lib.hid h
   clear h
   go_enter Tryz.func85, Tryz.ntmps85
   go_wp2_with fail
   exact bodyPost_ret (v := .tuple #[rdV S e, .bool false]) (by simp [results, Tryz.results85, go_sem, rdV]) rfl ⟨S, e, rfl, HH.out, by go_grown⟩
 | some l =>
   obtain ⟨hS, rfl, rfl⟩ := h
   by_cases h0 : S.size = 0
   · obtain rfl : S = ⟨#[]⟩ := by
       cases S with
       | mk d => congr; exact Array.eq_empty_of_size_eq_zero h0
     go_enter Tryz.func85, Tryz.ntmps85
     go_wp2_with fail
     exact bodyPost_ret (v := .tuple #[rdV ⟨#[]⟩ 10, .bool false]) (by simp [results, Tryz.results85, go_sem, rdV]) rfl ⟨⟨#[]⟩, 10, rfl, DocR.bad hS (by decide), by go_grown⟩
   · have hlt : 0 < S.size := by omega
     have HD := Lib.hid (drop_byte S 0 hlt)
     obtain ⟨c, hc⟩ : ∃ c, c = S[0] := ⟨_, rfl⟩
     obtain ⟨z, hz⟩ : ∃ z : Int, z = (c.toNat : Int) := ⟨_, rfl⟩
     have hkz : ((S[0].toNat : Nat) : Int) = z := by rw [hz, hc]
     rw [← hc] at HD
     have hl : S.toList ≠ [] := by
       intro h
       rw [ByteArray.toList_eq] at h
       have h2 : S.size = 0 := by
         show S.data.size = 0
         rw [← Array.length_toList, h]
         rfl
       omega
     have hne1 : (S.toList = []) = False := eq_false hl
     have hne2 : S.toList.isEmpty = false := by rw [List.isEmpty_eq_false_iff]; exact hl
     obtain ⟨T, hT⟩ : ∃ T, T = S.extract 1 S.size := ⟨_, rfl⟩
     have hsl : ∀ W, (Instr.slice 9 (.string S) (some (.int .i64 1)) none none).run Tryz.prog W = .ok (.string T) W := fun W => by rw [hT]; exact slice_end S _ 1 rfl (by omega) W
     have HT := Lib.hid (show DocR T 0 (some (S.data.toList.drop 1)) by rw [hT]; exact drop_doc S _ hS)
     have hix : ∀ W, (Instr.index 9 (.string S) (.int .i64 0)).run Tryz.prog W = .ok (.int .u8 z) W := fun W => by
       rw [run_index_string (P := Tryz.prog) W 9 S .i64 0 Tryz.underlying9, dif_pos ⟨by omega, by omega⟩]
       exact congrArg (fun x => Result.ok (Value.int .u8 x) W) hkz
     have hz0 : 0 ≤ z ∧ z ≤ 255 := by have := c.toNat_lt; omega
     have HB := Lib.hid (show boolR (some S.data.toList) = if 1 < c.toNat then none else some (c.toNat == 1, S.data.toList.drop 1) by rw [show S.data.toList = c :: S.data.toList.drop 1 from HD.out]; rfl)
     clear hc hT hl
     by_cases hbig : 1 < c.toNat
     · have q1 : (1 < z) = True := eq_true (by omega)
       have HI2 := Lib.hid (show boolR (some S.data.toList) = none by rw [HB.out, if_pos hbig])
       clear hz hbig
       go_enter Tryz.func85, Tryz.ntmps85
       go_wp2_with fail
       exact bodyPost_ret (v := .tuple #[rdV S 7, .bool false]) (by simp [results, Tryz.results85, go_sem, rdV]) rfl ⟨S, 7, by rw [HI2.out], by rw [HI2.out]; exact DocR.bad hS (by decide), by go_grown⟩
     · have q1 : (1 < z) = False := eq_false (by omega)
       have q2 : (z == 1) = (c.toNat == 1) := by
         by_cases h : c.toNat = 1
         · rw [beq_iff_eq.2 h, beq_iff_eq.2 (by omega)]
         · rw [beq_eq_false_iff_ne.2 h, beq_eq_false_iff_ne.2 (by omega)]
       have HI2 := Lib.hid (show boolR (some S.data.toList) = some (c.toNat == 1, S.data.toList.drop 1) by rw [HB.out, if_neg hbig])
       generalize (c.toNat == 1) = bb at q2 HI2
       clear hz hbig
       go_enter Tryz.func85, Tryz.ntmps85
       go_wp2_with fail
       go_region
       go_wp2_with fail
       exact bodyPost_ret (v := .tuple #[rdV T 0, .bool bb]) (by simp [results, Tryz.results85, go_sem, rdV]) rfl ⟨T, 0, by rw [HI2.out], by rw [HI2.out]; exact HT.out, by go_grown⟩
set_option maxHeartbeats 1000000 in
theorem rtake_text (most : Nat) (hmost : most ≤ 1000000) (S : ByteArray) (e : Int) (st : Rd) (w : World) (h : DocR S e st) : Calls Tryz.prog 84 #[rdV S e, .int .i64 most] w (DocRP (textR most st) (fun l => .string ⟨l.toArray⟩) (.string ⟨#[]⟩) w) := by
 have HN := Lib.hid (show ∀ W, Calls Tryz.prog 83 #[.agg #[.string S, .int .i64 e], .int .i64 most] W (DocRP (countR most st) (fun v => .int .i64 (v : Nat)) (.int .i64 0) W) from fun W => rcount most hmost S e st W h)
 have HI := Lib.hid (show textR most st = (countR most st).bind fun p => if p.2.length < p.1 then none else some (p.2.take p.1, p.2.drop p.1) from rfl)
 have HK := Lib.hid (TwoB.start w S e)
 have HS := Lib.hid h.1
 unfold rdV
 clear h
 cases hn : countR most st with
 | none =>
   rw [hn] at HN HI
   go_enter Tryz.func84, Tryz.ntmps84
   go_wp2_with (first
     | (go_at_call 83; (with_reducible refine (HN.out _).mono ?_); rintro e w2 ⟨S2, e2, rfl, ha, hB⟩
        have HA := Lib.hid ha
        have HK2 := Lib.hid ((HK.out.keep hB).keep (below1 _ (.cells #[.string S2, .int .i64 e2] 128)))
        obtain ⟨q0, q1, z0, z1⟩ := HK2.out.ans
        have r1 : (e2 != 0) = true := bne_iff_ne.2 ha.2
        unfold rdV
        clear hB ha)
     | fail)
   exact bodyPost_ret (v := .tuple #[rdV S2 e2, .string ⟨#[]⟩]) (by simp [results, Tryz.results84, go_sem, rdV, q0, q1]) rfl ⟨S2, e2, by rw [HI.out]; rfl, by rw [HI.out]; exact HA.out, HK2.out.done _ _⟩
 | some p =>
   obtain ⟨v, l'⟩ := p
   rw [hn] at HN HI
   by_cases hvl : l'.length < v
   · have HI2 := Lib.hid (show textR most st = none by rw [HI.out]; simp only [Option.bind_some, if_pos hvl])
     have HVL := Lib.hid hvl
     clear hvl hn
     go_enter Tryz.func84, Tryz.ntmps84
     go_wp2_with (first
       | (go_at_call 83; (with_reducible refine (HN.out _).mono ?_); rintro e w2 ⟨S2, e2, rfl, ha, hB⟩
          obtain ⟨rfl, _, hs2⟩ := (show DocR S2 e2 (some l') from ha).some
          have q2 : ((S2.size : Int) < (v : Int)) = True := eq_true (by have := HVL.out; omega)
          have q3 : (S2.size < v) = True := eq_true (by have := HVL.out; omega)
          have HK2 := Lib.hid ((HK.out.keep hB).keep (below1 _ (.cells #[.string S2, .int .i64 0] 128)))
          obtain ⟨q0, q1, z0, z1⟩ := HK2.out.ans
          obtain ⟨p0, p1⟩ := HK2.out.arg
          unfold rdV
          clear hB ha hs2)
       | fail)
     exact bodyPost_ret (v := .tuple #[rdV S 10, .string ⟨#[]⟩]) (by simp [results, Tryz.results84, go_sem, rdV, q0, q1]) rfl ⟨S, 10, by rw [HI2.out], by rw [HI2.out]; exact DocR.bad HS.out (by decide), HK2.out.done _ _⟩
   · have HI2 := Lib.hid (show textR most st = some (l'.take v, l'.drop v) by rw [HI.out]; simp only [Option.bind_some, if_neg hvl])
     have HVL := Lib.hid (show v ≤ l'.length from by omega)
     clear hvl hn
     go_enter Tryz.func84, Tryz.ntmps84
     go_wp2_with (first
       | (go_at_call 83; (with_reducible refine (HN.out _).mono ?_); rintro e w2 ⟨S2, e2, rfl, ha, hB⟩
          obtain ⟨rfl, hd2, hs2⟩ := (show DocR S2 e2 (some l') from ha).some
          have hvs : v ≤ S2.size := by have := HVL.out; omega
          have q2 : ((S2.size : Int) < (v : Int)) = False := eq_false (by omega)
          have q3 : (S2.size < v) = False := eq_false (by omega)
          have HK2 := Lib.hid ((HK.out.keep hB).keep (below1 _ (.cells #[.string S2, .int .i64 0] 128)))
          obtain ⟨q0, q1, z0, z1⟩ := HK2.out.ans
          have hzz : w.heap.size + 1 < w2.heap.size := by have := hB.size; simp at this; omega
          have HK3 := Lib.hid (HK.out.keep hB)
          obtain ⟨q0', q1', z0', z1'⟩ := HK3.out.ans
          obtain ⟨T, hT⟩ : ∃ T, T = S2.extract v S2.size := ⟨_, rfl⟩
          obtain ⟨U, hU⟩ : ∃ U, U = S2.extract 0 v := ⟨_, rfl⟩
          have hsl : ∀ W, (Instr.slice 9 (.string S2) (some (.int .i64 (v : Int))) none none).run Tryz.prog W = .ok (.string T) W := fun W => by rw [hT]; exact slice_end S2 _ v rfl hvs W
          have hsb : ∀ W, (Instr.slice 9 (.string S2) none (some (.int .i64 (v : Int))) none).run Tryz.prog W = .ok (.string U) W := fun W => by rw [hU]; exact slice_beg S2 _ v rfl hvs W
          have HT := Lib.hid (show DocR T 0 (some (l'.drop v)) by rw [hT, ← hd2]; exact drop_doc S2 _ ha.1)
          have HU := Lib.hid (show U = ⟨(l'.take v).toArray⟩ by
            rw [hU, ← hd2]
            exact take_bytes S2 v)
          unfold rdV
          clear hB ha hs2 hd2 hT hU hvs)
       | fail)
     go_region
     go_wp2_with fail
     obtain ⟨e0, e1, hBB⟩ := HK3.out.res (.string T) (.int .i64 0) (.cells #[.string S2, .int .i64 0] 128)
     exact bodyPost_ret (v := .tuple #[rdV T 0, .string U]) (by simp [results, Tryz.results84, go_sem, rdV, e0, e1]) rfl ⟨T, 0, by rw [HI2.out, HU.out], by rw [HI2.out]; exact HT.out, hBB⟩
theorem rend (S : ByteArray) (e : Int) (st : Rd) (w : World) (h : DocR S e st) : Calls Tryz.prog 87 #[rdV S e] w fun en w' => ∃ er : Int, en = .returned (rdV S er) ∧ (er = 0 ↔ endR st = true) ∧ Below w.heap.size w w' := by
 unfold rdV
 cases st with
 | none =>
   have r1 : (e == 0) = false := beq_eq_false_iff_ne.2 h.2
   have r2 : (e = 0) = False := eq_false h.2
   have HH := Lib.hid h.2
   clear h
   go_enter Tryz.func87, Tryz.ntmps87
   go_wp2_with fail
   exact bodyPost_ret (v := rdV S e) (by simp [results, Tryz.results87, go_sem, rdV]) rfl ⟨e, rfl, ⟨fun h => absurd h HH.out, fun h => by cases h⟩, by go_grown⟩
 | some l =>
   obtain ⟨hS, rfl, rfl⟩ := h
   by_cases h0 : S.size = 0
   · obtain rfl : S = ⟨#[]⟩ := by
       cases S with
       | mk d => congr; exact Array.eq_empty_of_size_eq_zero h0
     go_enter Tryz.func87, Tryz.ntmps87
     go_wp2_with fail
     exact bodyPost_ret (v := rdV ⟨#[]⟩ 0) (by simp [results, Tryz.results87, go_sem, rdV]) rfl ⟨0, rfl, ⟨fun _ => rfl, fun _ => rfl⟩, by go_grown⟩
   · have hl : S.toList ≠ [] := by
       intro h
       rw [ByteArray.toList_eq] at h
       have h2 : S.size = 0 := by
         show S.data.size = 0
         rw [← Array.length_toList, h]
         rfl
       omega
     have hne1 : (S.toList = []) = False := eq_false hl
     have hne2 : S.toList.isEmpty = false := by rw [List.isEmpty_eq_false_iff]; exact hl
     have HE := Lib.hid (show endR (some S.data.toList) = false by
       rw [← ByteArray.toList_eq]
       cases hc : S.toList with
       | nil => exact absurd hc hl
       | cons c l => rfl)
     clear hl
     go_enter Tryz.func87, Tryz.ntmps87
     go_wp2_with fail
     exact bodyPost_ret (v := rdV S 12) (by simp [results, Tryz.results87, go_sem, rdV]) rfl ⟨12, rfl, ⟨fun h => absurd h (by decide), fun h => by rw [HE.out] at h; cases h⟩, by go_grown⟩
end Go.Proofs.YtcgpflkaejbkhaaGreatDoor
