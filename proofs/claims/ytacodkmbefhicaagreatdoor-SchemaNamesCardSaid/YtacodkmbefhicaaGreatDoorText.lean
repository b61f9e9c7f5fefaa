/- The walk of text. -/
import Derived.Test.YtacodkmbefhicaaGreatDoorSign
import Derived.Test.YtacodkmbefhicaaGreatDoorBuilder
namespace Go.Proofs.YtacodkmbefhicaaGreatDoor
open Go.RowKit

/-- a builder that holds some bytes, seen from a base world -/
def BuilL (b n : Nat) (w1 W : World) : Prop := ∃ l : List UInt8, l.length ≤ n ∧ Lib.IsBuilderF 86 5 b b (Lib.byteCells l) W ∧ Below b w1 W
theorem BuilL.write {b n : Nat} {w1 W : World} (h : BuilL b n w1 W) (hn : n ≤ 200) (hb : b ≤ w1.heap.size) (c : UInt8) : Calls Tryz.prog 49 #[.pointer (some ⟨b, 0, none⟩), .int .u8 (c.toNat : Int)] W fun e w' => e = .returned .nilIface ∧ BuilL b (n + 1) w1 w' := by
  obtain ⟨l, h1, h2, h3⟩ := h
  refine (write_byte b b (Lib.byteCells l) (c.toNat : Int) W h2 (by rw [Lib.byteCells_length]; omega) (by have := h3.size; omega)).mono ?_
  rintro e w' ⟨rfl, h4, h5⟩
  refine ⟨rfl, l ++ [c], by rw [List.length_append]; simp; omega, Or.inr ?_, h3.trans h5⟩
  rw [show Lib.byteCells (l ++ [c]) = Lib.byteCells l ++ [.int .u8 (c.toNat : Int)] by simp [Lib.byteCells]]
  exact h4
theorem BuilL.text {b n : Nat} {w1 W : World} (h : BuilL b n w1 W) (hb : b ≤ w1.heap.size) : ∃ S : ByteArray, Calls Tryz.prog 48 #[.pointer (some ⟨b, 0, none⟩)] W fun e w' => e = .returned (.string S) ∧ Below b w1 w' := by
  obtain ⟨l, h1, h2, h3⟩ := h
  refine ⟨⟨l.toArray⟩, (Tryz.Builder_String_any_k b b l W h2 (by have := h3.size; omega)).mono ?_⟩
  rintro e w' ⟨rfl, _, h5, _⟩
  exact ⟨rfl, h3.trans h5⟩
theorem BuilL.start (w1 : World) : BuilL w1.heap.size 0 w1 (w1.alloc (.cells #[.pointer none, .slice none 0 0] 86)) :=
  ⟨[], Nat.le_refl _, Or.inl ⟨Nat.le_refl _, .slice none 0 0, heap_alloc_new w1 _, ⟨by simp [Lib.byteCells], Or.inl ⟨rfl, rfl⟩⟩, by simp [Value.ownBlock]⟩, (Below.refl _ _).alloc (Nat.le_refl _) _⟩
theorem BuilL.le {b n m : Nat} {w1 W : World} (h : BuilL b n w1 W) (hm : n ≤ m) : BuilL b m w1 W := by
  obtain ⟨l, h1, h2, h3⟩ := h
  exact ⟨l, Nat.le_trans h1 hm, h2, h3⟩
theorem cells_of {W : World} {g : Nat} (h : W.heap[g]? = some (.cells #[.int .i64 0, .string ⟨#[]⟩, .int .i64 0] 41)) : W.cell? ⟨g, 0, none⟩ = some (.int .i64 0) ∧ W.cell? ⟨g, 1, none⟩ = some (.string ⟨#[]⟩) ∧ W.cell? ⟨g, 2, none⟩ = some (.int .i64 0) ∧ W.frozen? ⟨g, 0, none⟩ = false ∧ W.frozen? ⟨g, 1, none⟩ = false ∧ W.frozen? ⟨g, 2, none⟩ = false :=
  ⟨cell_of_row _ _ 0 _ _ _ h, cell_of_row _ _ 1 _ _ _ h, cell_of_row _ _ 2 _ _ _ h, frozen_of_row _ _ 0 _ _ h, frozen_of_row _ _ 1 _ _ h, frozen_of_row _ _ 2 _ _ h⟩
theorem tok_kept {w W : World} (hB : Below (w.heap.size + 1) (w.alloc (.cells #[.int .i64 0, .string ⟨#[]⟩, .int .i64 0] 41)) W) : W.heap[w.heap.size]? = some (.cells #[.int .i64 0, .string ⟨#[]⟩, .int .i64 0] 41) ∧ Below w.heap.size w W :=
  ⟨(hB.block w.heap.size (by omega)).trans (heap_alloc_new w _), (below1 w _).trans (hB.mono (by omega))⟩
set_option maxRecDepth 100000 in
set_option maxHeartbeats 8000000 in
theorem text_any (s : ByteArray) (w : World) (h0 : 0 < s.size) (hs : s.size ≤ 12) : Calls Tryz.prog 35 #[.string s] w (OtherP s w) := by
  have HST := Lib.hid (show BuilL (w.heap.size + 1) 1 (w.alloc (.cells #[.int .i64 0, .string ⟨#[]⟩, .int .i64 0] 41)) ((w.alloc (.cells #[.int .i64 0, .string ⟨#[]⟩, .int .i64 0] 41)).alloc (.cells #[.pointer none, .slice none 0 0] 86)) from by
    have h := BuilL.start (w.alloc (.cells #[.int .i64 0, .string ⟨#[]⟩, .int .i64 0] 41))
    rw [World.size_alloc] at h
    exact h.le (Nat.zero_le _))
  have HS := Lib.hid hs
  have H0 := Lib.hid h0
  go_enter Tryz.func35, Tryz.ntmps35
  go_wp2_with fail
  go_loopw [6] (fun i wr => ∃ k : Nat, 1 ≤ k ∧ k ≤ s.size ∧ i = .int .i64 k ∧ Hid (BuilL (w.heap.size + 1) k (w.alloc (.cells #[.int .i64 0, .string ⟨#[]⟩, .int .i64 0] 41)) wr)) (fun i _ => s.size + 1 - (intOf i).toNat)
  case atStart => exact ⟨1, Nat.le_refl _, H0.out, rfl, HST⟩
  case round =>
    obtain ⟨k, hk1, hk, rfl, HB⟩ := hrel
    obtain ⟨wo, rfl⟩ : ∃ wo : World, wo = wr := ⟨_, rfl⟩
    by_cases hlt : k < s.size
    · obtain ⟨c, hc⟩ : ∃ c, c = s[k] := ⟨_, rfl⟩
      have hkc : s[k] = c := hc.symm
      have hc255 : (c.toNat : Int) ≤ 255 := by have := c.toNat_lt; omega
      have hc0 : (0 : Int) ≤ (c.toNat : Int) := by omega
      clear hc
      by_cases h39 : c = 39
      · subst h39
        have hcn : (((39 : UInt8).toNat : Nat) : Int) = 39 := rfl
        by_cases hend : k + 1 = s.size
        · obtain ⟨S, hS⟩ := HB.out.text (by simp)
          have HT := Lib.hid hS
          clear hS
          have hq : ((k : Int) + 1 == (s.size : Int)) = true := by rw [beq_iff_eq]; omega
          go_wp2_with (first
            | (go_at_call 48; (with_reducible refine HT.out.mono ?_); rintro e w4 ⟨rfl, hB4⟩; have HK4 := Lib.hid (tok_kept hB4); obtain ⟨r0, r1, r2, g0, g1, g2⟩ := cells_of HK4.out.1; clear hB4)
            | fail)
          refine bodyPost_ret (v := nextV 5 S (k + 1 : Nat) 0) (by simp [results, Tryz.results35, go_sem, r0, r1, r2, nextV, tokV]) rfl ⟨5, 0, S, k + 1, rfl, ?_, fun _ => ⟨by decide, by decide, by omega, by omega⟩⟩
          exact ((HK4.out.2.setCell (p := ⟨w.heap.size, 0, none⟩) (Nat.le_refl _) _).setCell (p := ⟨w.heap.size, 1, none⟩) (Nat.le_refl _) _).setCell (p := ⟨w.heap.size, 2, none⟩) (Nat.le_refl _) _
        · have hlt1 : k + 1 < s.size := by omega
          have hq : ((k : Int) + 1 == (s.size : Int)) = false := by rw [beq_eq_false_iff_ne]; omega
          obtain ⟨d, hd⟩ : ∃ d, d = s[k + 1] := ⟨_, rfl⟩
          have hkd : s[k + 1] = d := hd.symm
          have hd255 : (d.toNat : Int) ≤ 255 := by have := d.toNat_lt; omega
          have hd0 : (0 : Int) ≤ (d.toNat : Int) := by omega
          clear hd hend
          by_cases hd39 : d = 39
          · subst hd39
            have HW := Lib.hid (show Calls Tryz.prog 49 #[.pointer (some ⟨w.heap.size + 1, 0, none⟩), .int .u8 39] wo _ from HB.out.write (by have := HS.out; omega) (by simp) 39)
            go_wp2_with (first
              | (go_at_call 49; (with_reducible refine HW.out.mono ?_); rintro e w4 ⟨rfl, hB4⟩; have HB4 := Lib.hid (hB4.le (Nat.le_succ _)); clear hB4)
              | fail)
            go_roundw
            case rel => exact ⟨k + 2, by omega, by omega, by go_num, HB4⟩
            case measure => simp [intOf] <;> omega
          · have hdn : ((d.toNat : Int) == 39) = false := by
              rw [beq_eq_false_iff_ne]
              intro h
              exact hd39 (UInt8.toNat_inj.1 (by simp; omega))
            obtain ⟨S, hS⟩ := HB.out.text (by simp)
            have HT := Lib.hid hS
            clear hS hd39
            go_wp2_with (first
              | (go_at_call 48; (with_reducible refine HT.out.mono ?_); rintro e w4 ⟨rfl, hB4⟩; have HK4 := Lib.hid (tok_kept hB4); obtain ⟨r0, r1, r2, g0, g1, g2⟩ := cells_of HK4.out.1; clear hB4)
              | fail)
            refine bodyPost_ret (v := nextV 5 S (k + 1 : Nat) 0) (by simp [results, Tryz.results35, go_sem, r0, r1, r2, nextV, tokV]) rfl ⟨5, 0, S, k + 1, rfl, ?_, fun _ => ⟨by decide, by decide, by omega, by omega⟩⟩
            exact ((HK4.out.2.setCell (p := ⟨w.heap.size, 0, none⟩) (Nat.le_refl _) _).setCell (p := ⟨w.heap.size, 1, none⟩) (Nat.le_refl _) _).setCell (p := ⟨w.heap.size, 2, none⟩) (Nat.le_refl _) _
      · have hcn : ((c.toNat : Int) == 39) = false := by
          rw [beq_eq_false_iff_ne]
          intro h
          exact h39 (UInt8.toNat_inj.1 (by simp; omega))
        have HW := Lib.hid (HB.out.write (by have := HS.out; omega) (by simp) c)
        clear h39
        go_wp2_with (first
          | (go_at_call 49; (with_reducible refine HW.out.mono ?_); rintro e w4 ⟨rfl, hB4⟩; have HB4 := Lib.hid hB4; clear hB4)
          | fail)
        go_roundw
        case rel => exact ⟨k + 1, by omega, by omega, by go_num, HB4⟩
        case measure => simp [intOf] <;> omega
    · have HK4 := Lib.hid (show wo.heap[w.heap.size]? = some (.cells #[.int .i64 0, .string ⟨#[]⟩, .int .i64 0] 41) ∧ Below w.heap.size w wo from by
        obtain ⟨l, _, _, h3⟩ := HB.out
        exact tok_kept h3)
      obtain ⟨r0, r1, r2, g0, g1, g2⟩ := cells_of HK4.out.1
      go_wp2_with fail
      refine bodyPost_ret (v := nextV 0 ⟨#[]⟩ 0 10) (by simp [results, Tryz.results35, go_sem, r0, r1, r2, nextV, tokV]) rfl ⟨0, 10, ⟨#[]⟩, 0, rfl, ?_, fun h => absurd h (by decide)⟩
      exact ((HK4.out.2.setCell (p := ⟨w.heap.size, 0, none⟩) (Nat.le_refl _) _).setCell (p := ⟨w.heap.size, 1, none⟩) (Nat.le_refl _) _).setCell (p := ⟨w.heap.size, 2, none⟩) (Nat.le_refl _) _
end Go.Proofs.YtacodkmbefhicaaGreatDoor
