/- The walk of next at a digit. The walks of strings.Builder's copyCheck and WriteByte. The walk of text. Which texts are names: plain. The walk of next at any short text. -/
import Derived.Test.YtcgpflkaejbkhaaGreatDoorJF
import Derived.Test.YtcgpflkaejbkhaaGreatDoorJC
import Derived.Test.YtcgpflkaejbkhaaGreatDoorJA
import Derived.Test.YtcgpflkaejbkhaaGreatDoorJD
namespace Go.Proofs.YtcgpflkaejbkhaaGreatDoor
open Go.RowKit

set_option maxRecDepth 100000 in
set_option maxHeartbeats 8000000 in
theorem next_digit (m : Int) (t : Nat → Nat) (ht : ∀ j, j < 23 → finD (Ieee.double.read (t j)) = true) (s : ByteArray) (w : World) (hG : Glob m t w) (h0 : 0 < s.size) (hs : s.size ≤ 12) (hl : letP (s[0].toNat : Int) = false) (hd : digP (s[0].toNat : Int) = true) : Calls Tryz.prog 96 #[.string s] w (OtherP s w) := by
  have HNU := Lib.hid (show ∀ W, Glob m t W → Calls Tryz.prog 111 #[.string s] W (OtherP s W) from fun W g => number_any m t ht s W g h0 hs hd)
  have HG := Lib.hid hG
  obtain ⟨c, hc⟩ : ∃ c, c = s[0] := ⟨_, rfl⟩
  have hkc : s[0] = c := hc.symm
  rw [hkc] at hl hd
  have hc255 : (c.toNat : Int) ≤ 255 := by have := c.toNat_lt; omega
  have hc0 : (0 : Int) ≤ (c.toNat : Int) := by omega
  have hne := text_ne h0
  have HLE := Lib.hid (fun W => hl ▸ letter_any (c.toNat : Int) W)
  have HDI := Lib.hid (fun W => hd ▸ digit_any (c.toNat : Int) W)
  clear hl hd hc hG ht
  go_enter Tryz.func96, Tryz.ntmps96
  go_wp2_with (first
    | (go_at_call 107; (with_reducible refine (HLE.out _).mono ?_); rintro e w5 ⟨rfl, rfl⟩)
    | (go_at_call 109; (with_reducible refine (HDI.out _).mono ?_); rintro e w6 ⟨rfl, rfl⟩)
    | (go_at_call 111; (with_reducible refine (HNU.out _ (HG.out.keep (below1 w _))).mono ?_); rintro e w4 ⟨k, er, S, n, rfl, hB4, hP⟩; have HP := Lib.hid hP; have HK4 := Lib.hid (num_kept hB4); obtain ⟨r0, r1, r2, g0, g1, g2⟩ := num_cells HK4.out; clear hB4 hP; unfold nextV tokV)
    | fail)
  refine bodyPost_ret (v := nextV k S n er) (by simp [results, Tryz.results96, go_sem, r0, r1, r2, nextV, tokV]) rfl ⟨k, er, S, n, rfl, ?_, HP.out⟩
  exact ((HK4.out.2.setCell (p := ⟨w.heap.size, 0, none⟩) (Nat.le_refl _) _).setCell (p := ⟨w.heap.size, 1, none⟩) (Nat.le_refl _) _).setCell (p := ⟨w.heap.size, 2, none⟩) (Nat.le_refl _) _
end Go.Proofs.YtcgpflkaejbkhaaGreatDoor
namespace Go.Proofs.YtcgpflkaejbkhaaGreatDoor
open Go.RowKit

theorem builder_info : (Tryz.prog.info? 176).map (·.size) = some 2 := by kernel_rfl
theorem builder_lies : liesAt Tryz.prog Tryz.prog.depth 176 (2 / Tryz.prog.cellsOf 176) 0 176 1 = true := by kernel_rfl
theorem byte_info : (Tryz.prog.info? 5).map (fun i => (i.zero, i.size, i.bytes)) = some (some (.int .u8 0), 1, 1) := by kernel_rfl
theorem info_parts {P : Program} {e : TypeId} {z : Value} {s b : Nat} (h : (P.info? e).map (fun i => (i.zero, i.size, i.bytes)) = some (some z, s, b)) : ∃ i, P.info? e = some i ∧ i.zero = some z ∧ i.size = s ∧ i.bytes = b := by
  cases hi : P.info? e with
  | none => rw [hi] at h; cases h
  | some i =>
    rw [hi] at h
    simp only [Option.map_some, Option.some.injEq, Prod.mk.injEq] at h
    exact ⟨i, rfl, h.1, h.2.1, h.2.2⟩
set_option maxHeartbeats 1000000 in
set_option maxRecDepth 100000 in
theorem check_used (b : Nat) (w : World) (h0 : w.cell? ⟨b, 0, none⟩ = some (.pointer (some ⟨b, 0, none⟩))) :
    Calls Tryz.prog 137 #[.pointer (some ⟨b, 0, none⟩)] w fun e w' => e = .returned (.tuple #[]) ∧ w' = w := by
  obtain ⟨j, hj, _⟩ := Option.map_eq_some_iff.1 builder_info
  go_enter Tryz.func137, Tryz.ntmps137
  go_wp2
  rw [Lib.run_neq_ptr_same w _ Tryz.underlying174 hj]
  go_wp2
  go_end0
  exact ⟨rfl, rfl⟩
set_option maxHeartbeats 1000000 in
set_option maxRecDepth 100000 in
theorem check_fresh (b : Nat) (w : World) (h0 : w.cell? ⟨b, 0, none⟩ = some (.pointer none)) (hsh : w.shape? b = some (176, 2)) (hfz : w.frozen? ⟨b, 0, none⟩ = false) :
    Calls Tryz.prog 137 #[.pointer (some ⟨b, 0, none⟩)] w fun e w' => e = .returned (.tuple #[]) ∧ w' = w.setCell ⟨b, 0, none⟩ (.pointer (some ⟨b, 0, none⟩)) := by
  obtain ⟨j, hj, hjs⟩ := Option.map_eq_some_iff.1 builder_info
  go_enter Tryz.func137, Tryz.ntmps137
  go_wp2
  rw [Lib.run_to_unsafe w ⟨b, 0, none⟩ Tryz.underlying174 Tryz.underlying189 hj (by rw [hjs]; decide) hsh (Nat.zero_lt_succ 1)]
  simp only [Result.andThen]
  rw [Oper.upon_value]
  go_wp2
  rw [run_callFunc_extern Tryz.func146 (by kernel_rfl) (by kernel_rfl) (by kernel_rfl) (e := Extern.AbiNoEscape.same) (by kernel_rfl)]
  rw [Lib.run_noEscape]
  simp only [Result.andThen]
  rw [Oper.upon_value]
  go_wp2
  rw [Lib.run_from_unsafe w ⟨b, 0, none⟩ Tryz.underlying189 Tryz.underlying174 hj hsh builder_lies]
  simp only [Result.andThen]
  rw [Oper.upon_value]
  go_wp2
  go_end0
  exact ⟨rfl, rfl⟩
theorem check_any (B b : Nat) (bs : List Value) (w : World) (h : Lib.IsBuilderF 176 5 B b bs w) :
    Calls Tryz.prog 137 #[.pointer (some ⟨b, 0, none⟩)] w fun e w' => e = .returned (.tuple #[]) ∧ (Lib.BuilderAtF 176 5 B b (.pointer (some ⟨b, 0, none⟩)) bs w' ∧ Below B w w') := by
  rcases h with h | h
  · refine (check_fresh b w h.cell0 h.shape h.frozen0).mono ?_
    rintro e w' ⟨rfl, rfl⟩
    exact ⟨rfl, h.used _, (Below.refl B w).setCell (p := ⟨b, 0, none⟩) h.1 _⟩
  · refine (check_used b w h.cell0).mono ?_
    rintro e w' ⟨rfl, rfl⟩
    exact ⟨rfl, h, Below.refl B _⟩
set_option maxHeartbeats 2000000 in
set_option maxRecDepth 100000 in
theorem write_byte (B b : Nat) (bs : List Value) (c : Int) (w : World) (h : Lib.IsBuilderF 176 5 B b bs w) (hlen : bs.length + 1 ≤ 140737488355328) (hBw : B ≤ w.heap.size) :
    Calls Tryz.prog 126 #[.pointer (some ⟨b, 0, none⟩), .int .u8 c] w fun e w' => e = .returned .nilIface ∧ (Lib.BuilderAtF 176 5 B b (.pointer (some ⟨b, 0, none⟩)) (bs ++ [.int .u8 c]) w' ∧ Below B w w') := by
  obtain ⟨i0, hi, hz0, hz1, hz2⟩ := info_parts byte_info
  go_enter Tryz.func126, Tryz.ntmps126
  go_wp2_with (go_at_call 137; refine (check_any B b bs _ h).mono ?_)
  rintro e w1 ⟨rfl, h1, hb1⟩
  obtain ⟨hB, v, hbk, hown, hne⟩ := h1
  have c0 : w1.cell? ⟨b, 0, none⟩ = some (.pointer (some ⟨b, 0, none⟩)) := by rw [Lib.cell_of_heap hbk]; rfl
  have c1 : w1.cell? ⟨b, 1, none⟩ = some v := by rw [Lib.cell_of_heap hbk]; rfl
  go_wp2_with (at_builtin; refine wpList_append_ownF _ rfl _ _ 55 rfl B 5 i0 (.int .u8 0) 1 1 Tryz.underlying55 hi hz0 hz1 hz2 rfl (by decide) _ _ _ rfl (hown.alloc _) ⟨w1.heap.size, 0, none⟩ 1 1 [.int .u8 c] rfl rfl ?c1 ?c2 ?c3 ?c4 ?c5 ?_)
  case c1 =>
    intro j u hj
    match j, hj with
    | 0, hj => simp at hj; subst hj; simp [Addr.add]
  case c2 => intro u hu; simp at hu; subst hu; rfl
  case c3 => unfold maxLen; omega
  case c4 => omega
  case c5 => have := hb1.size; simp; omega
  intro v' w2 hown' hgrow _
  have hlt : b < w1.heap.size := by
    rcases Nat.lt_or_ge b w1.heap.size with h' | h'
    · exact h'
    · simp [Array.getElem?_eq_none h'] at hbk
  have hb2 : w2.heap[b]? = some (.cells #[.pointer (some ⟨b, 0, none⟩), v] 176 (0, 0)) := by
    rw [hgrow.block b (by simp; omega) (fun e => hne e.symm), Lib.alloc_old w1 _ b hlt]
    exact hbk
  have d0 : w2.cell? ⟨b, 0, none⟩ = some (.pointer (some ⟨b, 0, none⟩)) := by rw [Lib.cell_of_heap hb2]; rfl
  have d1 : w2.cell? ⟨b, 1, none⟩ = some v := by rw [Lib.cell_of_heap hb2]; rfl
  have f1 : w2.frozen? ⟨b, 1, none⟩ = false := Lib.frozen_of_heap hb2 1
  obtain ⟨g, cap, rfl⟩ : ∃ g cap, v' = .slice (some ⟨g, 0, none⟩) (bs.length + 1) cap := by
    rcases hown'.2 with ⟨_, h0⟩ | ⟨g, cap, cur, fz, hv, _⟩
    · omega
    · exact ⟨g, cap, hv⟩
  go_wp2
  go_ret
  refine ⟨rfl, ?_, ?_⟩
  · exact Lib.BuilderAtF.put (T := 176) (e := 5) hB hb2 (bs' := bs ++ [.int .u8 c]) (by simpa using hown') (by decide)
  · exact ((hb1.alloc (by have := hb1.size; omega) _).grown hgrow (by have := hb1.size; simp; omega) (fun k hk => (hown.lt k hk).1)).setCell (p := ⟨b, 1, none⟩) hB _
end Go.Proofs.YtcgpflkaejbkhaaGreatDoor
namespace Go.Proofs.YtcgpflkaejbkhaaGreatDoor
open Go.RowKit

/-- a builder that holds some bytes, seen from a base world -/
def BuilL (b n : Nat) (w1 W : World) : Prop := ∃ l : List UInt8, l.length ≤ n ∧ Lib.IsBuilderF 176 5 b b (Lib.byteCells l) W ∧ Below b w1 W
theorem BuilL.write {b n : Nat} {w1 W : World} (h : BuilL b n w1 W) (hn : n ≤ 200) (hb : b ≤ w1.heap.size) (c : UInt8) : Calls Tryz.prog 126 #[.pointer (some ⟨b, 0, none⟩), .int .u8 (c.toNat : Int)] W fun e w' => e = .returned .nilIface ∧ BuilL b (n + 1) w1 w' := by
  obtain ⟨l, h1, h2, h3⟩ := h
  refine (write_byte b b (Lib.byteCells l) (c.toNat : Int) W h2 (by rw [Lib.byteCells_length]; omega) (by have := h3.size; omega)).mono ?_
  rintro e w' ⟨rfl, h4, h5⟩
  refine ⟨rfl, l ++ [c], by rw [List.length_append]; simp; omega, Or.inr ?_, h3.trans h5⟩
  rw [show Lib.byteCells (l ++ [c]) = Lib.byteCells l ++ [.int .u8 (c.toNat : Int)] by simp [Lib.byteCells]]
  exact h4
theorem BuilL.text {b n : Nat} {w1 W : World} (h : BuilL b n w1 W) (hb : b ≤ w1.heap.size) : ∃ S : ByteArray, Calls Tryz.prog 125 #[.pointer (some ⟨b, 0, none⟩)] W fun e w' => e = .returned (.string S) ∧ Below b w1 w' := by
  obtain ⟨l, h1, h2, h3⟩ := h
  refine ⟨⟨l.toArray⟩, (Tryz.Builder_String_any_k b b l W h2 (by have := h3.size; omega)).mono ?_⟩
  rintro e w' ⟨rfl, _, h5, _⟩
  exact ⟨rfl, h3.trans h5⟩
theorem BuilL.start (w1 : World) : BuilL w1.heap.size 0 w1 (w1.alloc (.cells #[.pointer none, .slice none 0 0] 176)) :=
  ⟨[], Nat.le_refl _, Or.inl ⟨Nat.le_refl _, .slice none 0 0, heap_alloc_new w1 _, ⟨by simp [Lib.byteCells], Or.inl ⟨rfl, rfl⟩⟩, by simp [Value.ownBlock]⟩, (Below.refl _ _).alloc (Nat.le_refl _) _⟩
theorem BuilL.le {b n m : Nat} {w1 W : World} (h : BuilL b n w1 W) (hm : n ≤ m) : BuilL b m w1 W := by
  obtain ⟨l, h1, h2, h3⟩ := h
  exact ⟨l, Nat.le_trans h1 hm, h2, h3⟩
theorem cells_of {W : World} {g : Nat} (h : W.heap[g]? = some (.cells #[.int .i64 0, .string ⟨#[]⟩, .int .i64 0] 102)) : W.cell? ⟨g, 0, none⟩ = some (.int .i64 0) ∧ W.cell? ⟨g, 1, none⟩ = some (.string ⟨#[]⟩) ∧ W.cell? ⟨g, 2, none⟩ = some (.int .i64 0) ∧ W.frozen? ⟨g, 0, none⟩ = false ∧ W.frozen? ⟨g, 1, none⟩ = false ∧ W.frozen? ⟨g, 2, none⟩ = false :=
  ⟨cell_of_row _ _ 0 _ _ _ h, cell_of_row _ _ 1 _ _ _ h, cell_of_row _ _ 2 _ _ _ h, frozen_of_row _ _ 0 _ _ h, frozen_of_row _ _ 1 _ _ h, frozen_of_row _ _ 2 _ _ h⟩
theorem tok_kept {w W : World} (hB : Below (w.heap.size + 1) (w.alloc (.cells #[.int .i64 0, .string ⟨#[]⟩, .int .i64 0] 102)) W) : W.heap[w.heap.size]? = some (.cells #[.int .i64 0, .string ⟨#[]⟩, .int .i64 0] 102) ∧ Below w.heap.size w W :=
  ⟨(hB.block w.heap.size (by omega)).trans (heap_alloc_new w _), (below1 w _).trans (hB.mono (by omega))⟩
set_option maxRecDepth 100000 in
set_option maxHeartbeats 8000000 in
theorem text_any (s : ByteArray) (w : World) (h0 : 0 < s.size) (hs : s.size ≤ 12) : Calls Tryz.prog 112 #[.string s] w (OtherP s w) := by
  have HST := Lib.hid (show BuilL (w.heap.size + 1) 1 (w.alloc (.cells #[.int .i64 0, .string ⟨#[]⟩, .int .i64 0] 102)) ((w.alloc (.cells #[.int .i64 0, .string ⟨#[]⟩, .int .i64 0] 102)).alloc (.cells #[.pointer none, .slice none 0 0] 176)) from by
    have h := BuilL.start (w.alloc (.cells #[.int .i64 0, .string ⟨#[]⟩, .int .i64 0] 102))
    rw [World.size_alloc] at h
    exact h.le (Nat.zero_le _))
  have HS := Lib.hid hs
  have H0 := Lib.hid h0
  go_enter Tryz.func112, Tryz.ntmps112
  go_wp2_with fail
  go_loopw [6] (fun i wr => ∃ k : Nat, 1 ≤ k ∧ k ≤ s.size ∧ i = .int .i64 k ∧ Hid (BuilL (w.heap.size + 1) k (w.alloc (.cells #[.int .i64 0, .string ⟨#[]⟩, .int .i64 0] 102)) wr)) (fun i _ => s.size + 1 - (intOf i).toNat)
  case atStart => exact ⟨1, Nat.le_refl _, H0.out, rfl, HST⟩
  case round =>
    obtain ⟨k, hk1, hk, rfl, HB⟩ := hrel
    obtain ⟨wo, rfl⟩ : ∃ wo : World, wo = wr := ⟨_, rfl⟩
    by_cases hlt : k < s.size
    · obtain ⟨c, hc⟩ : ∃ c, c = s[k] := ⟨_, rfl⟩
      have hkc : s[k] = c := hc.symm
      have hc255 : (c.toNat : Int) ≤ 255 := by have := c.toNat_lt; omega
      have hc0 : (0 : Int) ≤ (c.toNat : Int) := by omega
      clear hc
      by_cases h39 : c = 39
      · subst h39
        have hcn : (((39 : UInt8).toNat : Nat) : Int) = 39 := rfl
        by_cases hend : k + 1 = s.size
        · obtain ⟨S, hS⟩ := HB.out.text (by simp)
          have HT := Lib.hid hS
          clear hS
          have hq : ((k : Int) + 1 == (s.size : Int)) = true := by rw [beq_iff_eq]; omega
          go_wp2_with (first
            | (go_at_call 125; (with_reducible refine HT.out.mono ?_); rintro e w4 ⟨rfl, hB4⟩; have HK4 := Lib.hid (tok_kept hB4); obtain ⟨r0, r1, r2, g0, g1, g2⟩ := cells_of HK4.out.1; clear hB4)
            | fail)
          refine bodyPost_ret (v := nextV 5 S (k + 1 : Nat) 0) (by simp [results, Tryz.results112, go_sem, r0, r1, r2, nextV, tokV]) rfl ⟨5, 0, S, k + 1, rfl, ?_, fun _ => ⟨by decide, by decide, by omega, by omega⟩⟩
          exact ((HK4.out.2.setCell (p := ⟨w.heap.size, 0, none⟩) (Nat.le_refl _) _).setCell (p := ⟨w.heap.size, 1, none⟩) (Nat.le_refl _) _).setCell (p := ⟨w.heap.size, 2, none⟩) (Nat.le_refl _) _
        · have hlt1 : k + 1 < s.size := by omega
          have hq : ((k : Int) + 1 == (s.size : Int)) = false := by rw [beq_eq_false_iff_ne]; omega
          obtain ⟨d, hd⟩ : ∃ d, d = s[k + 1] := ⟨_, rfl⟩
          have hkd : s[k + 1] = d := hd.symm
          have hd255 : (d.toNat : Int) ≤ 255 := by have := d.toNat_lt; omega
          have hd0 : (0 : Int) ≤ (d.toNat : Int) := by omega
          clear hd hend
          by_cases hd39 : d = 39
          · subst hd39
            have HW := Lib.hid (show Calls Tryz.prog 126 #[.pointer (some ⟨w.heap.size + 1, 0, none⟩), .int .u8 39] wo _ from HB.out.write (by have := HS.out; omega) (by simp) 39)
            go_wp2_with (first
              | (go_at_call 126; (with_reducible refine HW.out.mono ?_); rintro e w4 ⟨rfl, hB4⟩; have HB4 := Lib.hid (hB4.le (Nat.le_succ _)); clear hB4)
              | fail)
            go_roundw
            case rel => exact ⟨k + 2, by omega, by omega, by go_num, HB4⟩
            case measure => simp [intOf] <;> omega
          · have hdn : ((d.toNat : Int) == 39) = false := by
              rw [beq_eq_false_iff_ne]
              intro h
              exact hd39 (UInt8.toNat_inj.1 (by simp; omega))
            obtain ⟨S, hS⟩ := HB.out.text (by simp)
            have HT := Lib.hid hS
            clear hS hd39
            go_wp2_with (first
              | (go_at_call 125; (with_reducible refine HT.out.mono ?_); rintro e w4 ⟨rfl, hB4⟩; have HK4 := Lib.hid (tok_kept hB4); obtain ⟨r0, r1, r2, g0, g1, g2⟩ := cells_of HK4.out.1; clear hB4)
              | fail)
            refine bodyPost_ret (v := nextV 5 S (k + 1 : Nat) 0) (by simp [results, Tryz.results112, go_sem, r0, r1, r2, nextV, tokV]) rfl ⟨5, 0, S, k + 1, rfl, ?_, fun _ => ⟨by decide, by decide, by omega, by omega⟩⟩
            exact ((HK4.out.2.setCell (p := ⟨w.heap.size, 0, none⟩) (Nat.le_refl _) _).setCell (p := ⟨w.heap.size, 1, none⟩) (Nat.le_refl _) _).setCell (p := ⟨w.heap.size, 2, none⟩) (Nat.le_refl _) _
      · have hcn : ((c.toNat : Int) == 39) = false := by
          rw [beq_eq_false_iff_ne]
          intro h
          exact h39 (UInt8.toNat_inj.1 (by simp; omega))
        have HW := Lib.hid (HB.out.write (by have := HS.out; omega) (by simp) c)
        clear h39
        go_wp2_with (first
          | (go_at_call 126; (with_reducible refine HW.out.mono ?_); rintro e w4 ⟨rfl, hB4⟩; have HB4 := Lib.hid hB4; clear hB4)
          | fail)
        go_roundw
        case rel => exact ⟨k + 1, by omega, by omega, by go_num, HB4⟩
        case measure => simp [intOf] <;> omega
    · have HK4 := Lib.hid (show wo.heap[w.heap.size]? = some (.cells #[.int .i64 0, .string ⟨#[]⟩, .int .i64 0] 102) ∧ Below w.heap.size w wo from by
        obtain ⟨l, _, _, h3⟩ := HB.out
        exact tok_kept h3)
      obtain ⟨r0, r1, r2, g0, g1, g2⟩ := cells_of HK4.out.1
      go_wp2_with fail
      refine bodyPost_ret (v := nextV 0 ⟨#[]⟩ 0 10) (by simp [results, Tryz.results112, go_sem, r0, r1, r2, nextV, tokV]) rfl ⟨0, 10, ⟨#[]⟩, 0, rfl, ?_, fun h => absurd h (by decide)⟩
      exact ((HK4.out.2.setCell (p := ⟨w.heap.size, 0, none⟩) (Nat.le_refl _) _).setCell (p := ⟨w.heap.size, 1, none⟩) (Nat.le_refl _) _).setCell (p := ⟨w.heap.size, 2, none⟩) (Nat.le_refl _) _
end Go.Proofs.YtcgpflkaejbkhaaGreatDoor
namespace Go.Proofs.YtcgpflkaejbkhaaGreatDoor
open Go.RowKit

/-- a text that may be a name -/
def nameB (L : List UInt8) : Bool := decide (L.length ≤ 12) && L.head?.any (fun c => letP (c.toNat : Int)) && L.all (fun c => namP (c.toNat : Int)) && decide (kwR L = [])
theorem nameB_iff {L : List UInt8} : nameB L = true ↔ L.length ≤ 12 ∧ (∃ c r, L = c :: r ∧ letP (c.toNat : Int) = true) ∧ (∀ c ∈ L, namP (c.toNat : Int) = true) ∧ kwR L = [] := by
  unfold nameB
  rw [Bool.and_eq_true, Bool.and_eq_true, Bool.and_eq_true, decide_eq_true_iff, decide_eq_true_iff, List.all_eq_true]
  cases L with
  | nil => simp
  | cons c r => simp [and_assoc]
theorem nameB_first {c : UInt8} {r : List UInt8} (h : letP (c.toNat : Int) = false) : nameB (c :: r) = false := by
  cases hn : nameB (c :: r) with
  | false => rfl
  | true =>
    obtain ⟨_, ⟨a, b, e, h2⟩, _⟩ := nameB_iff.1 hn
    cases e
    rw [h] at h2; cases h2
theorem bla_not_let {r : Int} (h : blaP r = true) : letP r = false := by
  simp only [blaP, Bool.or_eq_true, decide_eq_true_iff] at h
  rcases h with ((h | h) | h) | h <;> subst h <;> decide
theorem nameB_blank {L : List UInt8} (h : 0 < spanR blaP L) : nameB L = false := by
  cases L with
  | nil => exact absurd h (by simp [spanR])
  | cons c r =>
    refine nameB_first (bla_not_let ?_)
    by_cases hb : blaP (c.toNat : Int) = true
    · exact hb
    · unfold spanR at h
      rw [List.takeWhile_cons, if_neg hb] at h
      exact absurd h (by simp)
theorem span_full {p : Int → Bool} {l : List UInt8} (h : ∀ c ∈ l, p (c.toNat : Int) = true) : spanR p l = l.length :=
  span_all p (fun _ d _ hd => h d (List.mem_of_getElem? hd))
theorem full_span {p : Int → Bool} {l : List UInt8} (h : spanR p l = l.length) : ∀ c ∈ l, p (c.toNat : Int) = true := by
  unfold spanR at h
  have h2 : l.takeWhile (fun b => p (b.toNat : Int)) = l := (List.takeWhile_sublist _).eq_of_length h
  intro c hc
  rw [← h2] at hc
  have h3 := List.all_takeWhile (p := fun b : UInt8 => p (b.toNat : Int)) (l := l)
  exact List.all_eq_true.1 h3 c hc
/-- what the word at the beginning of a text is: its kind, its text, its bytes, the error -/
def WordAt (l : List UInt8) (k : Int) (S : ByteArray) (n : Nat) (er : Int) : Prop :=
  (l = [] ∧ k = 0 ∧ er = 0) ∨
  (∃ c r, l = c :: r ∧ letP (c.toNat : Int) = true ∧ n = spanR namP l ∧ 1 ≤ n ∧ n ≤ l.length ∧ er = 0 ∧ ((kwR (l.take n) ≠ [] ∧ k = 2) ∨ (kwR (l.take n) = [] ∧ k = 1 ∧ S.data.toList = l.take n))) ∨
  (∃ c r, l = c :: r ∧ letP (c.toNat : Int) = false ∧ (er = 0 → k ≠ 0 ∧ k ≠ 1 ∧ 1 ≤ n ∧ n ≤ l.length))
/-- the words so far: none, or the first is the text itself, that is a name, or it is another one -/
def LexInv (L : List UInt8) (cnt : Nat) (xs : List Value) (p : Nat) : Prop :=
  p ≤ L.length ∧ cnt ≤ p ∧ ((cnt = 0 ∧ xs = [] ∧ p = 0) ∨ (1 ≤ cnt ∧ ∃ (k : Int) (S : ByteArray) (a : Value) (rest : List Value), xs = .int .i64 k :: .string S :: a :: rest ∧
    ((k = 1 ∧ S.data.toList = L ∧ nameB L = true ∧ cnt = 1 ∧ p = L.length) ∨ (¬ (k = 1 ∧ S.data.toList = L) ∧ nameB L = false))))
/-- all words: two, of which the first is the text as a name, or the text is no name -/
def LexFin (L : List UInt8) (cnt : Nat) (xs : List Value) : Prop :=
  1 ≤ cnt ∧ ∃ (k : Int) (S : ByteArray) (a : Value) (rest : List Value), xs = .int .i64 k :: .string S :: a :: rest ∧ ((cnt = 2 ∧ k = 1 ∧ S.data.toList = L) ↔ nameB L = true)
theorem lex_start (L : List UInt8) : LexInv L 0 [] 0 := ⟨Nat.zero_le _, Nat.le_refl _, Or.inl ⟨rfl, rfl, rfl⟩⟩
theorem drop_all {L : List UInt8} {k : Nat} (h : L.drop k = []) : L.length ≤ k := List.drop_eq_nil_iff.1 h
theorem lex_end {L : List UInt8} {cnt p : Nat} {xs : List Value} (h : LexInv L cnt xs p) (hd : L.drop (p + spanR blaP (L.drop p)) = []) (S : ByteArray) (a : Value) : LexFin L (cnt + 1) (xs ++ [.int .i64 0, .string S, a]) := by
  obtain ⟨h1, h2, h | ⟨h3, k, T, b, rest, rfl, h⟩⟩ := h
  · obtain ⟨rfl, rfl, rfl⟩ := h
    refine ⟨Nat.le_refl _, 0, S, a, [], rfl, ?_⟩
    have hl := drop_all hd
    rw [List.drop_zero, Nat.zero_add] at hl
    have hn : nameB L = false := by
      by_cases h0 : L = []
      · subst h0; decide +kernel
      · exact nameB_blank (by have : 0 < L.length := List.length_pos_iff.2 h0; omega)
    rw [hn]
    simp
  · refine ⟨by omega, k, T, b, rest ++ [.int .i64 0, .string S, a], rfl, ?_⟩
    rcases h with ⟨rfl, e, hn, rfl, _⟩ | ⟨h, hn⟩
    · simp [e, hn]
    · rw [hn]
      simp only [Bool.false_eq_true, iff_false]
      rintro ⟨_, h4, h5⟩
      exact h ⟨h4, h5⟩
theorem take_first {L l : List UInt8} {n j : Nat} (hl : l = L.drop j) (hn : n ≤ l.length) (h : l.take n = L) : j = 0 ∧ n = L.length ∨ L = [] := by
  have h1 := congrArg List.length h
  rw [List.length_take, hl, List.length_drop] at h1
  rw [hl, List.length_drop] at hn
  by_cases h0 : L = []
  · exact Or.inr h0
  · have : 0 < L.length := List.length_pos_iff.2 h0
    left; omega
theorem lex_word {L : List UInt8} {cnt p : Nat} {xs : List Value} (h : LexInv L cnt xs p) (hL : L.length ≤ 12) {k : Int} {S : ByteArray} {n : Nat} (hw : WordAt (L.drop (p + spanR blaP (L.drop p))) k S n 0) (hk : k ≠ 0) (a : Value) :
    LexInv L (cnt + 1) (xs ++ [.int .i64 k, .string S, a]) (p + spanR blaP (L.drop p) + n) ∧ 1 ≤ n := by
  obtain ⟨j, hj⟩ : ∃ j, j = spanR blaP (L.drop p) := ⟨_, rfl⟩
  rw [← hj] at hw ⊢
  have hn : 1 ≤ n ∧ n ≤ (L.drop (p + j)).length := by
    rcases hw with ⟨_, e, _⟩ | ⟨c, r, e, _, _, h1, h2, _⟩ | ⟨c, r, e, _, h1⟩
    · exact absurd e hk
    · exact ⟨h1, h2⟩
    · exact (h1 rfl).2.2
  obtain ⟨hn1, hn2⟩ := hn
  rw [List.length_drop] at hn2
  refine ⟨⟨by omega, by have := h.2.1; omega, Or.inr ⟨by omega, ?_⟩⟩, hn1⟩
  obtain ⟨h1, h2, h | ⟨h3, k2, T, b, rest, rfl, h⟩⟩ := h
  · obtain ⟨rfl, rfl, rfl⟩ := h
    refine ⟨k, S, a, [], rfl, ?_⟩
    rw [List.drop_zero] at hj
    rw [Nat.zero_add] at hw ⊢
    by_cases hj0 : j = 0
    · rw [hj0, List.drop_zero] at hw
      rcases hw with ⟨_, e, _⟩ | ⟨c, r, e, h3, h4, h5, h6, _, h7⟩ | ⟨c, r, e, h3, h4⟩
      · exact absurd e hk
      · rcases h7 with ⟨h8, h9⟩ | ⟨h8, h9, h10⟩
        · refine Or.inr ⟨fun h => by rw [h9] at h; exact absurd h.1 (by decide), ?_⟩
          cases hb : nameB L with
          | false => rfl
          | true =>
            obtain ⟨_, _, g1, g2⟩ := nameB_iff.1 hb
            rw [h4, span_full g1, List.take_length] at h8
            exact absurd g2 h8
        · by_cases hS : S.data.toList = L
          · have hnL : n = L.length := by
              rcases take_first (j := 0) rfl h6 (h10.symm.trans hS) with ⟨_, h⟩ | h
              · exact h
              · rw [h] at e; cases e
            refine Or.inl ⟨h9, hS, nameB_iff.2 ⟨hL, ⟨c, r, e, h3⟩, full_span (h4.symm.trans hnL), ?_⟩, rfl, by rw [hj0]; omega⟩
            rw [hnL, List.take_length] at h8
            exact h8
          · refine Or.inr ⟨fun h => hS h.2, ?_⟩
            cases hb : nameB L with
            | false => rfl
            | true =>
              obtain ⟨_, _, g1, g2⟩ := nameB_iff.1 hb
              rw [h4, span_full g1, List.take_length] at h10
              exact absurd h10 hS
      · refine Or.inr ⟨fun h => (h4 rfl).2.1 h.1, ?_⟩
        rw [e]
        exact nameB_first h3
    · have hb : nameB L = false := nameB_blank (by omega)
      refine Or.inr ⟨fun h => ?_, hb⟩
      rcases hw with ⟨_, e, _⟩ | ⟨c, r, e, h3, h4, h5, h6, _, h7⟩ | ⟨c, r, e, h3, h4⟩
      · exact absurd e hk
      · rcases h7 with ⟨h8, h9⟩ | ⟨h8, h9, h10⟩
        · rw [h9] at h; exact absurd h.1 (by decide)
        · rcases take_first rfl h6 (h10.symm.trans h.2) with ⟨h, _⟩ | h
          · exact hj0 h
          · rw [h] at e; simp at e
      · exact (h4 rfl).2.1 h.1
  · refine ⟨k2, T, b, rest ++ [.int .i64 k, .string S, a], rfl, ?_⟩
    rcases h with ⟨_, _, _, _, h⟩ | h
    · omega
    · exact Or.inr h
theorem lex_err {L : List UInt8} {cnt p : Nat} {xs : List Value} (h : LexInv L cnt xs p) {k : Int} {S : ByteArray} {n : Nat} {er : Int} (hw : WordAt (L.drop (p + spanR blaP (L.drop p))) k S n er) (he : er ≠ 0) : nameB L = false := by
  obtain ⟨h1, h2, h | ⟨h3, k2, T, b, rest, rfl, h⟩⟩ := h
  · obtain ⟨rfl, rfl, rfl⟩ := h
    rw [List.drop_zero, Nat.zero_add] at hw
    rcases hw with ⟨_, _, e⟩ | ⟨_, _, _, _, _, _, _, e, _⟩ | ⟨c, r, e, h3, _⟩
    · exact absurd e he
    · exact absurd e he
    · by_cases hj : spanR blaP L = 0
      · rw [hj, List.drop_zero] at e
        rw [e]; exact nameB_first h3
      · exact nameB_blank (by omega)
  · rcases h with ⟨_, _, _, _, h⟩ | ⟨_, h⟩
    · rcases hw with ⟨_, _, e⟩ | ⟨_, _, _, _, _, _, _, e, _⟩ | ⟨c, r, e, h3, _⟩
      · exact absurd e he
      · exact absurd e he
      · rw [List.drop_eq_nil_of_le (by omega)] at e; cases e
    · exact h
end Go.Proofs.YtcgpflkaejbkhaaGreatDoor
namespace Go.Proofs.YtcgpflkaejbkhaaGreatDoor
open Go.RowKit

set_option maxRecDepth 100000 in
set_option maxHeartbeats 8000000 in
theorem next_quote (s : ByteArray) (w : World) (h0 : 0 < s.size) (hs : s.size ≤ 12) (hq : s[0] = 39) : Calls Tryz.prog 96 #[.string s] w (OtherP s w) := by
  have HNU := Lib.hid (show ∀ W, Calls Tryz.prog 112 #[.string s] W (OtherP s W) from fun W => text_any s W h0 hs)
  have hc39 : (((39 : UInt8).toNat : Nat) : Int) = 39 := rfl
  have hw39 : wrap32 39 = 39 := by decide +kernel
  have hne := text_ne h0
  have HLE := Lib.hid (show ∀ W, Calls Tryz.prog 107 #[.int .i32 39] W (SameV (.bool false) W) from fun W => letter_any 39 W)
  have HDI := Lib.hid (show ∀ W, Calls Tryz.prog 109 #[.int .i32 39] W (SameV (.bool false) W) from fun W => digit_any 39 W)
  go_enter Tryz.func96, Tryz.ntmps96
  go_wp2_with (first
    | (go_at_call 107; (with_reducible refine (HLE.out _).mono ?_); rintro e w5 ⟨rfl, rfl⟩)
    | (go_at_call 109; (with_reducible refine (HDI.out _).mono ?_); rintro e w6 ⟨rfl, rfl⟩)
    | (go_at_call 112; (with_reducible refine (HNU.out _).mono ?_); rintro e w4 ⟨k, er, S, n, rfl, hB4, hP⟩; have HP := Lib.hid hP; have HK4 := Lib.hid (num_kept hB4); obtain ⟨r0, r1, r2, g0, g1, g2⟩ := num_cells HK4.out; clear hB4 hP; unfold nextV tokV)
    | fail)
  refine bodyPost_ret (v := nextV k S n er) (by simp [results, Tryz.results96, go_sem, r0, r1, r2, nextV, tokV]) rfl ⟨k, er, S, n, rfl, ?_, HP.out⟩
  exact ((HK4.out.2.setCell (p := ⟨w.heap.size, 0, none⟩) (Nat.le_refl _) _).setCell (p := ⟨w.heap.size, 1, none⟩) (Nat.le_refl _) _).setCell (p := ⟨w.heap.size, 2, none⟩) (Nat.le_refl _) _
/-- the word at the beginning of a text -/
def NextP (s : ByteArray) (w : World) (e : Ending) (w' : World) : Prop := ∃ (k er : Int) (S : ByteArray) (n : Nat), e = .returned (nextV k S n er) ∧ Below w.heap.size w w' ∧ WordAt s.data.toList k S n er
theorem list_first {s : ByteArray} (h0 : 0 < s.size) : ∃ r, s.data.toList = s[0] :: r := by
  have hsl : s.data.toList.length = s.size := by show _ = s.data.size; simp
  cases hx : s.data.toList with
  | nil => rw [hx] at hsl; simp at hsl; omega
  | cons a l =>
    refine ⟨l, ?_⟩
    have : s.data.toList[0]? = some a := by rw [hx]; rfl
    rw [Array.getElem?_toList] at this
    rw [← (Array.getElem?_eq_some_iff.1 this).2]
    rfl
theorem other_next {s : ByteArray} {w : World} (h0 : 0 < s.size) (hl : letP (s[0].toNat : Int) = false) {e : Ending} {w' : World} (h : OtherP s w e w') : NextP s w e w' := by
  obtain ⟨k, er, S, n, h1, h2, h3⟩ := h
  have hsl : s.data.toList.length = s.size := by show _ = s.data.size; simp
  obtain ⟨r, hr⟩ := list_first h0
  exact ⟨k, er, S, n, h1, h2, Or.inr (Or.inr ⟨s[0], r, hr, hl, fun he => by rw [hsl]; exact h3 he⟩)⟩
theorem next_any (m : Int) (t : Nat → Nat) (ht : ∀ j, j < 23 → finD (Ieee.double.read (t j)) = true) (s : ByteArray) (w : World) (hG : Glob m t w) (hs : s.size ≤ 12) : Calls Tryz.prog 96 #[.string s] w (NextP s w) := by
  have hsl : s.data.toList.length = s.size := by show _ = s.data.size; simp
  by_cases h0 : 0 < s.size
  · obtain ⟨r, hr⟩ := list_first h0
    cases hl : letP (s[0].toNat : Int) with
    | true =>
      refine (next_letter s m w hG.mx h0 (by omega) hl).mono fun e w' h => ?_
      obtain ⟨rfl, hB⟩ := h
      have hle := spanR_le namP s.data.toList
      have h1 : 1 ≤ spanR namP s.data.toList := by
        refine span_pos namP s h0 ?_
        unfold namP
        rw [hl]; rfl
      unfold wordR
      dsimp only
      by_cases hk : kwR (s.data.toList.take (spanR namP s.data.toList)) ≠ []
      · rw [if_pos hk]
        exact ⟨2, 0, _, _, rfl, hB, Or.inr (Or.inl ⟨s[0], r, hr, hl, rfl, h1, hle, rfl, Or.inl ⟨hk, rfl⟩⟩)⟩
      · rw [if_neg hk, if_neg (by omega)]
        exact ⟨1, 0, _, _, rfl, hB, Or.inr (Or.inl ⟨s[0], r, hr, hl, rfl, h1, hle, rfl, Or.inr ⟨Decidable.not_not.1 hk, rfl, rfl⟩⟩)⟩
    | false =>
      cases hd : digP (s[0].toNat : Int) with
      | true => exact (next_digit m t ht s w hG h0 hs hl hd).mono fun e w' h => other_next h0 hl h
      | false =>
        by_cases hq : s[0] = 39
        · exact (next_quote s w h0 hs hq).mono fun e w' h => other_next h0 hl h
        · exact (next_sign s w h0 hl hd hq).mono fun e w' h => other_next h0 hl h
  · have hs0 : s = ⟨#[]⟩ := by
      have : s.data = #[] := Array.eq_empty_of_size_eq_zero (by show s.size = 0; omega)
      cases s with
      | mk d =>
        have h : d = #[] := this
        rw [h]
    subst hs0
    refine (next_end w).mono fun e w' h => ?_
    exact ⟨0, 0, ⟨#[]⟩, 0, h.1, h.2, Or.inl ⟨rfl, rfl, rfl⟩⟩
end Go.Proofs.YtcgpflkaejbkhaaGreatDoor
