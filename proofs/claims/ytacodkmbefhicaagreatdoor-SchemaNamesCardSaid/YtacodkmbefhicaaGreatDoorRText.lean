/- The walk of the document's text. -/
import Derived.Test.YtacodkmbefhicaaGreatDoorRKind
import Derived.Test.YtacodkmbefhicaaGreatDoorSign
namespace Go.Proofs.YtacodkmbefhicaaGreatDoor
open Go.RowKit

/-- the block of the answer, and the block of the word, seen from a base world -/
def TwoTok (w : World) (k : Int) (S : ByteArray) (a : Int) (W : World) : Prop :=
  W.heap[w.heap.size]? = some (.cells #[.int .i64 0, .string ⟨#[]⟩, .int .i64 0] 41) ∧ W.heap[w.heap.size + 1]? = some (.cells #[.int .i64 k, .string S, .int .i64 a] 41) ∧ Below w.heap.size w W
theorem slice_str (s : ByteArray) (i j : Int) (a b : Nat) (hi : i = a) (hj : j = b) (h1 : a ≤ b) (h2 : b ≤ s.size) (W : World) : (Instr.slice 9 (.string s) (some (.int .i64 i)) (some (.int .i64 j)) none).run Tryz.prog W = .ok (.string (s.extract a b)) W := by
  subst hi hj
  rw [run_slice_string W 9 s .i64 .i64 (a : Int) (b : Int) Tryz.underlying9 (by omega) (by omega) (by omega)]
  simp
theorem TwoTok.ans {w W : World} {k a : Int} {S : ByteArray} (h : TwoTok w k S a W) : W.cell? ⟨w.heap.size, 0, none⟩ = some (.int .i64 0) ∧ W.cell? ⟨w.heap.size, 1, none⟩ = some (.string ⟨#[]⟩) ∧ W.cell? ⟨w.heap.size, 2, none⟩ = some (.int .i64 0) ∧ W.frozen? ⟨w.heap.size, 0, none⟩ = false ∧ W.frozen? ⟨w.heap.size, 1, none⟩ = false ∧ W.frozen? ⟨w.heap.size, 2, none⟩ = false :=
  ⟨cell_of_row _ _ 0 _ _ _ h.1, cell_of_row _ _ 1 _ _ _ h.1, cell_of_row _ _ 2 _ _ _ h.1, frozen_of_row _ _ 0 _ _ h.1, frozen_of_row _ _ 1 _ _ h.1, frozen_of_row _ _ 2 _ _ h.1⟩
theorem TwoTok.tok {w W : World} {k a : Int} {S : ByteArray} (h : TwoTok w k S a W) : W.cell? ⟨w.heap.size + 1, 0, none⟩ = some (.int .i64 k) ∧ W.cell? ⟨w.heap.size + 1, 1, none⟩ = some (.string S) ∧ W.cell? ⟨w.heap.size + 1, 2, none⟩ = some (.int .i64 a) ∧ W.frozen? ⟨w.heap.size + 1, 0, none⟩ = false ∧ W.frozen? ⟨w.heap.size + 1, 1, none⟩ = false ∧ W.frozen? ⟨w.heap.size + 1, 2, none⟩ = false :=
  ⟨cell_of_row _ _ 0 _ _ _ h.2.1, cell_of_row _ _ 1 _ _ _ h.2.1, cell_of_row _ _ 2 _ _ _ h.2.1, frozen_of_row _ _ 0 _ _ h.2.1, frozen_of_row _ _ 1 _ _ h.2.1, frozen_of_row _ _ 2 _ _ h.2.1⟩
theorem TwoTok.start (w : World) (k : Int) (S : ByteArray) (a : Int) : TwoTok w k S a ((w.alloc (.cells #[.int .i64 0, .string ⟨#[]⟩, .int .i64 0] 41)).alloc (.cells #[.int .i64 k, .string S, .int .i64 a] 41)) := by
  refine ⟨?_, ?_, (below1 w _).alloc (by simp) _⟩
  · rw [heap_alloc_old _ _ (by simp)]
    exact heap_alloc_new w _
  · have h := heap_alloc_new (w.alloc (.cells #[.int .i64 0, .string ⟨#[]⟩, .int .i64 0] 41)) (.cells #[.int .i64 k, .string S, .int .i64 a] 41)
    rw [World.size_alloc] at h
    exact h
theorem TwoTok.keep {w W W' : World} {k a : Int} {S : ByteArray} (h : TwoTok w k S a W) (hB : Below W.heap.size W W') : TwoTok w k S a W' :=
  ⟨(hB.block _ (heap_lt h.1)).trans h.1, (hB.block _ (heap_lt h.2.1)).trans h.2.1, h.2.2.trans (hB.mono h.2.2.size)⟩
theorem TwoTok.setS {w W : World} {k a : Int} {S : ByteArray} (h : TwoTok w k S a W) (T : ByteArray) : TwoTok w k T a (W.setCell ⟨w.heap.size + 1, 1, none⟩ (.string T)) := by
  refine ⟨(heap_setFar _ (by omega)).trans h.1, ?_, h.2.2.setCell (p := ⟨w.heap.size + 1, 1, none⟩) (Nat.le_succ _) _⟩
  rw [setCell_eq_setRow W _ 1 _ 41 _ _ h.2.1, setRow_heap W _ _ _ 41 _ h.2.1]
  rfl
theorem TwoTok.setK {w W : World} {k a : Int} {S : ByteArray} (h : TwoTok w k S a W) (j : Int) : TwoTok w j S a (W.setCell ⟨w.heap.size + 1, 0, none⟩ (.int .i64 j)) := by
  refine ⟨(heap_setFar _ (by omega)).trans h.1, ?_, h.2.2.setCell (p := ⟨w.heap.size + 1, 0, none⟩) (Nat.le_succ _) _⟩
  rw [setCell_eq_setRow W _ 0 _ 41 _ _ h.2.1, setRow_heap W _ _ _ 41 _ h.2.1]
  rfl
theorem TwoTok.done {w W : World} {k a : Int} {S : ByteArray} (h : TwoTok w k S a W) (x y z : Value) : Below w.heap.size w (((W.setCell ⟨w.heap.size, 0, none⟩ x).setCell ⟨w.heap.size, 1, none⟩ y).setCell ⟨w.heap.size, 2, none⟩ z) :=
  ((h.2.2.setCell (p := ⟨w.heap.size, 0, none⟩) (Nat.le_refl _) _).setCell (p := ⟨w.heap.size, 1, none⟩) (Nat.le_refl _) _).setCell (p := ⟨w.heap.size, 2, none⟩) (Nat.le_refl _) _
theorem TwoTok.below {w W : World} {k a : Int} {S : ByteArray} (h : TwoTok w k S a W) : Below w.heap.size w W := h.2.2
theorem TwoTok.drew {w W : World} {k a : Int} {S : ByteArray} (h : TwoTok w k S a W) : TwoTok w k S a W.drew := ⟨h.1, h.2.1, h.2.2.drew⟩
/-- what a word of the document answers: its kind, its text, where it begins; the place behind it; the error -/
def wordV (k : Int) (S : ByteArray) (a q er : Int) : Value := .tuple #[tokV k S a, .int .i64 q, .int .i64 er]
/-- a word that is no name and no end, of some bytes; or an error -/
def ROther (s : ByteArray) (p : Nat) (w : World) (e : Ending) (w' : World) : Prop := ∃ (k er : Int) (S : ByteArray) (n : Nat), e = .returned (wordV k S p ((p + n : Nat) : Int) er) ∧ Below w.heap.size w w' ∧ (er = 0 → k ≠ 0 ∧ k ≠ 1 ∧ 1 ≤ n ∧ p + n ≤ s.size)
set_option maxRecDepth 100000 in
set_option maxHeartbeats 8000000 in
theorem rtext_any (s : ByteArray) (p : Nat) (w : World) (h0 : p < s.size) (hs : s.size ≤ 12) : Calls Tryz.prog 40 #[.string s, .int .i64 (p : Int)] w (ROther s p w) := by
  have HST := Lib.hid (TwoTok.start w 5 ⟨#[]⟩ p)
  have HS := Lib.hid hs
  have H0 := Lib.hid h0
  go_enter Tryz.func40, Tryz.ntmps40
  go_wp2_with fail
  go_loopw [8] (fun i wr => ∃ (k : Nat) (S : ByteArray), p + 1 ≤ k ∧ k ≤ s.size ∧ i = .int .i64 k ∧ S.size ≤ k ∧ Hid (TwoTok w 5 S p wr)) (fun i _ => s.size + 1 - (intOf i).toNat)
  case atStart => exact ⟨p + 1, ⟨#[]⟩, Nat.le_refl _, H0.out, by go_num, Nat.zero_le _, HST⟩
  case round =>
    obtain ⟨k, S, hk1, hk, rfl, hS, HB⟩ := hrel
    obtain ⟨wo, rfl⟩ : ∃ wo : World, wo = wr := ⟨_, rfl⟩
    obtain ⟨q0, q1, q2, f0, f1, f2⟩ := HB.out.ans
    obtain ⟨r0, r1, r2, g0, g1, g2⟩ := HB.out.tok
    by_cases hlt : k < s.size
    · obtain ⟨c, hc⟩ : ∃ c, c = s[k] := ⟨_, rfl⟩
      have hkc : s[k] = c := hc.symm
      have hc255 : (c.toNat : Int) ≤ 255 := by have := c.toNat_lt; omega
      have hc0 : (0 : Int) ≤ (c.toNat : Int) := by omega
      clear hc
      by_cases h39 : c = 39
      · subst h39
        have hcn : (((39 : UInt8).toNat : Nat) : Int) = 39 := rfl
        have hend : k + 1 = s.size ∨ ∃ (h : k + 1 < s.size) (d : UInt8), s[k + 1] = d := by
          by_cases h : k + 1 = s.size
          · exact Or.inl h
          · exact Or.inr ⟨by omega, _, rfl⟩
        have hkk : ((k : Int) + 1).toNat = k + 1 := by omega
        rcases hend with hend | ⟨hlt2, d, hd⟩
        · have hq : ((k : Int) + 1 == (s.size : Int)) = true := by rw [beq_iff_eq]; omega
          go_wp2_with fail
          refine bodyPost_ret (v := wordV 5 S p ((p + (k + 1 - p) : Nat) : Int) 0) (by simp [results, Tryz.results40, go_sem, q0, q1, q2, wordV, tokV]; omega) rfl ⟨5, 0, S, k + 1 - p, rfl, HB.out.done _ _ _, fun _ => ⟨by decide, by decide, by omega, by omega⟩⟩
        · have hq : ((k : Int) + 1 == (s.size : Int)) = false := by rw [beq_eq_false_iff_ne]; omega
          have hd255 : (d.toNat : Int) ≤ 255 := by have := d.toNat_lt; omega
          have hd0 : (0 : Int) ≤ (d.toNat : Int) := by omega
          by_cases h39 : d = 39
          · subst h39
            obtain ⟨V, hV⟩ : ∃ V : ByteArray, V = S ++ ⟨#[39]⟩ := ⟨_, rfl⟩
            have hone : (⟨#[39]⟩ : ByteArray).size = 1 := rfl
            have hadd : ∀ W, (Op.stringOp .add S ⟨#[39]⟩).run Tryz.prog W = .ok (.string V) W := fun W => by rw [hV]; exact add_text W _ _ (by rw [hone]; have := HS.out; omega)
            have hVs : V.size ≤ k + 2 := by rw [hV, ByteArray.size_append, hone]; omega
            have HN := Lib.hid (HB.out.setS V)
            clear hV hone
            go_wp2_with fail
            go_roundw
            case rel => exact ⟨k + 2, V, by omega, by omega, by go_num, hVs, HN⟩
            case measure => simp [intOf] <;> omega
          · have hdn : ((d.toNat : Int) == 39) = false := by
              rw [beq_eq_false_iff_ne]
              intro h
              exact h39 (UInt8.toNat_inj.1 (by simp; omega))
            clear h39
            go_wp2_with fail
            refine bodyPost_ret (v := wordV 5 S p ((p + (k + 1 - p) : Nat) : Int) 0) (by simp [results, Tryz.results40, go_sem, q0, q1, q2, wordV, tokV]; omega) rfl ⟨5, 0, S, k + 1 - p, rfl, HB.out.done _ _ _, fun _ => ⟨by decide, by decide, by omega, by omega⟩⟩
      · have hcn : ((c.toNat : Int) == 39) = false := by
          rw [beq_eq_false_iff_ne]
          intro h
          exact h39 (UInt8.toNat_inj.1 (by simp; omega))
        obtain ⟨T, hT⟩ : ∃ T, T = s.extract k (k + 1) := ⟨_, rfl⟩
        have hT2 : s.extract k (k + 1) = T := hT.symm
        have hT1 : T.size = 1 := by rw [hT, ByteArray.size_extract]; omega
        obtain ⟨V, hV⟩ : ∃ V : ByteArray, V = S ++ T := ⟨_, rfl⟩
        have hadd : ∀ W, (Op.stringOp .add S T).run Tryz.prog W = .ok (.string V) W := fun W => by rw [hV]; exact add_text W _ _ (by have := HS.out; omega)
        have hVs : V.size ≤ k + 1 := by rw [hV, ByteArray.size_append]; omega
        have HN := Lib.hid (HB.out.setS V).drew
        have hw1 : IntKind.i64.wrap ((k : Int) + 1) = (k : Int) + 1 := IntWalk.i64_in _ (by omega)
        have hw2 : ∀ W, (Instr.slice 9 (.string s) (some (.int .i64 (k : Int))) (some (.int .i64 ((k : Int) + 1))) none).run Tryz.prog W = .ok (.string T) W := fun W => by rw [hT]; exact slice_str s _ _ k (k + 1) rfl (by omega) (by omega) (by omega) W
        clear h39 hT hV
        go_wp2_with fail
        go_region
        clear hw1 hw2
        go_wp2_with fail
        go_roundw
        case rel => exact ⟨k + 1, V, by omega, by omega, by go_num, hVs, HN⟩
        case measure => simp [intOf] <;> omega
    · go_wp2_with fail
      refine bodyPost_ret (v := wordV 5 S p p 10) (by simp [results, Tryz.results40, go_sem, q0, q1, q2, wordV, tokV]) rfl ⟨5, 10, S, 0, rfl, HB.out.done _ _ _, fun h => absurd h (by decide)⟩
end Go.Proofs.YtacodkmbefhicaaGreatDoor
