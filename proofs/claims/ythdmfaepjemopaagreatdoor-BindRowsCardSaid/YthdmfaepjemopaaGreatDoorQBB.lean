/- The document's lexer: a word of letters, the end. The document's lexer: a sign of one byte. The document's lexer: each word of one text. The document's Parse of one text, behind its words. The document's Lex of one text. -/
import Derived.Test.YthdmfaepjemopaaGreatDoorQBA
namespace Go.Proofs.YthdmfaepjemopaaGreatDoor
open Go.RowKit

def tokV (k : Int) (s : ByteArray) (at_ : Int) : Value := .agg #[.int .i64 k, .string s, .int .i64 at_]
theorem text_ne {s : ByteArray} (h0 : 0 < s.size) : (s.toList == []) = false := by
  have hsl : s.data.toList.length = s.size := by show _ = s.data.size; simp
  rw [ByteArray.toList_eq]
  cases hx : s.data.toList with
  | nil => rw [hx] at hsl; simp at hsl; omega
  | cons a l => rfl

def TwoTok (w : World) (k : Int) (S : ByteArray) (a : Int) (W : World) : Prop :=
  W.heap[w.heap.size]? = some (.cells #[.int .i64 0, .string ⟨#[]⟩, .int .i64 0] 105) ∧ W.heap[w.heap.size + 1]? = some (.cells #[.int .i64 k, .string S, .int .i64 a] 105) ∧ Below w.heap.size w W
theorem slice_str (s : ByteArray) (i j : Int) (a b : Nat) (hi : i = a) (hj : j = b) (h1 : a ≤ b) (h2 : b ≤ s.size) (W : World) : (Instr.slice 9 (.string s) (some (.int .i64 i)) (some (.int .i64 j)) none).run Tryz.prog W = .ok (.string (s.extract a b)) W := by
  subst hi hj
  rw [run_slice_string W 9 s .i64 .i64 (a : Int) (b : Int) Tryz.underlying9 (by omega) (by omega) (by omega)]
  simp
theorem TwoTok.ans {w W : World} {k a : Int} {S : ByteArray} (h : TwoTok w k S a W) : W.cell? ⟨w.heap.size, 0, none⟩ = some (.int .i64 0) ∧ W.cell? ⟨w.heap.size, 1, none⟩ = some (.string ⟨#[]⟩) ∧ W.cell? ⟨w.heap.size, 2, none⟩ = some (.int .i64 0) ∧ W.frozen? ⟨w.heap.size, 0, none⟩ = false ∧ W.frozen? ⟨w.heap.size, 1, none⟩ = false ∧ W.frozen? ⟨w.heap.size, 2, none⟩ = false :=
  ⟨cell_of_row _ _ 0 _ _ _ h.1, cell_of_row _ _ 1 _ _ _ h.1, cell_of_row _ _ 2 _ _ _ h.1, frozen_of_row _ _ 0 _ _ h.1, frozen_of_row _ _ 1 _ _ h.1, frozen_of_row _ _ 2 _ _ h.1⟩
theorem TwoTok.tok {w W : World} {k a : Int} {S : ByteArray} (h : TwoTok w k S a W) : W.cell? ⟨w.heap.size + 1, 0, none⟩ = some (.int .i64 k) ∧ W.cell? ⟨w.heap.size + 1, 1, none⟩ = some (.string S) ∧ W.cell? ⟨w.heap.size + 1, 2, none⟩ = some (.int .i64 a) ∧ W.frozen? ⟨w.heap.size + 1, 0, none⟩ = false ∧ W.frozen? ⟨w.heap.size + 1, 1, none⟩ = false ∧ W.frozen? ⟨w.heap.size + 1, 2, none⟩ = false :=
  ⟨cell_of_row _ _ 0 _ _ _ h.2.1, cell_of_row _ _ 1 _ _ _ h.2.1, cell_of_row _ _ 2 _ _ _ h.2.1, frozen_of_row _ _ 0 _ _ h.2.1, frozen_of_row _ _ 1 _ _ h.2.1, frozen_of_row _ _ 2 _ _ h.2.1⟩
theorem TwoTok.start (w : World) (k : Int) (S : ByteArray) (a : Int) : TwoTok w k S a ((w.alloc (.cells #[.int .i64 0, .string ⟨#[]⟩, .int .i64 0] 105)).alloc (.cells #[.int .i64 k, .string S, .int .i64 a] 105)) := by
  refine ⟨?_, ?_, (below1 w _).alloc (by simp) _⟩
  · rw [heap_alloc_old _ _ (by simp)]
    exact heap_alloc_new w _
  · have h := heap_alloc_new (w.alloc (.cells #[.int .i64 0, .string ⟨#[]⟩, .int .i64 0] 105)) (.cells #[.int .i64 k, .string S, .int .i64 a] 105)
    rw [World.size_alloc] at h
    exact h
theorem TwoTok.keep {w W W' : World} {k a : Int} {S : ByteArray} (h : TwoTok w k S a W) (hB : Below W.heap.size W W') : TwoTok w k S a W' :=
  ⟨(hB.block _ (heap_lt h.1)).trans h.1, (hB.block _ (heap_lt h.2.1)).trans h.2.1, h.2.2.trans (hB.mono h.2.2.size)⟩
theorem TwoTok.setS {w W : World} {k a : Int} {S : ByteArray} (h : TwoTok w k S a W) (T : ByteArray) : TwoTok w k T a (W.setCell ⟨w.heap.size + 1, 1, none⟩ (.string T)) := by
  refine ⟨(heap_setFar _ (by omega)).trans h.1, ?_, h.2.2.setCell (p := ⟨w.heap.size + 1, 1, none⟩) (Nat.le_succ _) _⟩
  rw [setCell_eq_setRow W _ 1 _ 105 _ _ h.2.1, setRow_heap W _ _ _ 105 _ h.2.1]
  rfl
theorem TwoTok.setK {w W : World} {k a : Int} {S : ByteArray} (h : TwoTok w k S a W) (j : Int) : TwoTok w j S a (W.setCell ⟨w.heap.size + 1, 0, none⟩ (.int .i64 j)) := by
  refine ⟨(heap_setFar _ (by omega)).trans h.1, ?_, h.2.2.setCell (p := ⟨w.heap.size + 1, 0, none⟩) (Nat.le_succ _) _⟩
  rw [setCell_eq_setRow W _ 0 _ 105 _ _ h.2.1, setRow_heap W _ _ _ 105 _ h.2.1]
  rfl
theorem TwoTok.done {w W : World} {k a : Int} {S : ByteArray} (h : TwoTok w k S a W) (x y z : Value) : Below w.heap.size w (((W.setCell ⟨w.heap.size, 0, none⟩ x).setCell ⟨w.heap.size, 1, none⟩ y).setCell ⟨w.heap.size, 2, none⟩ z) :=
  ((h.2.2.setCell (p := ⟨w.heap.size, 0, none⟩) (Nat.le_refl _) _).setCell (p := ⟨w.heap.size, 1, none⟩) (Nat.le_refl _) _).setCell (p := ⟨w.heap.size, 2, none⟩) (Nat.le_refl _) _
theorem TwoTok.below {w W : World} {k a : Int} {S : ByteArray} (h : TwoTok w k S a W) : Below w.heap.size w W := h.2.2
theorem TwoTok.drew {w W : World} {k a : Int} {S : ByteArray} (h : TwoTok w k S a W) : TwoTok w k S a W.drew := ⟨h.1, h.2.1, h.2.2.drew⟩
def wordV (k : Int) (S : ByteArray) (a q er : Int) : Value := .tuple #[tokV k S a, .int .i64 q, .int .i64 er]

def WordAt (l : List UInt8) (k : Int) (S : ByteArray) (n : Nat) (er : Int) : Prop :=
  (l = [] ∧ k = 0 ∧ er = 0 ∧ S = ⟨#[]⟩ ∧ n = 0) ∨
  (∃ c r, l = c :: r ∧ letP (c.toNat : Int) = true ∧ n = spanR namP l ∧ 1 ≤ n ∧ n ≤ l.length ∧ er = 0 ∧ ((kwR (l.take n) ≠ [] ∧ k = 2 ∧ S = ⟨(kwR (l.take n)).toArray⟩) ∨ (kwR (l.take n) = [] ∧ k = 1 ∧ S.data.toList = l.take n))) ∨
  (∃ c r, l = c :: r ∧ letP (c.toNat : Int) = false ∧ (c.toNat = 44 ∨ c.toNat = 46 ∨ c.toNat = 61) ∧ k = 6 ∧ n = 1 ∧ er = 0 ∧ S.data.toList = [c])
def RWordP (s : ByteArray) (p : Nat) (w : World) (e : Ending) (w' : World) : Prop := ∃ (k er : Int) (S : ByteArray) (n : Nat), e = .returned (wordV k S p ((p + n : Nat) : Int) er) ∧ Below w.heap.size w w' ∧ WordAt (s.data.toList.drop p) k S n er
theorem drop_first {s : ByteArray} {p : Nat} (h0 : p < s.size) : ∃ r, s.data.toList.drop p = s[p] :: r := by
  refine ⟨s.data.toList.drop (p + 1), ?_⟩
  rw [List.drop_eq_getElem_cons (by show p < s.data.toList.length; rw [Array.length_toList]; exact h0)]
  rfl
set_option maxRecDepth 100000 in
set_option maxHeartbeats 8000000 in
theorem rword_end (s : ByteArray) (p : Nat) (w : World) (h0 : p = s.size) : Calls Tryz.prog 52 #[.string s, .int .i64 (p : Int)] w (RWordP s p w) := by
  have HE := Lib.hid (show s.data.toList.drop p = [] by rw [List.drop_eq_nil_iff]; show s.data.toList.length ≤ p; rw [Array.length_toList, h0]; exact Nat.le_refl _)
  subst h0
  go_enter Tryz.func52, Tryz.ntmps52
  go_wp2_with fail
  exact bodyPost_ret (v := wordV 0 ⟨#[]⟩ s.size ((s.size + 0 : Nat) : Int) 0) (by simp [results, Tryz.results52, go_sem, wordV, tokV]) rfl ⟨0, 0, ⟨#[]⟩, 0, rfl, (below1 w _).alloc (by simp) _, Or.inl ⟨HE.out, rfl, rfl, rfl, rfl⟩⟩
set_option maxRecDepth 100000 in
set_option maxHeartbeats 8000000 in
theorem rword_letter (s : ByteArray) (p : Nat) (w : World) (h0 : p < s.size) (hs : s.size ≤ 200) (hn12 : spanR namP (s.data.toList.drop p) ≤ 12) (hl : letP (s[p].toNat : Int) = true) : Calls Tryz.prog 52 #[.string s, .int .i64 (p : Int)] w (RWordP s p w) := by
  have hp : ((p : Int) == (s.size : Int)) = false := by rw [beq_eq_false_iff_ne]; omega
  have hsl : s.data.toList.length = s.size := by show _ = s.data.size; simp
  obtain ⟨c, hc⟩ : ∃ c, c = s[p] := ⟨_, rfl⟩
  have hkc : s[p] = c := hc.symm
  rw [hkc] at hl
  have hc255 : (c.toNat : Int) ≤ 255 := by have := c.toNat_lt; omega
  have hc0 : (0 : Int) ≤ (c.toNat : Int) := by omega
  have HK := Lib.hid (fun W => kind_any (c.toNat : Int) W)
  rw [kindZ_let hl] at HK
  obtain ⟨n, hn⟩ : ∃ n, n = spanR namP (s.data.toList.drop p) := ⟨_, rfl⟩
  have HN := Lib.hid hn
  have HSL := Lib.hid hsl
  have HC := Lib.hid (show ∃ r, s.data.toList.drop p = c :: r from by rw [hc]; exact drop_first h0)
  have HL := Lib.hid hl
  have hle := spanR_le namP (s.data.toList.drop p)
  rw [← hn, List.length_drop, hsl] at hle
  rw [← hn] at hn12
  have hn1 : 1 ≤ n := by
    obtain ⟨r, hr⟩ := HC.out
    rw [hn, hr]
    unfold spanR
    rw [List.takeWhile_cons, if_pos (by unfold namP; rw [hl]; rfl)]
    simp
  clear hn hsl hc hl
  go_enter Tryz.func52, Tryz.ntmps52
  go_wp2_with (first
    | (go_at_call 51; (with_reducible refine (HK.out _).mono ?_); rintro e' w4 ⟨rfl, rfl⟩)
    | fail)
  go_loop [8] (fun i => ∃ k : Nat, p ≤ k ∧ k ≤ s.size ∧ i = .int .i64 k ∧ Hid (∀ j d, j < k - p → (s.data.toList.drop p)[j]? = some d → namP (d.toNat : Int) = true)) (fun i => s.size - (intOf i).toNat)
  case atStart => exact ⟨p, Nat.le_refl _, Nat.le_of_lt h0, rfl, Lib.hid (fun j d h => absurd h (by omega))⟩
  case round =>
    obtain ⟨k, hpk, hk, rfl, HC1⟩ := hrel
    by_cases hgo : ∃ h : k < s.size, namP (s[k].toNat : Int) = true
    · obtain ⟨hlt, hq⟩ := hgo
      obtain ⟨d, hd⟩ : ∃ d, d = s[k] := ⟨_, rfl⟩
      have hkd : s[k] = d := hd.symm
      rw [hkd] at hq
      have HC2 := Lib.hid (show ∀ j d, j < k + 1 - p → (s.data.toList.drop p)[j]? = some d → namP (d.toNat : Int) = true from fun j d' h1 h2 => by
        by_cases e : j = k - p
        · subst e
          rw [List.getElem?_drop, show p + (k - p) = k by omega, Array.getElem?_toList, Array.getElem?_eq_getElem (show k < s.data.size from hlt)] at h2
          cases h2
          exact hkd ▸ hq
        · exact HC1.out j d' (by omega) h2)
      have HKD := Lib.hid (fun W => kind_any (d.toNat : Int) W)
      have h1 := kindZ_is1 (d.toNat : Int)
      have h2 := kindZ_is2 (d.toNat : Int)
      have hd255 : (d.toNat : Int) ≤ 255 := by have := d.toNat_lt; omega
      have hd0 : (0 : Int) ≤ (d.toNat : Int) := by omega
      have hor : letP (d.toNat : Int) = true ∨ (letP (d.toNat : Int) = false ∧ digP (d.toNat : Int) = true) := by
        unfold namP at hq
        cases h : letP (d.toNat : Int) with
        | true => exact Or.inl rfl
        | false => rw [h] at hq; exact Or.inr ⟨rfl, hq⟩
      generalize kindZ (d.toNat : Int) = z at HKD h1 h2
      clear hq hd
      rcases hor with ho | ⟨ho, ho2⟩
      · rw [ho] at h1
        clear h2
        go_wp2_with (first
          | (go_at_call 51; (with_reducible refine (HKD.out _).mono ?_); rintro e' w4 ⟨rfl, rfl⟩)
          | fail)
        go_round
        case rel => exact ⟨k + 1, by omega, by omega, by go_num, HC2⟩
        case measure => simp [intOf] <;> omega
      · rw [ho] at h1
        rw [ho2] at h2
        go_wp2_with (first
          | (go_at_call 51; (with_reducible refine (HKD.out _).mono ?_); rintro e' w4 ⟨rfl, rfl⟩)
          | fail)
        go_round
        case rel => exact ⟨k + 1, by omega, by omega, by go_num, HC2⟩
        case measure => simp [intOf] <;> omega
    · have HE := Lib.hid (show k = p + n by
        by_cases hlt : k < s.size
        · have hq : namP (s[k].toNat : Int) = false := by
            cases h : namP (s[k].toNat : Int) with
            | false => rfl
            | true => exact absurd ⟨hlt, h⟩ hgo
          have h := span_stop namP (l := s.data.toList.drop p) (k := k - p) (c := s[k]) HC1.out (by rw [List.getElem?_drop, show p + (k - p) = k by omega, Array.getElem?_toList]; exact Array.getElem?_eq_getElem hlt) hq
          rw [HN.out, h]; omega
        · have h := span_all namP (l := s.data.toList.drop p) (fun j d h1 h2 => HC1.out j d (by rw [List.length_drop, HSL.out] at h1; omega) h2)
          rw [HN.out, h, List.length_drop, HSL.out]; omega)
      have hno : (((k : Int) < (s.size : Int)) = False) ∨ ∃ (h : k < s.size) (d : UInt8), s[k] = d ∧ (kindZ (d.toNat : Int) == 1) = false ∧ (kindZ (d.toNat : Int) == 2) = false := by
        by_cases h : k < s.size
        · right
          refine ⟨h, _, rfl, ?_, ?_⟩
          · rw [kindZ_is1]
            cases h3 : letP (s[k].toNat : Int) with
            | false => rfl
            | true => exact absurd ⟨h, by unfold namP; rw [h3]; rfl⟩ hgo
          · rw [kindZ_is2]
            cases h3 : digP (s[k].toNat : Int) with
            | false => rfl
            | true => exact absurd ⟨h, by unfold namP; rw [h3, Bool.or_true]⟩ hgo
        · exact Or.inl (eq_false (by omega))
      obtain ⟨V, hV⟩ : ∃ V, V = s.extract p k := ⟨_, rfl⟩
      have HVL := Lib.hid (show V.data.toList = (s.data.toList.drop p).take n by
        rw [hV, ByteArray.data_extract, Array.toList_extract, List.extract_eq_take_drop, HE.out, show p + n - p = n by omega])
      have hw2 : ∀ W, (Instr.slice 9 (.string s) (some (.int .i64 (p : Int))) (some (.int .i64 (k : Int))) none).run Tryz.prog W = .ok (.string V) W := fun W => by rw [hV]; exact slice_str s _ _ p k rfl rfl (by omega) (by omega) W
      have HVS := Lib.hid (show V.size ≤ 200 by rw [hV, ByteArray.size_extract]; omega)
      have HKW := Lib.hid (fun (W : World) => rkeyword_any V W HVS.out)
      have HST := Lib.hid (TwoTok.start w 1 V p).drew
      have HEN := Lib.hid (show ((p + n : Nat) : Int) = (k : Int) by have := HE.out; omega)
      have h12 : ((12 : Int) < (k : Int) - (p : Int)) = False := eq_false (by have := HE.out; omega)
      have HWA := Lib.hid (show kwR V.data.toList = [] → WordAt (s.data.toList.drop p) 1 V n 0 from fun h => by
        obtain ⟨r, hr⟩ := HC.out
        refine Or.inr (Or.inl ⟨c, r, hr, HL.out, HN.out, hn1, by rw [List.length_drop, HSL.out]; omega, rfl, Or.inr ⟨by rw [← HVL.out]; exact h, rfl, HVL.out⟩⟩))
      have HWB := Lib.hid (show kwR V.data.toList ≠ [] → WordAt (s.data.toList.drop p) 2 ⟨(kwR V.data.toList).toArray⟩ n 0 from fun h => by
        obtain ⟨r, hr⟩ := HC.out
        refine Or.inr (Or.inl ⟨c, r, hr, HL.out, HN.out, hn1, by rw [List.length_drop, HSL.out]; omega, rfl, Or.inl ⟨by rw [← HVL.out]; exact h, rfl, by rw [← HVL.out]⟩⟩))
      generalize kwR V.data.toList = ku at HKW HWA HWB
      clear hgo hV
      by_cases hk0 : ku = []
      · subst hk0
        have HWA2 := Lib.hid (HWA.out rfl)
        clear HWA HWB
        have HKW := Lib.hid (show ∀ W, Calls Tryz.prog 76 #[.string V] W (RetV (.string ⟨#[]⟩) W) from HKW.out)
        rcases hno with hno | ⟨hlt, d, hd, hd1, hd2⟩
        · go_wp2_with fail
          go_region
          go_wp2_with (first
            | (go_at_call 76; (with_reducible refine (HKW.out _).mono ?_); rintro e' w5 ⟨rfl, hB5⟩; have HT := Lib.hid (HST.out.keep hB5); obtain ⟨q0, q1, q2, f0, f1, f2⟩ := HT.out.ans; obtain ⟨r0, r1, r2, g0, g1, g2⟩ := HT.out.tok; clear hB5)
            | fail)
          refine bodyPost_ret (v := wordV 1 V p k 0) (by simp [results, Tryz.results52, go_sem, q0, q1, q2, wordV, tokV]) rfl ⟨1, 0, V, n, by rw [HEN.out], HT.out.done _ _ _, HWA2.out⟩
        · have hd255 : (d.toNat : Int) ≤ 255 := by have := d.toNat_lt; omega
          have hd0 : (0 : Int) ≤ (d.toNat : Int) := by omega
          have HKD := Lib.hid (fun W => kind_any (d.toNat : Int) W)
          generalize kindZ (d.toNat : Int) = z at HKD hd1 hd2
          go_wp2_with (first
            | (go_at_call 51; (with_reducible refine (HKD.out _).mono ?_); rintro e' w4 ⟨rfl, rfl⟩)
            | fail)
          go_region
          go_wp2_with (first
            | (go_at_call 76; (with_reducible refine (HKW.out _).mono ?_); rintro e' w5 ⟨rfl, hB5⟩; have HT := Lib.hid (HST.out.keep hB5); obtain ⟨q0, q1, q2, f0, f1, f2⟩ := HT.out.ans; obtain ⟨r0, r1, r2, g0, g1, g2⟩ := HT.out.tok; clear hB5)
            | fail)
          refine bodyPost_ret (v := wordV 1 V p k 0) (by simp [results, Tryz.results52, go_sem, q0, q1, q2, wordV, tokV]) rfl ⟨1, 0, V, n, by rw [HEN.out], HT.out.done _ _ _, HWA2.out⟩
      · obtain ⟨KU, hKU⟩ : ∃ KU : ByteArray, KU = ⟨ku.toArray⟩ := ⟨_, rfl⟩
        have hne : (KU.toList == []) = false := text_ne (by rw [hKU]; show 0 < ku.toArray.size; simp; exact List.length_pos_iff.2 hk0)
        have HWB := Lib.hid (show WordAt (s.data.toList.drop p) 2 KU n 0 by rw [hKU]; exact HWB.out hk0)
        rw [← hKU] at HKW
        clear hk0 hKU
        rcases hno with hno | ⟨hlt, d, hd, hd1, hd2⟩
        · go_wp2_with fail
          go_region
          go_wp2_with (first
            | (go_at_call 76; (with_reducible refine (HKW.out _).mono ?_); rintro e' w5 ⟨rfl, hB5⟩; have HT := Lib.hid (HST.out.keep hB5); obtain ⟨q0, q1, q2, f0, f1, f2⟩ := HT.out.ans; obtain ⟨r0, r1, r2, g0, g1, g2⟩ := HT.out.tok; clear hB5)
            | fail)
          refine bodyPost_ret (v := wordV 2 KU p k 0) (by simp [results, Tryz.results52, go_sem, q0, q1, q2, wordV, tokV]) rfl ⟨2, 0, KU, n, by rw [HEN.out], ((HT.out.setK 2).setS KU).done _ _ _, HWB.out⟩
        · have hd255 : (d.toNat : Int) ≤ 255 := by have := d.toNat_lt; omega
          have hd0 : (0 : Int) ≤ (d.toNat : Int) := by omega
          have HKD := Lib.hid (fun W => kind_any (d.toNat : Int) W)
          generalize kindZ (d.toNat : Int) = z at HKD hd1 hd2
          go_wp2_with (first
            | (go_at_call 51; (with_reducible refine (HKD.out _).mono ?_); rintro e' w4 ⟨rfl, rfl⟩)
            | fail)
          go_region
          go_wp2_with (first
            | (go_at_call 76; (with_reducible refine (HKW.out _).mono ?_); rintro e' w5 ⟨rfl, hB5⟩; have HT := Lib.hid (HST.out.keep hB5); obtain ⟨q0, q1, q2, f0, f1, f2⟩ := HT.out.ans; obtain ⟨r0, r1, r2, g0, g1, g2⟩ := HT.out.tok; clear hB5)
            | fail)
          refine bodyPost_ret (v := wordV 2 KU p k 0) (by simp [results, Tryz.results52, go_sem, q0, q1, q2, wordV, tokV]) rfl ⟨2, 0, KU, n, by rw [HEN.out], ((HT.out.setK 2).setS KU).done _ _ _, HWB.out⟩

end Go.Proofs.YthdmfaepjemopaaGreatDoor
namespace Go.Proofs.YthdmfaepjemopaaGreatDoor
open Go.RowKit

def sgL : List UInt8 := [40, 41, 44, 46, 61, 60, 62, 43, 45, 42, 59]
theorem two_ne {s : ByteArray} {p : Nat} {c a b : UInt8} (h : p + 1 < s.size) (hc : s[p]'(by omega) = c) (hca : c ≠ a) : ((s.extract p (p + 2)).toList == [a, b]) = false := by
  rw [beq_eq_false_iff_ne]
  intro e
  have e2 : (s.extract p (p + 2)).data.toList = [a, b] := by rw [← ByteArray.toList_eq]; exact e
  rw [ByteArray.data_extract, Array.toList_extract, List.extract_eq_take_drop] at e2
  have e3 := congrArg (fun l => l[0]?) e2
  rw [List.getElem?_take_of_lt (by omega), List.getElem?_drop, Array.getElem?_toList, Array.getElem?_eq_getElem (show p + 0 < s.data.size by have : s.data.size = s.size := rfl; omega)] at e3
  have e4 : s[p]'(by omega) = a := Option.some.inj e3
  exact hca (hc.symm.trans e4)
set_option maxRecDepth 100000 in
set_option maxHeartbeats 8000000 in
theorem rword_sign (s : ByteArray) (p : Nat) (w : World) (htwo : p + 1 < s.size) (hs : s.size ≤ 200) (hc3 : (s[p]'(by omega)).toNat = 44 ∨ (s[p]'(by omega)).toNat = 46 ∨ (s[p]'(by omega)).toNat = 61) : Calls Tryz.prog 52 #[.string s, .int .i64 (p : Int)] w (RWordP s p w) := by
  have h0 : p < s.size := by omega
  have hp : ((p : Int) == (s.size : Int)) = false := by rw [beq_eq_false_iff_ne]; omega
  obtain ⟨c, hc⟩ : ∃ c, c = s[p] := ⟨_, rfl⟩
  have hkc : s[p] = c := hc.symm
  rw [hkc] at hc3
  have hl : letP (c.toNat : Int) = false := by rcases hc3 with h | h | h <;> rw [h] <;> decide
  have hd : digP (c.toNat : Int) = false := by rcases hc3 with h | h | h <;> rw [h] <;> decide
  have hc255 : (c.toNat : Int) ≤ 255 := by have := c.toNat_lt; omega
  have hc0 : (0 : Int) ≤ (c.toNat : Int) := by omega
  have hc39 : ((c.toNat : Int) == 39) = false := by rw [beq_eq_false_iff_ne]; omega
  have HK := Lib.hid (fun W => kind_any (c.toNat : Int) W)
  have h1 : (kindZ (c.toNat : Int) == 1) = false := by rw [kindZ_is1]; exact hl
  have h2 : (kindZ (c.toNat : Int) == 2) = false := by rw [kindZ_is2]; exact hd
  generalize kindZ (c.toNat : Int) = z at HK h1 h2
  have HST := Lib.hid (TwoTok.start w 6 ⟨#[]⟩ p)
  have hn60 : c ≠ 60 := fun e => by rw [e] at hc3; revert hc3; decide
  have hn62 : c ≠ 62 := fun e => by rw [e] at hc3; revert hc3; decide
  obtain ⟨T, hT⟩ : ∃ T, T = s.extract p (p + 2) := ⟨_, rfl⟩
  have hw2 : ∀ W, (Instr.slice 9 (.string s) (some (.int .i64 (p : Int))) (some (.int .i64 ((p : Int) + 2))) none).run Tryz.prog W = .ok (.string T) W := fun W => by rw [hT]; exact slice_str s _ _ p (p + 2) rfl (by omega) (by omega) (by omega) W
  have hlt : ((p : Int) + 1 < (s.size : Int)) = True := eq_true (by omega)
  have hwr : IntKind.i64.wrap ((p : Int) + 2) = (p : Int) + 2 := IntWalk.i64_in _ (by omega)
  have hb1 : (T.toList == [60, 62]) = false := by rw [hT]; exact two_ne htwo hkc hn60
  have hb2 : (T.toList == [60, 61]) = false := by rw [hT]; exact two_ne htwo hkc hn60
  have hb3 : (T.toList == [62, 61]) = false := by rw [hT]; exact two_ne htwo hkc hn62
  have HWD := Lib.hid (show WordAt (s.data.toList.drop p) 6 (s.extract p (p + 1)) 1 0 from by
    obtain ⟨r, hr⟩ := drop_first h0
    rw [hkc] at hr
    refine Or.inr (Or.inr ⟨c, r, hr, hl, hc3, rfl, rfl, rfl, ?_⟩)
    rw [ByteArray.data_extract, Array.toList_extract, List.extract_eq_take_drop, hr, show p + 1 - p = 1 by omega]
    rfl)
  have HC3 := Lib.hid hc3
  clear hl hd hc hT hc3 hn60 hn62
  go_enter Tryz.func52, Tryz.ntmps52
  go_wp2_with (first
    | (go_at_call 51; (with_reducible refine (HK.out _).mono ?_); rintro e' w4 ⟨rfl, rfl⟩)
    | fail)
  go_loopw [11] (fun i wr => ∃ (k : Nat), k ≤ 11 ∧ i = .int .i64 k ∧ Hid (TwoTok w 6 ⟨#[]⟩ p wr) ∧ Hid (∀ j, j < k → (sgL[j]?).map UInt8.toNat ≠ some c.toNat)) (fun i _ => 11 - (intOf i).toNat)
  case atStart => exact ⟨0, Nat.zero_le _, rfl, HST, Lib.hid (fun j h => absurd h (by omega))⟩
  case round =>
    obtain ⟨k, hk, rfl, HB, HI⟩ := hrel
    obtain ⟨wo, rfl⟩ : ∃ wo : World, wo = wr := ⟨_, rfl⟩
    obtain ⟨q0, q1, q2, f0, f1, f2⟩ := HB.out.ans
    obtain ⟨r0, r1, r2, g0, g1, g2⟩ := HB.out.tok
    by_cases hlt : k < 11
    · obtain ⟨d, hd⟩ : ∃ d, d = (⟨#[40, 41, 44, 46, 61, 60, 62, 43, 45, 42, 59]⟩ : ByteArray)[k]'hlt := ⟨_, rfl⟩
      have hkd : (⟨#[40, 41, 44, 46, 61, 60, 62, 43, 45, 42, 59]⟩ : ByteArray)[k]'hlt = d := hd.symm
      have hd255 : (d.toNat : Int) ≤ 255 := by have := d.toNat_lt; omega
      have hd0 : (0 : Int) ≤ (d.toNat : Int) := by omega
      have HD := Lib.hid HB.out.drew
      have HKD := Lib.hid (show sgL[k]? = some d from by rw [hd]; exact List.getElem?_eq_getElem (l := sgL) hlt)
      clear hd
      cases he : ((d.toNat : Int) == (c.toNat : Int)) with
      | true =>
        obtain ⟨V, hV⟩ : ∃ V, V = s.extract p (p + 1) := ⟨_, rfl⟩
        have hw3 : ∀ W, (Instr.slice 9 (.string s) (some (.int .i64 (p : Int))) (some (.int .i64 ((p : Int) + 1))) none).run Tryz.prog W = .ok (.string V) W := fun W => by rw [hV]; exact slice_str s _ _ p (p + 1) rfl (by omega) (by omega) (by omega) W
        rw [← hV] at HWD
        clear hV
        go_wp2_with fail
        go_region
        go_wp2_with fail
        exact bodyPost_ret (v := wordV 6 V p ((p + 1 : Nat) : Int) 0) (by simp [results, Tryz.results52, go_sem, q0, q1, q2, wordV, tokV]) rfl ⟨6, 0, V, 1, rfl, (HB.out.drew.setS V).done _ _ _, HWD.out⟩
      | false =>
        have HI2 := Lib.hid (show ∀ j, j < k + 1 → (sgL[j]?).map UInt8.toNat ≠ some c.toNat from fun j hj => by
          by_cases e : j = k
          · subst e
            rw [HKD.out]
            intro h
            have h2 : d.toNat = c.toNat := Option.some.inj h
            rw [beq_eq_false_iff_ne] at he
            exact he (by rw [h2])
          · exact HI.out j (by omega))
        go_wp2_with fail
        go_region
        go_wp2_with fail
        go_roundw
        case rel => exact ⟨k + 1, by omega, by go_num, HD, HI2⟩
        case measure => simp [intOf] <;> omega
    · exfalso
      rcases HC3.out with h | h | h
      · exact HI.out 2 (by omega) (by rw [h]; rfl)
      · exact HI.out 3 (by omega) (by rw [h]; rfl)
      · exact HI.out 4 (by omega) (by rw [h]; rfl)
end Go.Proofs.YthdmfaepjemopaaGreatDoor
namespace Go.Proofs.YthdmfaepjemopaaGreatDoor
open Go.RowKit

def WX (p q : Nat) (k : Int) (S : ByteArray) (w : World) (e : Ending) (w' : World) : Prop := e = .returned (wordV k S p (q : Nat) 0) ∧ Below w.heap.size w w'
theorem letter_x (s : ByteArray) (p n0 : Nat) (k0 : Int) (S0 : ByteArray) (w : World) (h0 : p < s.size) (hs : s.size ≤ 200) (hl : letP (s[p].toNat : Int) = true) (hn : spanR namP (s.data.toList.drop p) = n0) (hn12 : n0 ≤ 12) (hk : (kwR ((s.data.toList.drop p).take n0) ≠ [] ∧ k0 = 2 ∧ S0 = ⟨(kwR ((s.data.toList.drop p).take n0)).toArray⟩) ∨ (kwR ((s.data.toList.drop p).take n0) = [] ∧ k0 = 1 ∧ S0.data.toList = (s.data.toList.drop p).take n0)) : Calls Tryz.prog 52 #[.string s, .int .i64 (p : Int)] w (WX p (p + n0) k0 S0 w) := by
  refine (rword_letter s p w h0 hs (by rw [hn]; exact hn12) hl).mono ?_
  rintro e w' ⟨k, er, S, n, rfl, hB, hW⟩
  obtain ⟨r0, hr0⟩ := drop_first h0
  rcases hW with ⟨h, _⟩ | ⟨c, r, h, hc, hnn, _, _, rfl, hk2⟩ | ⟨c, r, h, hc, _⟩
  · rw [hr0] at h; cases h
  · rw [hn] at hnn
    subst hnn
    rcases hk with ⟨g1, rfl, rfl⟩ | ⟨g1, rfl, g2⟩ <;> rcases hk2 with ⟨h1, rfl, rfl⟩ | ⟨h1, rfl, h2⟩
    · exact ⟨rfl, hB⟩
    · exact absurd h1 g1
    · exact absurd g1 h1
    · have : S = S0 := ByteArray.ext (Array.toList_inj.1 (h2.trans g2.symm))
      subst this
      exact ⟨rfl, hB⟩
  · rw [hr0] at h
    cases h
    rw [hl] at hc
    cases hc
theorem sign_x (s : ByteArray) (p : Nat) (S0 : ByteArray) (w : World) (htwo : p + 1 < s.size) (hs : s.size ≤ 200) (hc3 : (s[p]'(by omega)).toNat = 44 ∨ (s[p]'(by omega)).toNat = 46 ∨ (s[p]'(by omega)).toNat = 61) (hl : letP ((s[p]'(by omega)).toNat : Int) = false) (hS : S0.data.toList = [s[p]'(by omega)]) : Calls Tryz.prog 52 #[.string s, .int .i64 (p : Int)] w (WX p (p + 1) 6 S0 w) := by
  refine (rword_sign s p w htwo hs hc3).mono ?_
  rintro e w' ⟨k, er, S, n, rfl, hB, hW⟩
  obtain ⟨r0, hr0⟩ := drop_first (show p < s.size by omega)
  rcases hW with ⟨h, _⟩ | ⟨c, r, h, hc, _⟩ | ⟨c, r, h, _, _, rfl, rfl, rfl, h2⟩
  · rw [hr0] at h; cases h
  · rw [hr0] at h
    cases h
    rw [hl] at hc
    cases hc
  · rw [hr0] at h
    cases h
    have : S = S0 := ByteArray.ext (Array.toList_inj.1 (h2.trans hS.symm))
    subst this
    exact ⟨rfl, hB⟩
theorem end_x (s : ByteArray) (p : Nat) (w : World) (h0 : p = s.size) : Calls Tryz.prog 52 #[.string s, .int .i64 (p : Int)] w (WX p p 0 ⟨#[]⟩ w) := by
  refine (rword_end s p w h0).mono ?_
  rintro e w' ⟨k, er, S, n, rfl, hB, hW⟩
  have hd : s.data.toList.drop p = [] := by rw [List.drop_eq_nil_iff]; show s.data.toList.length ≤ p; rw [Array.length_toList, h0]; exact Nat.le_refl _
  rcases hW with ⟨_, rfl, rfl, rfl, rfl⟩ | ⟨c, r, h, _⟩ | ⟨c, r, h, _⟩
  · exact ⟨rfl, hB⟩
  · rw [hd] at h; cases h
  · rw [hd] at h; cases h
def txt : ByteArray := ⟨#[83, 69, 76, 69, 67, 84, 32, 98, 32, 70, 82, 79, 77, 32, 116, 44, 32, 117, 32, 87, 72, 69, 82, 69, 32, 116, 46, 97, 32, 61, 32, 117, 46, 97]⟩
def posN (i : Nat) : Nat := [0, 6, 8, 13, 15, 16, 18, 24, 26, 27, 28, 30, 32, 33, 34, 34].getD i 34
theorem word_at (i : Nat) (w : World) (hi : i < 15) : ∃ t, tks[i]? = some t ∧ ∃ p : Nat, t.2.2 = p ∧ posN i + spanR blaP (txt.data.toList.drop (posN i)) = p ∧ Calls Tryz.prog 52 #[.string txt, .int .i64 (p : Int)] w (WX p (posN (i + 1)) t.1 t.2.1 w) := by
  have : i = 0 ∨ i = 1 ∨ i = 2 ∨ i = 3 ∨ i = 4 ∨ i = 5 ∨ i = 6 ∨ i = 7 ∨ i = 8 ∨ i = 9 ∨ i = 10 ∨ i = 11 ∨ i = 12 ∨ i = 13 ∨ i = 14 := by omega
  rcases this with rfl | rfl | rfl | rfl | rfl | rfl | rfl | rfl | rfl | rfl | rfl | rfl | rfl | rfl | rfl
  · exact ⟨_, rfl, 0, rfl, by decide +kernel, letter_x txt 0 6 2 _ w (by decide) (by decide) (by decide +kernel) (by decide +kernel) (by decide) (Or.inl (by decide +kernel))⟩
  · exact ⟨_, rfl, 7, rfl, by decide +kernel, letter_x txt 7 1 1 _ w (by decide) (by decide) (by decide +kernel) (by decide +kernel) (by decide) (Or.inr (by decide +kernel))⟩
  · exact ⟨_, rfl, 9, rfl, by decide +kernel, letter_x txt 9 4 2 _ w (by decide) (by decide) (by decide +kernel) (by decide +kernel) (by decide) (Or.inl (by decide +kernel))⟩
  · exact ⟨_, rfl, 14, rfl, by decide +kernel, letter_x txt 14 1 1 _ w (by decide) (by decide) (by decide +kernel) (by decide +kernel) (by decide) (Or.inr (by decide +kernel))⟩
  · exact ⟨_, rfl, 15, rfl, by decide +kernel, sign_x txt 15 _ w (by decide) (by decide) (by decide +kernel) (by decide +kernel) (by decide +kernel)⟩
  · exact ⟨_, rfl, 17, rfl, by decide +kernel, letter_x txt 17 1 1 _ w (by decide) (by decide) (by decide +kernel) (by decide +kernel) (by decide) (Or.inr (by decide +kernel))⟩
  · exact ⟨_, rfl, 19, rfl, by decide +kernel, letter_x txt 19 5 2 _ w (by decide) (by decide) (by decide +kernel) (by decide +kernel) (by decide) (Or.inl (by decide +kernel))⟩
  · exact ⟨_, rfl, 25, rfl, by decide +kernel, letter_x txt 25 1 1 _ w (by decide) (by decide) (by decide +kernel) (by decide +kernel) (by decide) (Or.inr (by decide +kernel))⟩
  · exact ⟨_, rfl, 26, rfl, by decide +kernel, sign_x txt 26 _ w (by decide) (by decide) (by decide +kernel) (by decide +kernel) (by decide +kernel)⟩
  · exact ⟨_, rfl, 27, rfl, by decide +kernel, letter_x txt 27 1 1 _ w (by decide) (by decide) (by decide +kernel) (by decide +kernel) (by decide) (Or.inr (by decide +kernel))⟩
  · exact ⟨_, rfl, 29, rfl, by decide +kernel, sign_x txt 29 _ w (by decide) (by decide) (by decide +kernel) (by decide +kernel) (by decide +kernel)⟩
  · exact ⟨_, rfl, 31, rfl, by decide +kernel, letter_x txt 31 1 1 _ w (by decide) (by decide) (by decide +kernel) (by decide +kernel) (by decide) (Or.inr (by decide +kernel))⟩
  · exact ⟨_, rfl, 32, rfl, by decide +kernel, sign_x txt 32 _ w (by decide) (by decide) (by decide +kernel) (by decide +kernel) (by decide +kernel)⟩
  · exact ⟨_, rfl, 33, rfl, by decide +kernel, letter_x txt 33 1 1 _ w (by decide) (by decide) (by decide +kernel) (by decide +kernel) (by decide) (Or.inr (by decide +kernel))⟩
  · exact ⟨_, rfl, 34, rfl, by decide +kernel, end_x txt 34 w rfl⟩
end Go.Proofs.YthdmfaepjemopaaGreatDoor
namespace Go.Proofs.YthdmfaepjemopaaGreatDoor
open Go.RowKit

def LxP (w : World) (e : Ending) (w' : World) : Prop := ∃ g c : Nat, e = .returned (.tuple #[.slice (some ⟨g, 0, none⟩) 15 c, .int .i64 0, .int .i64 0]) ∧ Below w.heap.size w w' ∧ TksAt w' g 0
def PsP (w : World) (e : Ending) (w' : World) : Prop := ∃ (A1 A2 A3 : Option Addr) (k : Nat) (x y : Ex), e = .returned (.tuple #[.agg (stR (.slice A1 1 1) (.slice A2 2 k) (.slice A3 1 1)), .int .i64 0, .int .i64 0]) ∧ Below w.heap.size w w' ∧ SX w.heap.size w' A1 x ∧ w'.ownsRow w.heap.size 60 2 (.slice A2 2 k) 2 [.string wT, .string wT, .string wU, .string wU] ∧ SX w.heap.size w' A3 y ∧ x = colX ⟨#[]⟩ wB ∧ tst y
theorem Far.hi {n : Nat} {W W' : World} (h : Far n W W') {b i : Nat} (hb : W.heap.size ≤ b) (v : Value) : Far n W (W'.setCell ⟨b, i, none⟩ v) := ⟨by simpa using h.1, fun g h1 h2 => (heap_setFar _ (by omega)).trans (h.2 g h1 h2)⟩
theorem res_tii {fn : Func} {i j k : Nat} (h : fn.results = #[.cell i 33, .tmp j, .tmp k]) {tm : Array Value} {W : World} {eb : Nat} {s t : Value} (he : tm[i]?.getD undef = .pointer (some ⟨eb, 0, none⟩)) (hj : tm[j]?.getD undef = s) (hk : tm[k]?.getD undef = t) {u0 u1 u2 u3 u4 u5 u6 u7 u8 u9 u10 u11 : Value} {ty : TypeId} (h2 : W.heap[eb]? = some (.cells #[u0, u1, u2, u3, u4, u5, u6, u7, u8, u9, u10, u11] ty)) :
    (results fn tm).run Tryz.prog W = .ok (.tuple #[.agg #[u0, u1, u2, u3, u4, u5, u6, u7, u8, u9, u10, u11], s, t]) W := by
  have b0 := cell_of_row _ _ 0 _ _ _ h2
  have b1 := cell_of_row _ _ 1 _ _ _ h2
  have b2 := cell_of_row _ _ 2 _ _ _ h2
  have b3 := cell_of_row _ _ 3 _ _ _ h2
  have b4 := cell_of_row _ _ 4 _ _ _ h2
  have b5 := cell_of_row _ _ 5 _ _ _ h2
  have b6 := cell_of_row _ _ 6 _ _ _ h2
  have b7 := cell_of_row _ _ 7 _ _ _ h2
  have b8 := cell_of_row _ _ 8 _ _ _ h2
  have b9 := cell_of_row _ _ 9 _ _ _ h2
  have b10 := cell_of_row _ _ 10 _ _ _ h2
  have b11 := cell_of_row _ _ 11 _ _ _ h2
  simp [results, h, go_sem, he, hj, hk, b0, b1, b2, b3, b4, b5, b6, b7, b8, b9, b10, b11]
set_option maxHeartbeats 64000000 in
theorem parse_at (s : ByteArray) (m : Int) (w : World) (hL : ∀ W, Calls Tryz.prog 29 #[.string s, .int .i64 m] W (LxP W)) : Calls Tryz.prog 19 #[.string s, .int .i64 m] w (PsP w) := by
  have HL := Lib.hid hL
  clear hL
  go_enter Tryz.func19, Tryz.ntmps19
  go_wp2_with (first
    | (go_at_call 29; (with_reducible refine Calls.mono (HL.out _) ?_); rintro e w2 ⟨g, c, rfl, hB, hT⟩
       have H2 := Lib.hid ((BX.one w _).keep hB)
       have HT := Lib.hid hT
       clear hB hT)
    | (go_at_call 30; (with_reducible refine Calls.mono (stmt_at g 0 c _ HT.out) ?_); rintro e w4 ⟨A1, A2, A3, k2, x, y, rfl, hB, hS, hO, hS2, hP, hP2⟩
       have H4 := Lib.hid (H2.out.keep hB)
       have HT4 := Lib.hid (HT.out.keep hB)
       have hz := H2.out.size 0 (by simp)
       have SA4 := Lib.hid (hS.mono (m := w.heap.size + 1) (by omega))
       have SW4 := Lib.hid (hS2.mono (m := w.heap.size + 1) (by omega))
       have OW4 := Lib.hid (own_low (base' := w.heap.size + 1) hO (by omega))
       have HP := Lib.hid hP
       have HP2 := Lib.hid hP2
       clear hz hB hS hO hS2 hP hP2)
    | (go_at_call 31; (with_reducible refine Calls.mono (may_no g 0 c 14 14 rfl ⟨#[59]⟩ _ (HT4.out.keep (BX.two w4 _ _).below) (by omega) (by decide +kernel)) ?_); rintro e w5 ⟨rfl, hB⟩
       have H5 := Lib.hid (((H4.out.alloc _).alloc _).keep hB)
       have HH5 := Lib.hid (show BX w4 [.cells (pC g 0 c 14) 99, .cells (stR (.slice A1 1 1) (.slice A2 2 k2) (.slice A3 1 1)) 33] w5 from (BX.two w4 _ _).keep hB)
       have HT5 := Lib.hid ((HT4.out.keep (BX.two w4 _ _).below).keep hB)
       have hfar := (((Far.refl (w.heap.size + 1) w4).alloc _).alloc _).keep hB
       have SA5 := Lib.hid (SA4.out.far hfar)
       have SW5 := Lib.hid (SW4.out.far hfar)
       have OW5 := Lib.hid (own_kept (own_kept OW4.out (BX.two w4 _ _).below (Nat.le_refl _)) hB (Nat.le_refl _))
       obtain ⟨hb, -, q0, q1, q2⟩ := tok_at HT5.out (i := 14) rfl
       have hb4 := (tok_at HT4.out (i := 14) rfl).1
       have hw4 := H4.out.size 0 (by simp)
       simp only [Nat.reduceMul, Nat.zero_add] at q0 q1 q2
       have n1 : g ≠ w4.heap.size := by omega
       have n2 : w4.heap.size ≠ g := by omega
       have n3 : w.heap.size ≠ w4.heap.size := by omega
       have n4 : w4.heap.size ≠ w.heap.size := by omega
       obtain ⟨la, ra0, ra1, ra2, ra3, fa0, fa1, fa2, fa3⟩ := HH5.out.p4 0 rfl
       simp only [Nat.add_zero] at la ra0 ra1 ra2 ra3 fa0 fa1 fa2 fa3
       obtain ⟨lb, sb0, sb1, sb2, sb3, sb4, sb5, sb6, sb7, sb8, sb9, sb10, sb11, gb0, gb1, gb2, gb3, gb4, gb5, gb6, gb7, gb8, gb9, gb10, gb11⟩ := HH5.out.s12 1 rfl
       obtain ⟨lc, sc0, sc1, sc2, sc3, sc4, sc5, sc6, sc7, sc8, sc9, sc10, sc11, gc0, gc1, gc2, gc3, gc4, gc5, gc6, gc7, gc8, gc9, gc10, gc11⟩ := H5.out.s12 0 rfl
       simp only [Nat.add_zero] at lc sc0 sc1 sc2 sc3 sc4 sc5 sc6 sc7 sc8 sc9 sc10 sc11 gc0 gc1 gc2 gc3 gc4 gc5 gc6 gc7 gc8 gc9 gc10 gc11
       have HFR := Lib.hid hfar
       clear hB hfar hb4)
    | fail)
  have hw5 : w.heap.size + 1 ≤ w4.heap.size := hw4
  have hne : (Value.slice A2 2 k2).ownBlock ≠ some w4.heap.size := fun e => by have := (own_base OW4.out _ e).2; omega
  have HF := (((((H5.out).out (b := w4.heap.size) (i := 0) (v := .slice (some ⟨g, 0, none⟩) 15 c) hw5).out (b := w4.heap.size) (i := 1) (v := .int .i64 14) hw5).out (b := w4.heap.size) (i := 2) (v := .int .i64 0) hw5).out (b := w4.heap.size) (i := 3) (v := .int .i64 0) hw5).set12 (k := 0) (v0 := .int .i64 1) (v1 := .string ⟨#[]⟩) (v2 := .slice none 0 0) (v3 := .slice none 0 0) (v4 := .slice none 0 0) (v5 := .bool false) (v6 := .slice A1 1 1) (v7 := .slice A2 2 k2) (v8 := .slice A3 1 1) (v9 := .slice none 0 0) (v10 := .slice none 0 0) (v11 := .int .i64 (-1)) rfl
  have hfar := ((((((((((((((((HFR.out).hi (b := w4.heap.size) (i := 0) (Nat.le_refl _) (.slice (some ⟨g, 0, none⟩) 15 c)).hi (b := w4.heap.size) (i := 1) (Nat.le_refl _) (.int .i64 14)).hi (b := w4.heap.size) (i := 2) (Nat.le_refl _) (.int .i64 0)).hi (b := w4.heap.size) (i := 3) (Nat.le_refl _) (.int .i64 0)).set (b := w.heap.size) (i := 0) (by omega) (.int .i64 1)).set (b := w.heap.size) (i := 1) (by omega) (.string ⟨#[]⟩)).set (b := w.heap.size) (i := 2) (by omega) (.slice none 0 0)).set (b := w.heap.size) (i := 3) (by omega) (.slice none 0 0)).set (b := w.heap.size) (i := 4) (by omega) (.slice none 0 0)).set (b := w.heap.size) (i := 5) (by omega) (.bool false)).set (b := w.heap.size) (i := 6) (by omega) (.slice A1 1 1)).set (b := w.heap.size) (i := 7) (by omega) (.slice A2 2 k2)).set (b := w.heap.size) (i := 8) (by omega) (.slice A3 1 1)).set (b := w.heap.size) (i := 9) (by omega) (.slice none 0 0)).set (b := w.heap.size) (i := 10) (by omega) (.slice none 0 0)).set (b := w.heap.size) (i := 11) (by omega) (.int .i64 (-1))
  have hown := own_low (base' := w.heap.size) (own_far (own_far (own_far (own_far (own_far (own_far (own_far (own_far (own_far (own_far (own_far (own_far (own_ne (own_ne (own_ne (own_ne (OW5.out) (b := w4.heap.size) (i := 0) hne (.slice (some ⟨g, 0, none⟩) 15 c)) (b := w4.heap.size) (i := 1) hne (.int .i64 14)) (b := w4.heap.size) (i := 2) hne (.int .i64 0)) (b := w4.heap.size) (i := 3) hne (.int .i64 0)) (b := w.heap.size) (i := 0) (by omega) (.int .i64 1)) (b := w.heap.size) (i := 1) (by omega) (.string ⟨#[]⟩)) (b := w.heap.size) (i := 2) (by omega) (.slice none 0 0)) (b := w.heap.size) (i := 3) (by omega) (.slice none 0 0)) (b := w.heap.size) (i := 4) (by omega) (.slice none 0 0)) (b := w.heap.size) (i := 5) (by omega) (.bool false)) (b := w.heap.size) (i := 6) (by omega) (.slice A1 1 1)) (b := w.heap.size) (i := 7) (by omega) (.slice A2 2 k2)) (b := w.heap.size) (i := 8) (by omega) (.slice A3 1 1)) (b := w.heap.size) (i := 9) (by omega) (.slice none 0 0)) (b := w.heap.size) (i := 10) (by omega) (.slice none 0 0)) (b := w.heap.size) (i := 11) (by omega) (.int .i64 (-1))) (by omega)
  exact bodyPost_ret (res_tii (fn := Tryz.f19) rfl rfl rfl rfl (HF.row0 _ _ rfl)) rfl ⟨A1, A2, A3, k2, x, y, rfl, HF.below, (SA4.out.far hfar).mono (by omega), hown, (SW4.out.far hfar).mono (by omega), HP.out, HP2.out⟩
end Go.Proofs.YthdmfaepjemopaaGreatDoor
namespace Go.Proofs.YthdmfaepjemopaaGreatDoor
open Go.RowKit

theorem info105 : (Tryz.prog.info? 105).map (fun i => (i.zero, i.size, i.bytes)) = some (some (.agg #[.int .i64 0, .string ⟨#[]⟩, .int .i64 0]), 3, 32) := by kernel_rfl
def tkF (i : Nat) : List Value := ((tks.take i).map tkL).flatten
theorem tkF_next {i : Nat} {t : Int × ByteArray × Int} (h : tks[i]? = some t) : tkF (i + 1) = tkF i ++ [.int .i64 t.1, .string t.2.1, .int .i64 t.2.2] := by
  unfold tkF
  rw [List.take_add_one, h]
  simp [tkL]
theorem tok_first {wo : World} {base n : Nat} {v k t e : Value} {xs : List Value} {O : Obj} (w w4 : World) (ho : wo.ownsRow base 105 3 v n xs) (hw : wo.heap.size ≤ w.heap.size) (hg : ((w.alloc (.cells #[k, t, e] 105)).alloc O).grownBy w4 v.ownBlock) : w4.cell? ⟨w.heap.size, 0, none⟩ = some k := by
  have hq := heap_alloc_new w (.cells #[k, t, e] 105)
  have hq2 := (heap_alloc_old (w.alloc (.cells #[k, t, e] 105)) O (by simp)).trans hq
  have hq3 := (hg.block w.heap.size (by simp; omega) (fun h => by have := (own_base ho _ h.symm).2; omega)).trans hq2
  exact cell_of_row _ _ 0 _ _ _ hq3
theorem lex_fin {w w4 : World} {v : Value} {xs : List Value} (h : w4.ownsRow w.heap.size 105 3 v 15 xs) (hB : Below w.heap.size w w4) (hx : xs = tkF 15) : LxP w (.returned (.tuple #[v, .int .i64 0, .int .i64 0])) w4 := by
  subst hx
  have hf : tkF 15 = (tks.map tkL).flatten := rfl
  rw [hf] at h
  obtain ⟨A, c, e1, _, hC, _, _⟩ := own_cells h (fun x hx => by obtain ⟨t, _, rfl⟩ := List.mem_map.1 hx; rfl) rfl
  rcases h.2 with ⟨_, h0⟩ | ⟨g, cap, cur, e2, _⟩
  · cases h0
  · rw [e1] at e2
    cases e2
    exact ⟨g, c, by rw [e1], hB, hC⟩
set_option maxRecDepth 100000 in
set_option maxHeartbeats 16000000 in
theorem lex_at (w : World) : Calls Tryz.prog 29 #[.string txt, .int .i64 100] w (LxP w) := by
  have HNX := Lib.hid word_at
  have HSZ := Lib.hid (show txt.size = 34 by rfl)
  have hsz : txt.size = 34 := rfl
  obtain ⟨s, hs⟩ : ∃ s, s = txt := ⟨_, rfl⟩
  rw [← hs] at HNX HSZ hsz ⊢
  clear hs
  have hsl : s.data.toList.length = s.size := by show _ = s.data.size; simp
  have HSL := Lib.hid hsl
  have h100 : ((100 : Int) < (s.size : Int)) = False := eq_false (by omega)
  clear hsl
  have HHZ := Lib.hid hsz
  clear hsz
  go_enter Tryz.func29, Tryz.ntmps29
  go_wp2_with fail
  go_loopw [7, 8] (fun v z wr => ∃ i : Nat, i ≤ 14 ∧ z = .int .i64 (posN i : Nat) ∧ Hid (wr.ownsRow w.heap.size 105 3 v i (tkF i)) ∧ Hid (Below w.heap.size w wr)) (fun _ z _ => 35 - (intOf z).toNat)
  case atStart => exact ⟨0, Nat.zero_le _, rfl, Lib.hid (World.ownsRow_nil _ _ _ _), Lib.hid (Below.refl _ _)⟩
  case round =>
    obtain ⟨i, hi, rfl, HO, HB⟩ := hrel
    obtain ⟨wo, rfl⟩ : ∃ wo : World, wo = wr := ⟨_, rfl⟩
    have hpl : ∀ i, i < 15 → posN i ≤ 34 ∧ (i < 14 → posN i < posN (i + 1)) ∧ posN (i + 1) ≤ 34 ∧ ∀ t, tks[i]? = some t → (i = 14 ∧ t.1 = 0) ∨ (i < 14 ∧ (t.1 == 0) = false) := by decide +kernel
    obtain ⟨hp34, hpn, hpq, hpk⟩ := hpl i (by omega)
    have hsp := HNX.out i
    obtain ⟨p, hp⟩ : ∃ p, p = posN i := ⟨_, rfl⟩
    obtain ⟨q, hq⟩ : ∃ q, q = posN (i + 1) := ⟨_, rfl⟩
    obtain ⟨⟨tk, S, ta⟩, ht, a, hta, hpa, _⟩ := hsp wo (by omega)
    have HW := Lib.hid (show ∀ W, Calls Tryz.prog 52 #[.string s, .int .i64 (a : Int)] W (WX a q tk S W) from fun W => by
      obtain ⟨t2, ht2, a2, hta2, hpa2, hc⟩ := hsp W (by omega)
      rw [ht] at ht2
      cases ht2
      obtain rfl : a = a2 := by omega
      rw [hq]
      exact hc)
    have HTK := Lib.hid (tkF_next ht)
    have HPK := Lib.hid (hpk _ ht)
    have HQ := Lib.hid hq
    have HPP := Lib.hid hp
    dsimp only at hta
    subst hta
    rw [← hp] at hp34 hpn hpa ⊢
    rw [← hq] at hpn hpq
    have HPN := Lib.hid hpn
    have HPA := Lib.hid hpa
    have hz34 := HHZ.out
    clear hpl hsp ht hq hpa hpk hpn hp
    have hale : p ≤ a ∧ a ≤ s.size := by
      have h := spanR_le blaP (s.data.toList.drop p)
      rw [List.length_drop, HSL.out] at h
      have := HPA.out
      omega
    obtain ⟨hpa1, hpa2⟩ := hale
    have HZ34 := Lib.hid hz34
    clear hz34
    go_wp2_with fail
    go_loop [8] (fun z => ∃ k : Nat, p ≤ k ∧ k ≤ s.size ∧ z = .int .i64 k ∧ Hid (∀ j d, j < k - p → (s.data.toList.drop p)[j]? = some d → blaP (d.toNat : Int) = true)) (fun z => s.size - (intOf z).toNat)
    case atStart => exact ⟨p, Nat.le_refl _, by have := HZ34.out; omega, rfl, Lib.hid (fun j d h => absurd h (by omega))⟩
    case round =>
      obtain ⟨k, hpk, hk, rfl, HC⟩ := hrel
      have hk34 : k ≤ 34 := by have := HZ34.out; omega
      by_cases hgo : ∃ h : k < s.size, blaP (s[k].toNat : Int) = true
      · obtain ⟨hlt, hq⟩ := hgo
        obtain ⟨d, hd⟩ : ∃ d, d = s[k] := ⟨_, rfl⟩
        have hkd : s[k] = d := hd.symm
        rw [hkd] at hq
        have HC2 := Lib.hid (show ∀ j d, j < k + 1 - p → (s.data.toList.drop p)[j]? = some d → blaP (d.toNat : Int) = true from fun j d' h1 h2 => by
          by_cases e : j = k - p
          · subst e
            rw [List.getElem?_drop, show p + (k - p) = k by omega, Array.getElem?_toList, Array.getElem?_eq_getElem (show k < s.data.size from hlt)] at h2
            cases h2
            exact hkd ▸ hq
          · exact HC.out j d' (by omega) h2)
        have HKD := Lib.hid (fun W => kind_any (d.toNat : Int) W)
        have h3 := kindZ_is3 (d.toNat : Int)
        rw [hq] at h3
        have hd255 : (d.toNat : Int) ≤ 255 := by have := d.toNat_lt; omega
        have hd0 : (0 : Int) ≤ (d.toNat : Int) := by omega
        generalize kindZ (d.toNat : Int) = z at HKD h3
        clear hq hd
        go_wp2_with (first
          | (go_at_call 51; (with_reducible refine (HKD.out _).mono ?_); rintro e' w4 ⟨rfl, rfl⟩)
          | fail)
        go_round
        case rel => exact ⟨k + 1, by omega, by omega, by go_num, HC2⟩
        case measure => simp [intOf] <;> omega
      · have HE := Lib.hid (show k = a by
          by_cases hlt : k < s.size
          · have hq : blaP (s[k].toNat : Int) = false := by
              cases h : blaP (s[k].toNat : Int) with
              | false => rfl
              | true => exact absurd ⟨hlt, h⟩ hgo
            have h := span_stop blaP (l := s.data.toList.drop p) (k := k - p) (c := s[k]) HC.out (by rw [List.getElem?_drop, show p + (k - p) = k by omega, Array.getElem?_toList]; exact Array.getElem?_eq_getElem hlt) hq
            rw [← HPA.out, h]; omega
          · have h := span_all blaP (l := s.data.toList.drop p) (fun j d h1 h2 => HC.out j d (by rw [List.length_drop, HSL.out] at h1; omega) h2)
            rw [← HPA.out, h, List.length_drop, HSL.out]; omega)
        have hno : (((k : Int) < (s.size : Int)) = False) ∨ ∃ (h : k < s.size) (d : UInt8), s[k] = d ∧ (kindZ (d.toNat : Int) == 3) = false := by
          by_cases h : k < s.size
          · right
            refine ⟨h, _, rfl, ?_⟩
            rw [kindZ_is3]
            cases h3 : blaP (s[k].toNat : Int) with
            | false => rfl
            | true => exact absurd ⟨h, h3⟩ hgo
          · exact Or.inl (eq_false (by omega))
        obtain rfl : k = a := HE.out
        clear hgo HE HC
        rcases HPK.out with ⟨rfl, hk0⟩ | ⟨hi14, hk0⟩
        · try dsimp only at hk0
          subst hk0
          have HFL := Lib.hid (show tkF (14 + 1) = tkF 15 from rfl)
          rcases hno with hno | ⟨hlt, d, hd, hd3⟩
          · go_wp2_with (first
            | (go_at_call 52; (with_reducible refine Calls.mono (HW.out _) ?_); rintro e w3 ⟨rfl, hB3⟩
               unfold wordV tokV
               have HX3 := Lib.hid hB3
               have hq3 : ∀ O O' : Obj, ((w3.alloc O).alloc O').heap[w3.heap.size + 1]? = some O' := fun O O' => by have := heap_alloc_new (w3.alloc O) O'; rwa [World.size_alloc] at this
               clear hB3)
            | (at_builtin
               go_loud (refine list_one 95 105 3 32 (.agg #[.int .i64 0, .string ⟨#[]⟩, .int .i64 0]) Tryz.underlying95 info105 rfl (by omega) (by omega) _ rfl _ _ rfl w.heap.size _ 14 (tkF 14) rfl (own_kept HO.out ((HX3.out.alloc HX3.out.size _).alloc (by have := HX3.out.size; simp; omega) _) (Nat.le_refl _)) _ 1 [.int .i64 0, .string S, .int .i64 (k : Nat)] rfl rfl rfl (hq3 _ _) (by omega) (by have h1 := HX3.out.size; have h2 := HB.out.size; simp only [World.size_alloc]; omega) ?_)
               intro v4 w4 hown4 hgr4 hv4
               have HO4 := Lib.hid hown4
               have HB4 := Lib.hid ((((HB.out.trans (HX3.out.mono HB.out.size)).alloc (by have h1 := HX3.out.size; have h2 := HB.out.size; omega) _).alloc (by have h1 := HX3.out.size; have h2 := HB.out.size; simp; omega) _).grown hgr4 (by have h1 := HX3.out.size; have h2 := HB.out.size; simp; omega) (fun b hb => (own_base HO.out b hb).1))
               have r0 := tok_first w3 w4 HO.out HX3.out.size hgr4
               clear hown4 hgr4 hv4 hq3)
            | fail)
            exact bodyPost_ret (v := .tuple #[v4, .int .i64 0, .int .i64 0]) (by simp [results, Tryz.results29, go_sem]) rfl (lex_fin HO4.out HB4.out HTK.out.symm)
          · have hd255 : (d.toNat : Int) ≤ 255 := by have := d.toNat_lt; omega
            have hd0 : (0 : Int) ≤ (d.toNat : Int) := by omega
            have HKD := Lib.hid (fun W => kind_any (d.toNat : Int) W)
            generalize kindZ (d.toNat : Int) = z at HKD hd3
            go_wp2_with (first
            | (go_at_call 51; (with_reducible refine (HKD.out _).mono ?_); rintro e' w2 ⟨rfl, rfl⟩)
            | (go_at_call 52; (with_reducible refine Calls.mono (HW.out _) ?_); rintro e w3 ⟨rfl, hB3⟩
               unfold wordV tokV
               have HX3 := Lib.hid hB3
               have hq3 : ∀ O O' : Obj, ((w3.alloc O).alloc O').heap[w3.heap.size + 1]? = some O' := fun O O' => by have := heap_alloc_new (w3.alloc O) O'; rwa [World.size_alloc] at this
               clear hB3)
            | (at_builtin
               go_loud (refine list_one 95 105 3 32 (.agg #[.int .i64 0, .string ⟨#[]⟩, .int .i64 0]) Tryz.underlying95 info105 rfl (by omega) (by omega) _ rfl _ _ rfl w.heap.size _ 14 (tkF 14) rfl (own_kept HO.out ((HX3.out.alloc HX3.out.size _).alloc (by have := HX3.out.size; simp; omega) _) (Nat.le_refl _)) _ 1 [.int .i64 0, .string S, .int .i64 (k : Nat)] rfl rfl rfl (hq3 _ _) (by omega) (by have h1 := HX3.out.size; have h2 := HB.out.size; simp only [World.size_alloc]; omega) ?_)
               intro v4 w4 hown4 hgr4 hv4
               have HO4 := Lib.hid hown4
               have HB4 := Lib.hid ((((HB.out.trans (HX3.out.mono HB.out.size)).alloc (by have h1 := HX3.out.size; have h2 := HB.out.size; omega) _).alloc (by have h1 := HX3.out.size; have h2 := HB.out.size; simp; omega) _).grown hgr4 (by have h1 := HX3.out.size; have h2 := HB.out.size; simp; omega) (fun b hb => (own_base HO.out b hb).1))
               have r0 := tok_first w3 w4 HO.out HX3.out.size hgr4
               clear hown4 hgr4 hv4 hq3)
            | fail)
            exact bodyPost_ret (v := .tuple #[v4, .int .i64 0, .int .i64 0]) (by simp [results, Tryz.results29, go_sem]) rfl (lex_fin HO4.out HB4.out HTK.out.symm)
        · try dsimp only at hk0
          have hpq2 := HPN.out hi14
          rcases hno with hno | ⟨hlt, d, hd, hd3⟩
          · go_wp2_with (first
            | (go_at_call 52; (with_reducible refine Calls.mono (HW.out _) ?_); rintro e w3 ⟨rfl, hB3⟩
               unfold wordV tokV
               have HX3 := Lib.hid hB3
               have hq3 : ∀ O O' : Obj, ((w3.alloc O).alloc O').heap[w3.heap.size + 1]? = some O' := fun O O' => by have := heap_alloc_new (w3.alloc O) O'; rwa [World.size_alloc] at this
               clear hB3)
            | (at_builtin
               go_loud (refine list_one 95 105 3 32 (.agg #[.int .i64 0, .string ⟨#[]⟩, .int .i64 0]) Tryz.underlying95 info105 rfl (by omega) (by omega) _ rfl _ _ rfl w.heap.size _ i (tkF i) rfl (own_kept HO.out ((HX3.out.alloc HX3.out.size _).alloc (by have := HX3.out.size; simp; omega) _) (Nat.le_refl _)) _ 1 [.int .i64 tk, .string S, .int .i64 (k : Nat)] rfl rfl rfl (hq3 _ _) (by omega) (by have h1 := HX3.out.size; have h2 := HB.out.size; simp only [World.size_alloc]; omega) ?_)
               intro v4 w4 hown4 hgr4 hv4
               have HO4 := Lib.hid hown4
               have HB4 := Lib.hid ((((HB.out.trans (HX3.out.mono HB.out.size)).alloc (by have h1 := HX3.out.size; have h2 := HB.out.size; omega) _).alloc (by have h1 := HX3.out.size; have h2 := HB.out.size; simp; omega) _).grown hgr4 (by have h1 := HX3.out.size; have h2 := HB.out.size; simp; omega) (fun b hb => (own_base HO.out b hb).1))
               have r0 := tok_first w3 w4 HO.out HX3.out.size hgr4
               clear hown4 hgr4 hv4 hq3)
            | fail)
            go_roundw
            case rel => exact ⟨i + 1, by omega, by rw [← HQ.out], by rw [HTK.out]; exact HO4, HB4⟩
            case measure => simp [intOf] <;> omega
          · have hd255 : (d.toNat : Int) ≤ 255 := by have := d.toNat_lt; omega
            have hd0 : (0 : Int) ≤ (d.toNat : Int) := by omega
            have HKD := Lib.hid (fun W => kind_any (d.toNat : Int) W)
            generalize kindZ (d.toNat : Int) = z at HKD hd3
            go_wp2_with (first
            | (go_at_call 51; (with_reducible refine (HKD.out _).mono ?_); rintro e' w2 ⟨rfl, rfl⟩)
            | (go_at_call 52; (with_reducible refine Calls.mono (HW.out _) ?_); rintro e w3 ⟨rfl, hB3⟩
               unfold wordV tokV
               have HX3 := Lib.hid hB3
               have hq3 : ∀ O O' : Obj, ((w3.alloc O).alloc O').heap[w3.heap.size + 1]? = some O' := fun O O' => by have := heap_alloc_new (w3.alloc O) O'; rwa [World.size_alloc] at this
               clear hB3)
            | (at_builtin
               go_loud (refine list_one 95 105 3 32 (.agg #[.int .i64 0, .string ⟨#[]⟩, .int .i64 0]) Tryz.underlying95 info105 rfl (by omega) (by omega) _ rfl _ _ rfl w.heap.size _ i (tkF i) rfl (own_kept HO.out ((HX3.out.alloc HX3.out.size _).alloc (by have := HX3.out.size; simp; omega) _) (Nat.le_refl _)) _ 1 [.int .i64 tk, .string S, .int .i64 (k : Nat)] rfl rfl rfl (hq3 _ _) (by omega) (by have h1 := HX3.out.size; have h2 := HB.out.size; simp only [World.size_alloc]; omega) ?_)
               intro v4 w4 hown4 hgr4 hv4
               have HO4 := Lib.hid hown4
               have HB4 := Lib.hid ((((HB.out.trans (HX3.out.mono HB.out.size)).alloc (by have h1 := HX3.out.size; have h2 := HB.out.size; omega) _).alloc (by have h1 := HX3.out.size; have h2 := HB.out.size; simp; omega) _).grown hgr4 (by have h1 := HX3.out.size; have h2 := HB.out.size; simp; omega) (fun b hb => (own_base HO.out b hb).1))
               have r0 := tok_first w3 w4 HO.out HX3.out.size hgr4
               clear hown4 hgr4 hv4 hq3)
            | fail)
            go_roundw
            case rel => exact ⟨i + 1, by omega, by rw [← HQ.out], by rw [HTK.out]; exact HO4, HB4⟩
            case measure => simp [intOf] <;> omega
end Go.Proofs.YthdmfaepjemopaaGreatDoor
