/- The walk of next, at a word that begins with a letter. -/
import Derived.Test.YtacodkmbefhicaaGreatDoorSpan
namespace Go.Proofs.YtacodkmbefhicaaGreatDoor
open Go.RowKit

def tokV (k : Int) (s : ByteArray) (at_ : Int) : Value := .agg #[.int .i64 k, .string s, .int .i64 at_]
def nextV (k : Int) (s : ByteArray) (n e : Int) : Value := .tuple #[tokV k s 0, .int .i64 n, .int .i64 e]
theorem nam_span (s : ByteArray) (hs : s.size ≤ 200) (w : World) : Calls Tryz.prog 19 #[.string s, .func (.func 31) #[] #[]] w (RetV (.int .i64 (spanR namP s.data.toList : Nat)) w) :=
  span_any 31 namP (Go.Proofs.enters_of Tryz.func31 (by kernel_rfl) rfl) nam_any (fun r h => by simp [namP, letP, digP]; omega) s (by unfold maxLen; omega) w
theorem dig_span (s : ByteArray) (hs : s.size ≤ 200) (w : World) : Calls Tryz.prog 19 #[.string s, .func (.func 32) #[] #[]] w (RetV (.int .i64 (spanR digP s.data.toList : Nat)) w) :=
  span_any 32 digP (Go.Proofs.enters_of Tryz.func32 (by kernel_rfl) rfl) (fun r W => digit_any r W) (fun r h => by simp [digP]; omega) s (by unfold maxLen; omega) w
theorem bla_span (s : ByteArray) (hs : s.size ≤ 200) (w : World) : Calls Tryz.prog 19 #[.string s, .func (.func 20) #[] #[]] w (RetV (.int .i64 (spanR blaP s.data.toList : Nat)) w) :=
  span_any 20 blaP (Go.Proofs.enters_of Tryz.func20 (by kernel_rfl) rfl) bla_any (fun r h => by simp [blaP]; omega) s (by unfold maxLen; omega) w
set_option maxRecDepth 100000 in
set_option maxHeartbeats 2000000 in
theorem next_end (w : World) : Calls Tryz.prog 21 #[.string ⟨#[]⟩] w (RetV (nextV 0 ⟨#[]⟩ 0 0) w) := by
  go_enter Tryz.func21, Tryz.ntmps21
  go_wp2_with fail
  exact bodyPost_ret (v := .tuple #[.agg #[.int .i64 0, .string ⟨#[]⟩, .int .i64 0], .int .i64 0, .int .i64 0]) (by simp [results, Tryz.results21, go_sem]) rfl ⟨rfl, below1 w _⟩
/-- a word that begins with a letter -/
def wordR (l : List UInt8) : Value :=
  let n := spanR namP l
  if kwR (l.take n) ≠ [] then nextV 2 ⟨(kwR (l.take n)).toArray⟩ n 0 else if 12 < n then nextV 0 ⟨#[]⟩ 0 4 else nextV 1 ⟨(l.take n).toArray⟩ n 0
theorem text_ne {s : ByteArray} (h0 : 0 < s.size) : (s.toList == []) = false := by
  have hsl : s.data.toList.length = s.size := by show _ = s.data.size; simp
  rw [ByteArray.toList_eq]
  cases hx : s.data.toList with
  | nil => rw [hx] at hsl; simp at hsl; omega
  | cons a l => rfl
set_option maxRecDepth 100000 in
set_option maxHeartbeats 4000000 in
theorem next_letter (s : ByteArray) (m : Int) (w : World) (hm : w.cell? ⟨0, 0, none⟩ = some (.int .i64 m)) (h0 : 0 < s.size) (hs : s.size ≤ 200) (hl : letP (s[0].toNat : Int) = true) : Calls Tryz.prog 21 #[.string s] w (RetV (wordR s.data.toList) w) := by
  have HM := Lib.hid hm
  obtain ⟨c, hc⟩ : ∃ c, c = s[0] := ⟨_, rfl⟩
  have hkc : s[0] = c := hc.symm
  rw [hkc] at hl
  have hc255 : (c.toNat : Int) ≤ 255 := by have := c.toNat_lt; omega
  have hc0 : (0 : Int) ≤ (c.toNat : Int) := by omega
  have HLE := Lib.hid (fun W => hl ▸ letter_any (c.toNat : Int) W)
  have HSP := Lib.hid (fun W => nam_span s hs W)
  have hsl : s.data.toList.length = s.size := by show _ = s.data.size; simp
  have hle := spanR_le namP s.data.toList
  have hne := text_ne h0
  obtain ⟨n, hn⟩ : ∃ n, n = spanR namP s.data.toList := ⟨_, rfl⟩
  have HR := Lib.hid (show wordR s.data.toList = if kwR (s.data.toList.take n) ≠ [] then nextV 2 ⟨(kwR (s.data.toList.take n)).toArray⟩ n 0 else if 12 < n then nextV 0 ⟨#[]⟩ 0 4 else nextV 1 ⟨(s.data.toList.take n).toArray⟩ n 0 by unfold wordR; rw [hn])
  rw [← hn] at HSP hle
  generalize wordR s.data.toList = R at HR ⊢
  have hns : n ≤ s.size := by omega
  obtain ⟨T, hT⟩ : ∃ T, T = s.extract 0 n := ⟨_, rfl⟩
  have HTL := Lib.hid (show T.data.toList = s.data.toList.take n by rw [hT]; simp [ByteArray.data_extract])
  have HTT := Lib.hid (show (⟨(s.data.toList.take n).toArray⟩ : ByteArray) = T by rw [← HTL.out])
  rw [HTT.out] at HR
  have hT2 : s.extract 0 n = T := hT.symm
  have HTS := Lib.hid (show T.size ≤ 200 by rw [hT, ByteArray.size_extract]; omega)
  have HKW := Lib.hid (fun (W : World) (hB : Below w.heap.size w W) => keyword_any T m W HTS.out (cell_kept HM.out hB))
  rw [HTL.out] at HKW
  generalize hku : kwR (s.data.toList.take n) = ku at HR
  have HK2 := Lib.hid (show kwV (s.data.toList.take n) = .tuple #[.string ⟨ku.toArray⟩, .bool (decide (ku ≠ []))] by unfold kwV; rw [hku])
  rw [HK2.out] at HKW
  clear hm hl hc hle hsl hn hT hku
  by_cases hk0 : ku = []
  · have hkd : decide (ku ≠ []) = false := by simp [hk0]
    rw [hkd] at HKW
    by_cases h12 : 12 < n
    · have HE := Lib.hid (show R = nextV 0 ⟨#[]⟩ 0 4 by rw [HR.out, if_neg (by simp [hk0]), if_pos h12])
      clear hkd hk0
      go_enter Tryz.func21, Tryz.ntmps21
      go_wp2_with (first
        | (go_at_call 30; (with_reducible refine (HLE.out _).mono ?_); rintro e w2 ⟨rfl, rfl⟩)
        | (go_at_call 19; (with_reducible refine (HSP.out _).mono ?_); rintro e w3 ⟨rfl, hB3⟩; have HB3 := Lib.hid hB3; have HW3 := Lib.hid ((below1 w (.cells #[.int .i64 0, .string ⟨#[]⟩, .int .i64 0] 41)).trans (hB3.mono (below1 w (.cells #[.int .i64 0, .string ⟨#[]⟩, .int .i64 0] 41)).size)); clear hB3)
        | (go_at_call 33; (with_reducible refine (HKW.out _ HW3.out).mono ?_); rintro e w4 ⟨rfl, hB4⟩; have hq := (hB4.block w.heap.size (by have := HB3.out.size; simp at this; omega)).trans ((HB3.out.block w.heap.size (by simp)).trans (heap_alloc_new w (.cells #[.int .i64 0, .string ⟨#[]⟩, .int .i64 0] 41))); have HW4 := Lib.hid (HW3.out.trans (hB4.mono HW3.out.size)); have r0 := cell_of_row _ _ 0 _ _ _ hq; have r1 := cell_of_row _ _ 1 _ _ _ hq; have r2 := cell_of_row _ _ 2 _ _ _ hq; have g0 := frozen_of_row _ _ 0 _ _ hq; have g1 := frozen_of_row _ _ 1 _ _ hq; have g2 := frozen_of_row _ _ 2 _ _ hq; clear hB4 hq)
        | fail)
      refine bodyPost_ret (v := .tuple #[.agg #[.int .i64 0, .string ⟨#[]⟩, .int .i64 0], .int .i64 0, .int .i64 4]) (by simp [results, Tryz.results21, go_sem, r0, r1, r2]) rfl ⟨by rw [HE.out]; rfl, ?_⟩
      exact ((HW4.out.setCell (p := ⟨w.heap.size, 0, none⟩) (Nat.le_refl _) _).setCell (p := ⟨w.heap.size, 1, none⟩) (Nat.le_refl _) _).setCell (p := ⟨w.heap.size, 2, none⟩) (Nat.le_refl _) _
    · have HE := Lib.hid (show R = nextV 1 T n 0 by rw [HR.out, if_neg (by simp [hk0]), if_neg h12])
      clear hkd hk0
      go_enter Tryz.func21, Tryz.ntmps21
      go_wp2_with (first
        | (go_at_call 30; (with_reducible refine (HLE.out _).mono ?_); rintro e w2 ⟨rfl, rfl⟩)
        | (go_at_call 19; (with_reducible refine (HSP.out _).mono ?_); rintro e w3 ⟨rfl, hB3⟩; have HB3 := Lib.hid hB3; have HW3 := Lib.hid ((below1 w (.cells #[.int .i64 0, .string ⟨#[]⟩, .int .i64 0] 41)).trans (hB3.mono (below1 w (.cells #[.int .i64 0, .string ⟨#[]⟩, .int .i64 0] 41)).size)); clear hB3)
        | (go_at_call 33; (with_reducible refine (HKW.out _ HW3.out).mono ?_); rintro e w4 ⟨rfl, hB4⟩; have hq := (hB4.block w.heap.size (by have := HB3.out.size; simp at this; omega)).trans ((HB3.out.block w.heap.size (by simp)).trans (heap_alloc_new w (.cells #[.int .i64 0, .string ⟨#[]⟩, .int .i64 0] 41))); have HW4 := Lib.hid (HW3.out.trans (hB4.mono HW3.out.size)); have r0 := cell_of_row _ _ 0 _ _ _ hq; have r1 := cell_of_row _ _ 1 _ _ _ hq; have r2 := cell_of_row _ _ 2 _ _ _ hq; have g0 := frozen_of_row _ _ 0 _ _ hq; have g1 := frozen_of_row _ _ 1 _ _ hq; have g2 := frozen_of_row _ _ 2 _ _ hq; clear hB4 hq)
        | fail)
      refine bodyPost_ret (v := .tuple #[.agg #[.int .i64 1, .string T, .int .i64 0], .int .i64 n, .int .i64 0]) (by simp [results, Tryz.results21, go_sem, r0, r1, r2]) rfl ⟨by rw [HE.out]; rfl, ?_⟩
      exact ((HW4.out.setCell (p := ⟨w.heap.size, 0, none⟩) (Nat.le_refl _) _).setCell (p := ⟨w.heap.size, 1, none⟩) (Nat.le_refl _) _).setCell (p := ⟨w.heap.size, 2, none⟩) (Nat.le_refl _) _
  · have hkd : decide (ku ≠ []) = true := by simp [hk0]
    rw [hkd] at HKW
    have HE := Lib.hid (show R = nextV 2 ⟨ku.toArray⟩ n 0 by rw [HR.out, if_pos hk0])
    generalize (⟨ku.toArray⟩ : ByteArray) = KU at HE HKW
    clear hkd hk0
    go_enter Tryz.func21, Tryz.ntmps21
    go_wp2_with (first
      | (go_at_call 30; (with_reducible refine (HLE.out _).mono ?_); rintro e w2 ⟨rfl, rfl⟩)
      | (go_at_call 19; (with_reducible refine (HSP.out _).mono ?_); rintro e w3 ⟨rfl, hB3⟩; have HB3 := Lib.hid hB3; have HW3 := Lib.hid ((below1 w (.cells #[.int .i64 0, .string ⟨#[]⟩, .int .i64 0] 41)).trans (hB3.mono (below1 w (.cells #[.int .i64 0, .string ⟨#[]⟩, .int .i64 0] 41)).size)); clear hB3)
      | (go_at_call 33; (with_reducible refine (HKW.out _ HW3.out).mono ?_); rintro e w4 ⟨rfl, hB4⟩; have hq := (hB4.block w.heap.size (by have := HB3.out.size; simp at this; omega)).trans ((HB3.out.block w.heap.size (by simp)).trans (heap_alloc_new w (.cells #[.int .i64 0, .string ⟨#[]⟩, .int .i64 0] 41))); have HW4 := Lib.hid (HW3.out.trans (hB4.mono HW3.out.size)); have r0 := cell_of_row _ _ 0 _ _ _ hq; have r1 := cell_of_row _ _ 1 _ _ _ hq; have r2 := cell_of_row _ _ 2 _ _ _ hq; have g0 := frozen_of_row _ _ 0 _ _ hq; have g1 := frozen_of_row _ _ 1 _ _ hq; have g2 := frozen_of_row _ _ 2 _ _ hq; clear hB4 hq)
      | fail)
    refine bodyPost_ret (v := .tuple #[.agg #[.int .i64 2, .string KU, .int .i64 0], .int .i64 n, .int .i64 0]) (by simp [results, Tryz.results21, go_sem, r0, r1, r2]) rfl ⟨by rw [HE.out]; rfl, ?_⟩
    exact ((HW4.out.setCell (p := ⟨w.heap.size, 0, none⟩) (Nat.le_refl _) _).setCell (p := ⟨w.heap.size, 1, none⟩) (Nat.le_refl _) _).setCell (p := ⟨w.heap.size, 2, none⟩) (Nat.le_refl _) _
end Go.Proofs.YtacodkmbefhicaaGreatDoor
