/- The walk of package value's Write. -/
import Derived.Test.YtoafiombpokpaaaGreatDoorDigB
import Derived.Test.YtoafiombpokpaaaGreatDoorFtoE
import Derived.Test.YtoafiombpokpaaaGreatDoorClean2
namespace Go.Proofs.YtoafiombpokpaaaGreatDoor
open Go.RowKit

/-- a float, with one zero alone -/
def gz (f : Nat) : Nat := if feq f 0 = true then 0 else f
def trueT : List UInt8 := [84, 82, 85, 69]
def falseT : List UInt8 := [70, 65, 76, 83, 69]
def nullT : List UInt8 := [78, 85, 76, 76]
/-- a value as it is written, given what FormatFloat answers for its float -/
def wrT (k n : Int) (f : Nat) (s : ByteArray) (sf : List UInt8) : List UInt8 :=
  if k = 1 then Lib.itoa n else if k = 2 then flT (gz f) sf else if k = 3 then [39] ++ (esc s.data.toList ++ [39]) else if k = 4 then (if n = 0 then falseT else trueT) else nullT

theorem flt_real (f : Nat) (s : List UInt8) : flT (realZ f) s = flT (gz f) s := by
  unfold realZ
  by_cases h : feq f f = false
  · rw [if_pos h]
    have hz : gz f = f := by
      unfold gz
      rw [if_neg]
      intro h0
      have hn : ordF f 0 = some .eq := eq_of_beq h0
      have := (ordF_none f 0).2
      have h1 : ¬ numF f := by
        intro hN
        have := ordF_self f hN
        have e : feq f f = true := by show (ordF f f == some .eq) = true; rw [this]; rfl
        rw [e] at h; cases h
      rw [(ordF_none f 0).2 (.inl h1)] at hn
      cases hn
    rw [hz]
    unfold flT
    rw [if_pos h, if_pos (by decide +kernel)]
  · rw [if_neg h]
    rfl
theorem fin_real (f : Nat) (h : finF (realZ f) = true) : realZ f = gz f := by
  unfold realZ at h ⊢
  by_cases h1 : feq f f = false
  · rw [if_pos h1] at h
    exact absurd h (by decide +kernel)
  · rw [if_neg h1]
    rfl
theorem realZ_lt {f : Nat} (h : f < 18446744073709551616) : realZ f < 18446744073709551616 := by
  unfold realZ nanZ
  split
  · omega
  · split <;> omega
theorem gz_lt {f : Nat} (h : f < 18446744073709551616) : gz f < 18446744073709551616 := by
  unfold gz
  split <;> omega
set_option maxRecDepth 100000 in
theorem fi_any (n : Int) (h0 : -9223372036854775808 ≤ n) (h1 : n ≤ 9223372036854775807) (w0 : World) (hT : Lib.TabIs Tryz.prog w0 "internal/strconv.uint64pow10" .u64 Lib.pow10Tab) (w : World) (hw : Below w0.heap.size w0 w) :
    Calls Tryz.prog 14 #[.int .i64 n, .int .i64 10] w fun e w' => e = .returned (.string ⟨(Lib.itoa n).toArray⟩) ∧ Below w.heap.size w w' := by
  refine (Tryz.strconv_FormatInt_10 n h0 h1 w (tab_keep hT hw)).mono ?_
  rintro e w' ⟨h, k, os, rfl⟩
  exact ⟨h, ⟨rfl, rfl, rfl, by show w.heap.size ≤ (w.heap ++ os).size; rw [Array.size_append]; omega, fun j hj => by show (w.heap ++ os)[j]? = _; rw [Array.getElem?_append_left hj]⟩⟩

theorem set_four {W : World} {g : Nat} {T : TypeId} {z : Nat × Nat} {a0 a1 a2 a3 : Value} (b0 b1 b2 b3 : Value) (h : W.heap[g]? = some (.cells #[a0, a1, a2, a3] T z)) :
    ((((W.setCell ⟨g, 0, none⟩ b0).setCell ⟨g, 1, none⟩ b1).setCell ⟨g, 2, none⟩ b2).setCell ⟨g, 3, none⟩ b3).heap[g]? = some (.cells #[b0, b1, b2, b3] T z) := by
  have h1 : (W.setCell ⟨g, 0, none⟩ b0).heap[g]? = some (.cells #[b0, a1, a2, a3] T z) := by rw [setCell_eq_setRow _ _ _ _ _ _ _ h, setRow_heap _ _ _ _ _ _ h]; rfl
  have h2 : ((W.setCell ⟨g, 0, none⟩ b0).setCell ⟨g, 1, none⟩ b1).heap[g]? = some (.cells #[b0, b1, a2, a3] T z) := by rw [setCell_eq_setRow _ _ _ _ _ _ _ h1, setRow_heap _ _ _ _ _ _ h1]; rfl
  have h3 : (((W.setCell ⟨g, 0, none⟩ b0).setCell ⟨g, 1, none⟩ b1).setCell ⟨g, 2, none⟩ b2).heap[g]? = some (.cells #[b0, b1, b2, a3] T z) := by rw [setCell_eq_setRow _ _ _ _ _ _ _ h2, setRow_heap _ _ _ _ _ _ h2]; rfl
  rw [setCell_eq_setRow _ _ _ _ _ _ _ h3, setRow_heap _ _ _ _ _ _ h3]
  rfl

set_option maxRecDepth 100000 in
theorem ra_any (s : ByteArray) (hs : s.size ≤ 1000) (m : Int) (w : World) (hm : w.cell? ⟨3, 0, none⟩ = some (.int .i64 m)) :
    Calls Tryz.prog 16 #[.string s, .string ⟨#[39]⟩, .string ⟨#[39, 39]⟩] w fun e w' => e = .returned (.string ⟨(esc s.data.toList).toArray⟩) ∧ Below w.heap.size w w' := by
  have hc : Lib.countB s ⟨#[39]⟩ ≤ s.size := Lib.countB_le _ (by decide) _ s (Nat.le_refl _)
  have h := Tryz.strings_ReplaceAll s ⟨#[39]⟩ ⟨#[39, 39]⟩ m w (by omega) hm (by decide) (by show s.size + Lib.countB s ⟨#[39]⟩ * 2 ≤ 140737488355328; omega)
  rw [show Lib.replaceAll s.data.toList (⟨#[39]⟩ : ByteArray).data.toList (⟨#[39, 39]⟩ : ByteArray).data.toList = esc s.data.toList from replaceAll_esc _] at h
  exact h

/-- what Write is given: the tables, FormatFloat's answer -/
structure WrH (w0 : World) (f : Nat) (s : ByteArray) (n : Int) (sf : List UInt8) : Prop where
  tab : Lib.TabIs Tryz.prog w0 "internal/strconv.uint64pow10" .u64 Lib.pow10Tab
  len : ∃ m, w0.cell? ⟨3, 0, none⟩ = some (.int .i64 m)
  hf : f < 18446744073709551616
  hs : s.size ≤ 1000
  n0 : -9223372036854775808 ≤ n
  n1 : n ≤ 9223372036854775807
  fl : FlS sf
  fll : sf.length ≤ 1000
  ff : finF (gz f) = true → FFC (gz f) sf w0

def WrO (k n : Int) (f : Nat) (s : ByteArray) (sf : List UInt8) (w : World) (e : Ending) (w' : World) : Prop := e = .returned (.string ⟨(wrT k n f s sf).toArray⟩) ∧ Below w.heap.size w w'
set_option maxRecDepth 100000 in
set_option maxHeartbeats 4000000 in
theorem wr_any (k n : Int) (f : Nat) (s : ByteArray) (sf : List UInt8) (w0 : World) (H : WrH w0 f s n sf) (w : World) (hw : Below w0.heap.size w0 w) : Calls Tryz.prog 6 #[vV k n f s] w (WrO k n f s sf w) := by
  have stf := store_float
  have HC := Lib.hid (fun w => clean_any k n f s w)
  have hB1 := Lib.hid (below1 w (.cells #[.int .i64 k, .int .i64 n, .float .f64 f, .string s] 24))
  have HQ := Lib.hid (heap_alloc_new w (.cells #[.int .i64 k, .int .i64 n, .float .f64 f, .string s] 24))
  go_enter Tryz.func6, Tryz.ntmps6
  go_upto_region 2 with (first
    | (go_at_call 13; (with_reducible refine (HC.out _).mono ?_); rintro e1 w2 ⟨rfl, hb2⟩; obtain ⟨⟨d0, d1, d2, d3⟩, ⟨f0, f1, f2, f3⟩, l0⟩ := result_kept HQ.out hb2)
    | fail)
  obtain ⟨w3, hw3⟩ : ∃ W, W = ((((w2.setCell ⟨w.heap.size, 0, none⟩ (Value.int IntKind.i64 (clK k))).setCell ⟨w.heap.size, 1, none⟩ (Value.int IntKind.i64 (clN k n))).setCell ⟨w.heap.size, 2, none⟩ (Value.float FloatKind.f64 (clF k f))).setCell ⟨w.heap.size, 3, none⟩ (Value.string (clS k s))) := ⟨_, rfl⟩
  rw [← hw3]
  have q3 : w3.heap[w.heap.size]? = some (.cells #[.int .i64 (clK k), .int .i64 (clN k n), .float .f64 (clF k f), .string (clS k s)] 24) := by
    rw [hw3]; exact set_four _ _ _ _ ((hb2.block _ (heap_lt HQ.out)).trans HQ.out)
  have hb3 : Below w.heap.size w w3 := by
    rw [hw3]
    exact ((((hB1.out.trans (hb2.mono hB1.out.size)).setCell (Nat.le_refl _) _).setCell (Nat.le_refl _) _).setCell (Nat.le_refl _) _).setCell (Nat.le_refl _) _
  clear hw3 hb2 d0 d1 d2 d3 f0 f1 f2 f3 l0 HQ HC hB1
  have c0 := cell_of_row w3 _ 0 _ _ _ q3
  have c1 := cell_of_row w3 _ 1 _ _ _ q3
  have c2 := cell_of_row w3 _ 2 _ _ _ q3
  have c3 := cell_of_row w3 _ 3 _ _ _ q3
  have hw3 : Below w0.heap.size w0 w3 := hw.trans (hb3.mono hw.size)
  clear q3
  by_cases h1 : k = 1
  · subst h1
    replace c0 : w3.cell? ⟨w.heap.size, 0, none⟩ = some (.int .i64 1) := c0
    replace c1 : w3.cell? ⟨w.heap.size, 1, none⟩ = some (.int .i64 n) := c1
    have HF := Lib.hid (fi_any n H.n0 H.n1 w0 H.tab w3 hw3)
    have HR := Lib.hid (show wrT 1 n f s sf = Lib.itoa n from rfl)
    clear c2 c3 hw3
    go_wp2_with (first
      | (go_at_call 14; (with_reducible refine HF.out.mono ?_); rintro e1 w4 ⟨rfl, hb4⟩)
      | fail)
    go_ret
    exact ⟨by rw [HR.out]; rfl, hb3.trans (hb4.mono hb3.size)⟩
  · by_cases h2 : k = 2
    · subst h2
      replace c0 : w3.cell? ⟨w.heap.size, 0, none⟩ = some (.int .i64 2) := c0
      replace c2 : w3.cell? ⟨w.heap.size, 2, none⟩ = some (.float .f64 (realZ f)) := c2
      have HF := Lib.hid (dig_any (realZ f) sf w0 (realZ_lt H.hf) H.fl H.fll (fun h => by have e := fin_real f h; rw [e] at h ⊢; exact H.ff h) w3 hw3)
      have HR := Lib.hid (show wrT 2 n f s sf = flT (realZ f) sf from (flt_real f sf).symm)
      clear c1 c3 hw3
      generalize realZ f = z at c2 HF HR
      go_wp2_with (first
        | (go_at_call 15; (with_reducible refine HF.out.mono ?_); rintro e1 w4 ⟨rfl, hb4⟩)
        | fail)
      go_ret
      exact ⟨by rw [HR.out]; rfl, hb3.trans (hb4.mono hb3.size)⟩
    · by_cases h3 : k = 3
      · subst h3
        replace c0 : w3.cell? ⟨w.heap.size, 0, none⟩ = some (.int .i64 3) := c0
        replace c3 : w3.cell? ⟨w.heap.size, 3, none⟩ = some (.string s) := c3
        obtain ⟨m, hm⟩ := H.len
        have HF := Lib.hid (ra_any s H.hs m w3 (cell_kept hm hw3))
        have HR := Lib.hid (show wrT 3 n f s sf = [39] ++ (esc s.data.toList ++ [39]) from rfl)
        have hl : (esc s.data.toList).length ≤ 2000 := Nat.le_trans (esc_length _) (by have := H.hs; show 2 * s.data.toList.length ≤ 2000; have e : s.data.toList.length = s.size := rfl; omega)
        generalize esc s.data.toList = l at HF HR hl
        clear c1 c2 hw3 hm
        go_wp2_with (first
          | (go_at_call 16; (with_reducible refine HF.out.mono ?_); rintro e1 w4 ⟨rfl, hb4⟩)
          | fail)
        go_ret
        exact ⟨by rw [HR.out, ← cat_text, ← cat_text]; rfl, hb3.trans (hb4.mono hb3.size)⟩
      · by_cases h4 : k = 4
        · subst h4
          replace c0 : w3.cell? ⟨w.heap.size, 0, none⟩ = some (.int .i64 4) := c0
          by_cases hn : n = 0
          · subst hn
            replace c1 : w3.cell? ⟨w.heap.size, 1, none⟩ = some (.int .i64 0) := c1
            have HR := Lib.hid (show wrT 4 0 f s sf = falseT from rfl)
            clear c2 c3 hw3
            go_wp2_with fail
            go_ret
            exact ⟨by rw [HR.out]; rfl, hb3⟩
          · have e : clN 4 n = 1 := by unfold clN; simp [hn]
            rw [e] at c1
            replace c1 : w3.cell? ⟨w.heap.size, 1, none⟩ = some (.int .i64 1) := c1
            have HR := Lib.hid (show wrT 4 n f s sf = trueT by unfold wrT; simp [hn])
            clear c2 c3 hw3 e
            go_wp2_with fail
            go_ret
            exact ⟨by rw [HR.out]; rfl, hb3⟩
        · have e : clK k = 0 := by unfold clK; rw [if_neg (by omega)]
          rw [e] at c0
          replace c0 : w3.cell? ⟨w.heap.size, 0, none⟩ = some (.int .i64 0) := c0
          have HR := Lib.hid (show wrT k n f s sf = nullT by unfold wrT; rw [if_neg h1, if_neg h2, if_neg h3, if_neg h4])
          clear c1 c2 c3 hw3 e
          go_wp2_with fail
          go_ret
          exact ⟨by rw [HR.out]; rfl, hb3⟩
end Go.Proofs.YtoafiombpokpaaaGreatDoor
