/- The walk of the statement's own functions: short, and the law. -/
import Derived.Test.YtoafiombpokpaaaGreatDoorLivB
import Derived.Test.YtoafiombpokpaaaGreatDoorRwrA
namespace Go.Proofs.YtoafiombpokpaaaGreatDoor
open Go.RowKit

set_option maxRecDepth 100000 in
set_option maxHeartbeats 2000000 in
theorem short_one (g c : Nat) (k n : Int) (f : Nat) (s : ByteArray) (w : World) (hg : g < w.heap.size) (h0 : w.cell? ⟨g, 0, none⟩ = some (.int .i64 k)) (h1 : w.cell? ⟨g, 1, none⟩ = some (.int .i64 n)) (h2 : w.cell? ⟨g, 2, none⟩ = some (.float .f64 f)) (h3 : w.cell? ⟨g, 3, none⟩ = some (.string s)) :
    Calls Tryz.prog 5 #[.slice (some ⟨g, 0, none⟩) 1 c] w (RetV (.bool (decide (s.size ≤ 1000))) w) := by
  have stf := store_float
  go_enter Tryz.func5, Tryz.ntmps5
  go_wp2_with fail
  go_loopw [7] (fun i wr => ∃ j : Nat, j ≤ 1 ∧ i = .int .i64 j ∧ (j = 1 → s.size ≤ 1000) ∧ Below w.heap.size w wr) (fun i _ => 1 - (intOf i).toNat)
  case atStart => exact ⟨0, Nat.zero_le _, rfl, fun h => (by omega), Below.refl _ _⟩
  case round =>
    obtain ⟨j, hj, rfl, hs, hB⟩ := hrel
    obtain ⟨wo, rfl⟩ : ∃ wo : World, wo = wr := ⟨_, rfl⟩
    have HS := Lib.hid hs
    clear hs
    rcases j with _ | j
    · have c0 := (hB.cell (p := ⟨g, 0, none⟩) hg).trans h0
      have c1 := (hB.cell (p := ⟨g, 1, none⟩) hg).trans h1
      have c2 := (hB.cell (p := ⟨g, 2, none⟩) hg).trans h2
      have c3 := (hB.cell (p := ⟨g, 3, none⟩) hg).trans h3
      have HB := Lib.hid hB
      clear h0 h1 h2 h3 hB
      by_cases hl : s.size ≤ 1000
      · have g1 : (1000 < (s.size : Int)) = False := eq_false (by omega)
        have HL := Lib.hid hl
        go_wp2
        go_roundw
        case rel => exact ⟨1, Nat.le_refl _, by go_num, fun _ => HL.out, HB.out.alloc HB.out.size _⟩
        case measure => simp [intOf]
      · have g1 : (1000 < (s.size : Int)) = True := eq_true (by omega)
        have HR := Lib.hid (show decide (s.size ≤ 1000) = false from decide_eq_false hl)
        clear hl
        go_wp2
        go_ret
        exact ⟨by rw [HR.out]; rfl, HB.out.alloc HB.out.size _⟩
    · obtain rfl : j = 0 := by omega
      have HR := Lib.hid (show decide (s.size ≤ 1000) = true from decide_eq_true (HS.out rfl))
      go_wp2
      go_ret
      exact ⟨by rw [HR.out]; rfl, hB⟩

theorem short_new (k n : Int) (f : Nat) (s : ByteArray) (W : World) : Calls Tryz.prog 5 #[.slice (some ⟨W.heap.size, 0, none⟩) 1 1] (W.alloc (.cells #[.int .i64 k, .int .i64 n, .float .f64 f, .string s] 24)) (RetV (.bool (decide (s.size ≤ 1000))) (W.alloc (.cells #[.int .i64 k, .int .i64 n, .float .f64 f, .string s] 24))) := by
  have h := Row4.new W (.int .i64 k) (.int .i64 n) (.float .f64 f) (.string s)
  obtain ⟨⟨h0, h1, h2, h3⟩, -⟩ := h.cells
  exact short_one _ _ k n f s _ h.lt h0 h1 h2 h3
/-- what the law is given, beside the value: tables and a variable -/
structure LawH (P : Nat → Nat) (w : World) : Prop where
  hP : ∀ k, P k < 18446744073709551616
  pow : PowAt P w
  tab : Lib.TabIs Tryz.prog w "internal/strconv.uint64pow10" .u64 Lib.pow10Tab
  len : ∃ m, w.cell? ⟨3, 0, none⟩ = some (.int .i64 m)
  h8 : 8 < w.heap.size
theorem wrh_of {P : Nat → Nat} {w : World} (H : LawH P w) (f : Nat) (s : ByteArray) (n : Int) (hf : f < 18446744073709551616) (hs : s.size ≤ 1000) (n0 : -9223372036854775808 ≤ n) (n1 : n ≤ 9223372036854775807) : ∃ sf, WrH w f s n sf := by
  by_cases hfin : finF (gz f) = true
  · unfold finF at hfin
    rw [Bool.and_eq_true, Bool.and_eq_true] at hfin
    obtain ⟨⟨a1, a2⟩, a3⟩ := hfin
    obtain ⟨sf, b1, b2, b3⟩ := ff_any P H.hP (gz f) (gz_lt hf) (fin_of a1 (by simpa using a2) (by simpa using a3))
    exact ⟨sf, H.tab, H.len, hf, hs, n0, n1, b1, b2, fun _ W hW => b3 W (Nat.lt_of_lt_of_le H.h8 hW.size) (H.pow.keep hW) (tab_keep H.tab hW)⟩
  · exact ⟨[], H.tab, H.len, hf, hs, n0, n1, ⟨fun c hc => absurd hc (List.not_mem_nil), fun h => absurd h (List.not_mem_nil)⟩, Nat.zero_le _, fun h => absurd h hfin⟩
def TxtO (T : ByteArray) (w : World) (e : Ending) (w' : World) : Prop := e = .returned (.string T) ∧ Below w.heap.size w w'
set_option maxRecDepth 100000 in
set_option maxHeartbeats 4000000 in
theorem law_any (P : Nat → Nat) (k n : Int) (f : Nat) (s : ByteArray) (w : World) (H : LawH P w) (hf : f < 18446744073709551616) (n0 : -9223372036854775808 ≤ n) (n1 : n ≤ 9223372036854775807) : Calls Tryz.prog 3 #[vV k n f s] w (RetT w) := by
  have stf := store_float
  have HV := Lib.hid lives_any
  have HR := Lib.hid (Row4.new w (.int .i64 k) (.int .i64 n) (.float .f64 f) (.string s))
  have hA : Below w.heap.size w (w.alloc (.cells #[.int .i64 k, .int .i64 n, .float .f64 f, .string s] 24)) := by go_grown
  have HX := Lib.hid (show s.size ≤ 1000 → ∃ T : ByteArray, ∀ W, Below w.heap.size w W → Calls Tryz.prog 6 #[vV k n f s] W (TxtO T W) ∧ Calls Tryz.prog 7 #[vV k n f s] W (TxtO T W) from fun hs => by
    obtain ⟨sf, hw⟩ := wrh_of H f s n hf hs n0 n1
    exact ⟨⟨(wrT k n f s sf).toArray⟩, fun W hW => ⟨wr_any k n f s sf w hw W hW, rwr_any k n f s sf w hw W hW⟩⟩)
  clear H hf n0 n1
  go_enter Tryz.func3, Tryz.ntmps3
  by_cases hl : s.size ≤ 1000
  · obtain ⟨T, hT⟩ := HX.out hl
    have HT := Lib.hid hT
    have hd : decide (s.size ≤ 1000) = true := decide_eq_true hl
    have HS := Lib.hid (fun (W : World) => (show Calls Tryz.prog 5 #[.slice (some ⟨W.heap.size, 0, none⟩) 1 1] (W.alloc (.cells #[.int .i64 k, .int .i64 n, .float .f64 f, .string s] 24)) (RetV (.bool true) (W.alloc (.cells #[.int .i64 k, .int .i64 n, .float .f64 f, .string s] 24))) from by rw [← hd]; exact short_new k n f s W))
    clear hT hd HX
    go_upto_region 3 with (first
      | (go_at_call 4; (with_reducible refine (HV.out _).mono ?_); rintro e w2 ⟨rfl, hB⟩; obtain ⟨⟨d0, d1, d2, d3⟩, ⟨f0, f1, f2, f3⟩⟩ := (HR.out.call hB).cells; have hD := hA.trans (hB.mono hA.size); have HR2 := Lib.hid (HR.out.call hB); clear hB)
      | (go_at_call 5; (with_reducible refine (HS.out _).mono ?_); rintro e w3 ⟨rfl, hB⟩; obtain ⟨⟨d0, d1, d2, d3⟩, ⟨f0, f1, f2, f3⟩⟩ := ((HR2.out.alloc _).call hB).cells; have hD := (hD.alloc hD.size _).trans (hB.mono (hD.alloc hD.size _).size); have HR3 := Lib.hid ((HR2.out.alloc _).call hB); clear hB)
      | fail)
    rename_i K3 hK3
    clear HS
    have hD0 := hD.drew
    have HR4 := Lib.hid (HR3.out.call (Below.refl _ _).drew)
    obtain ⟨⟨d0, d1, d2, d3⟩, ⟨f0, f1, f2, f3⟩⟩ := HR4.out.cells
    go_region_law (first
      | (go_simp; go_at_call 6; (with_reducible refine (HT.out _ hD0).1.mono ?_); rintro e w5 ⟨rfl, hB⟩; have hD0 := hD0.trans (hB.mono hD0.size); obtain ⟨⟨d0, d1, d2, d3⟩, ⟨f0, f1, f2, f3⟩⟩ := (HR4.out.call hB).cells; clear hB)
      | (go_simp; go_at_call 7; (with_reducible refine (HT.out _ hD0).2.mono ?_); rintro e w5 ⟨rfl, hB⟩; have hD0 := hD0.trans (hB.mono hD0.size); clear hB)
      | fail)
    all_goals
      refine hK3 _ _ ?_
      go_wp2_with fail
      go_ret
      exact ⟨rfl, hD0⟩
  · have hd : decide (s.size ≤ 1000) = false := decide_eq_false hl
    have HS := Lib.hid (fun (W : World) => (show Calls Tryz.prog 5 #[.slice (some ⟨W.heap.size, 0, none⟩) 1 1] (W.alloc (.cells #[.int .i64 k, .int .i64 n, .float .f64 f, .string s] 24)) (RetV (.bool false) (W.alloc (.cells #[.int .i64 k, .int .i64 n, .float .f64 f, .string s] 24))) from by rw [← hd]; exact short_new k n f s W))
    clear hd HX hl
    go_wp2_with (first
      | (go_at_call 4; (with_reducible refine (HV.out _).mono ?_); rintro e w2 ⟨rfl, hB⟩; obtain ⟨⟨d0, d1, d2, d3⟩, ⟨f0, f1, f2, f3⟩⟩ := (HR.out.call hB).cells; have hD := hA.trans (hB.mono hA.size); have HR2 := Lib.hid (HR.out.call hB); clear hB)
      | (go_at_call 5; (with_reducible refine (HS.out _).mono ?_); rintro e w3 ⟨rfl, hB⟩; have hD := (hD.alloc hD.size _).trans (hB.mono (hD.alloc hD.size _).size); clear hB)
      | (go_at_call 4; (with_reducible refine (HV.out _).mono ?_); rintro e w4 ⟨rfl, hB⟩; have hD := hD.trans (hB.mono hD.size); clear hB)
      | fail)
    go_ret
    exact ⟨rfl, hD⟩
end Go.Proofs.YtoafiombpokpaaaGreatDoor
