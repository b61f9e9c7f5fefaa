/- The walk of strconv's FormatFloat. -/
import Derived.Test.YtoafiombpokpaaaGreatDoorFtoD
import Derived.Laws.MakeOwn
namespace Go.Proofs.YtoafiombpokpaaaGreatDoor
open Go.RowKit

set_option maxRecDepth 100000 in
theorem own_text {W : World} {B : Nat} {v : Value} {l : List UInt8} (h : OwnB W B v l) : (convert 58 9 v).run Tryz.prog W = .ok (.string ⟨l.toArray⟩) W := by
  obtain ⟨_, hv⟩ := h
  rcases hv with ⟨rfl, hn⟩ | ⟨g, cap, cur, rfl, hb, hh, hc, hm, hs, ht⟩
  · obtain rfl := List.eq_nil_of_length_eq_zero hn
    rfl
  · refine run_convert_bytes_back W 58 9 5 ⟨g, 0, none⟩ cap l Tryz.underlying58 Tryz.underlying5 Tryz.underlying9 (fun j hj => ?_)
    rw [Addr.add_lit, Nat.zero_add, cell_of_row _ _ j _ _ _ hh]
    have e : cur.toList[j]? = (cur.toList.take (l.length * 1))[j]? := by rw [List.getElem?_take]; rw [if_pos (by omega)]
    rw [← Array.getElem?_toList, e, ht, List.getElem?_map, List.getElem?_eq_getElem hj]
    rfl
set_option maxRecDepth 100000 in
set_option maxHeartbeats 4000000 in
theorem ff_any (P : Nat → Nat) (hPb : ∀ k, P k < 18446744073709551616) (b : Nat) (hb : b < 18446744073709551616) (hfin : b / 4503599627370496 % 2048 ≠ 2047) :
    ∃ s : List UInt8, FlS s ∧ s.length ≤ 1000 ∧ ∀ w, 8 < w.heap.size → PowAt P w → Lib.TabIs Tryz.prog w "internal/strconv.uint64pow10" .u64 Lib.pow10Tab →
      Calls Tryz.prog 19 #[.float .f64 b, .int .u8 103, .int .i64 (-1), .int .i64 64] w fun e w' => e = .returned (.string ⟨s.toArray⟩) ∧ Below w.heap.size w w' := by
  obtain ⟨s, hs, hsl, HF⟩ := ftoa_any P hPb b hb hfin
  refine ⟨s, hs, hsl, fun w h8 hP hT => ?_⟩
  obtain ⟨i0, hi0, hz0, hz1, hz2⟩ := info_parts infoB
  obtain ⟨w1, hmk, ho1, hg1⟩ := run_make_own (P := Tryz.prog) w w.heap.size 58 5 i0 (.int .u8 0) 1 Tryz.underlying58 hi0 hz0 hz1 .i64 .i64 24 (by omega) (by unfold maxLen; omega) (Nat.le_refl _)
  have hmk2 : (Instr.makeSlice 58 (.int .i64 0) (.int .i64 (max 3 24))).run Tryz.prog w = .ok (.slice (some ⟨w.heap.size, 0, none⟩) 0 24) w1 := hmk
  have hb1 : Below w.heap.size w w1 := (Below.refl _ _).grown hg1 (Nat.le_refl _) (fun k hk => by cases hk)
  have HF := Lib.hid (HF w w.heap.size _ w1 ho1 hb1 hb1.size h8 (hP.keep hb1) (tab_keep hT hb1))
  have H30 : Calls Tryz.prog 30 #[.float .f64 b, .int .u8 103, .int .i64 (-1), .int .i64 64] w fun e w' => e = .returned (.string ⟨s.toArray⟩) ∧ Below w.heap.size w w' := by
    clear hmk ho1 hg1 hb1 hP hT hs hsl h8 hz0 hz1 hz2 hi0
    go_enter Tryz.func30, Tryz.ntmps30
    go_wp2_with (first
      | (go_at_call 55; (with_reducible refine HF.out.mono ?_); rintro e1 w5 ⟨v1, rfl, ho5, hb5⟩; have hcv := own_text ho5; have HB5 := Lib.hid hb5; clear ho5 hb5)
      | fail)
    go_ret
    exact ⟨rfl, HB5.out⟩
  have H30 := Lib.hid H30
  clear HF hmk hmk2 ho1 hg1 hb1 hP hT hs hsl h8 hz0 hz1 hz2 hi0
  go_enter Tryz.func19, Tryz.ntmps19
  go_wp2_with (first
    | (go_at_call 30; (with_reducible refine H30.out.mono ?_); rintro e1 w5 ⟨rfl, hb5⟩)
    | fail)
  go_ret
  exact ⟨rfl, hb5⟩
end Go.Proofs.YtoafiombpokpaaaGreatDoor
