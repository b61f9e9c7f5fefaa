/- The walk of the document's Write: its texts, and the whole. -/
import Derived.Test.YtoafiombpokpaaaGreatDoorRwri
namespace Go.Proofs.YtoafiombpokpaaaGreatDoor
open Go.RowKit

theorem esc_take {l : List UInt8} {i : Nat} {c : UInt8} (h : l[i]? = some c) : esc (l.take (i + 1)) = esc (l.take i) ++ (if c = 39 then [39, 39] else [c]) := by
  rw [List.take_add_one, esc_append, h]
  simp [esc]
theorem ext_one {s : ByteArray} {i : Nat} {c : UInt8} (h : s.data.toList[i]? = some c) : s.extract i (i + 1) = ⟨[c].toArray⟩ := by
  apply ByteArray.ext
  rw [ByteArray.data_extract]
  apply Array.ext'
  rw [Array.toList_extract]
  have hlt := (List.getElem?_eq_some_iff.1 h).1
  have he := (List.getElem?_eq_some_iff.1 h).2
  show (s.data.toList.drop i).take (i + 1 - i) = [c]
  rw [List.drop_eq_getElem_cons hlt, he, show i + 1 - i = 1 by omega]
  rfl
structure TL2 (p : Value) (a : Act) : Prop where
  size : a.tmps.size = 81
  df : a.defers = []
  s1 : a.tmps.getD 1 undef = p
set_option maxRecDepth 100000 in
set_option maxHeartbeats 4000000 in
theorem rwr_tx (n : Int) (f : Nat) (s : ByteArray) (sf : List UInt8) (w0 : World) (H : WrH w0 f s n sf) (w : World) (_hw : Below w0.heap.size w0 w) : Calls Tryz.prog 7 #[vV 3 n f s] w (WrO 3 n f s sf w) := by
  have stf := store_float
  have HC := Lib.hid (show ∀ w, Calls Tryz.prog 17 #[vV 3 n f s] w (RetV (vV 3 0 0 s) w) from fun w => rclean_any 3 n f s w)
  have hB1 := Lib.hid (below1 w (.cells #[.int .i64 3, .int .i64 n, .float .f64 f, .string s] 24))
  have HQ := Lib.hid (heap_alloc_new w (.cells #[.int .i64 3, .int .i64 n, .float .f64 f, .string s] 24))
  have HR := Lib.hid (show wrT 3 n f s sf = [39] ++ (esc s.data.toList ++ [39]) from rfl)
  have hsz := H.hs
  go_enter Tryz.func7, Tryz.ntmps7
  go_upto_region 2 with (first
    | (go_at_call 17; (with_reducible refine (HC.out _).mono ?_); rintro e1 w2 ⟨rfl, hb2⟩; obtain ⟨⟨d0, d1, d2, d3⟩, ⟨f0, f1, f2, f3⟩, l0⟩ := result_kept HQ.out hb2)
    | fail)
  obtain ⟨w3, hw3⟩ : ∃ W, W = ((((w2.setCell ⟨w.heap.size, 0, none⟩ (Value.int IntKind.i64 3)).setCell ⟨w.heap.size, 1, none⟩ (Value.int IntKind.i64 0)).setCell ⟨w.heap.size, 2, none⟩ (Value.float FloatKind.f64 0)).setCell ⟨w.heap.size, 3, none⟩ (Value.string s)) := ⟨_, rfl⟩
  rw [← hw3]
  have q3 : w3.heap[w.heap.size]? = some (.cells #[.int .i64 3, .int .i64 0, .float .f64 0, .string s] 24) := by
    rw [hw3]; exact set_four _ _ _ _ ((hb2.block _ (heap_lt HQ.out)).trans HQ.out)
  have hb3 : Below w.heap.size w w3 := by
    rw [hw3]
    exact ((((hB1.out.trans (hb2.mono hB1.out.size)).setCell (Nat.le_refl _) _).setCell (Nat.le_refl _) _).setCell (Nat.le_refl _) _).setCell (Nat.le_refl _) _
  clear hw3 hb2 d0 d1 d2 d3 f0 f1 f2 f3 l0 HQ HC hB1
  have c0 : w3.cell? ⟨w.heap.size, 0, none⟩ = some (.int .i64 3) := cell_of_row w3 _ 0 _ _ _ q3
  have c3 : w3.cell? ⟨w.heap.size, 3, none⟩ = some (.string s) := cell_of_row w3 _ 3 _ _ _ q3
  clear q3
  have HB := Lib.hid hb3
  clear hb3
  go_wp2_with fail
  rename_i K hK
  have HK := Lib.hid hK
  clear hK
  clear c0
  refine wp_loop (fun a' wr => TL2 (.pointer (some ⟨w.heap.size, 0, none⟩)) a' ∧ wr = w3 ∧ ∃ (i : Nat) (t : ByteArray), i ≤ s.size ∧ t.size ≤ 2 * i + 1 ∧ a'.tmps.getD 4 undef = .int .i64 i ∧ a'.tmps.getD 3 undef = .string t ∧ Hid (t = ⟨([39] ++ esc (s.data.toList.take i)).toArray⟩)) (fun a' _ => s.size - (intOf (a'.tmps.getD 4 undef)).toNat) ?st ?rd
  case st =>
    refine ⟨⟨?_, ?_, ?_⟩, rfl, 0, ⟨#[39]⟩, Nat.zero_le _, by decide, ?_, ?_, Lib.hid (by rw [List.take_zero]; rfl)⟩
    all_goals rfl
  case rd =>
    rintro a wr ⟨hS, rfl, i, t, hi, ht, p4, p3, HT⟩
    obtain ⟨v, hv, hvg⟩ := open81 hS.size
    have p1 := hS.s1
    have hdf := hS.df
    rw [hvg _ (by omega)] at p1 p3 p4
    obtain ⟨tm, df⟩ := a
    dsimp only at hv hdf
    subst hv hdf
    clear hS hvg
    rw [p1, p3, p4]
    clear p1 p3 p4
    by_cases hlt : i < s.size
    · have g1 : ((i : Int) < (s.size : Int)) = True := eq_true (by omega)
      have hil : i < s.data.toList.length := hlt
      obtain ⟨c, hc⟩ : ∃ c, c = s.data.toList[i] := ⟨_, rfl⟩
      have hc2 : s.data.toList[i]? = some c := by rw [hc]; exact List.getElem?_eq_getElem hil
      have hcn : s[i]'hlt = c := by rw [hc]; rfl
      have hcm : ((s[i]'hlt).toNat : Int) = (c.toNat : Int) := by rw [hcn]
      have HES := Lib.hid (esc_take hc2)
      have HCN := Lib.hid hc2
      clear hil hc hc2 hcn
      by_cases h39 : c = 39
      · have g2 : (((s[i]'hlt).toNat : Int) = 39) = True := eq_true (by rw [hcm, h39]; rfl)
        have g3 : (((s[i]'hlt).toNat : Int) == 39) = true := by rw [hcm, h39]; rfl
        have HX := Lib.hid (show t ++ ⟨#[39]⟩ ++ s.extract i (i + 1) = ⟨([39] ++ esc (s.data.toList.take (i + 1))).toArray⟩ by
          rw [HES.out, if_pos h39, HT.out, ext_one HCN.out, h39, show (⟨#[39]⟩ : ByteArray) = ⟨[39].toArray⟩ from rfl, cat_text, cat_text]
          simp)
        have HZ := Lib.hid (show (t ++ ⟨#[39]⟩ ++ s.extract i (i + 1)).size ≤ 2 * (i + 1) + 1 by
          rw [ext_one HCN.out, ByteArray.size_append, ByteArray.size_append]
          show t.size + 1 + 1 ≤ _
          omega)
        clear hcm
        go_wp2_with fail
        refine ⟨⟨⟨?_, ?_, ?_⟩, trivial, i + 1, _, by omega, ?_, ?_, rfl, Lib.hid (HX.out)⟩, ?_⟩
        case refine_4 =>
          have e := HZ.out
          first | exact e | skip
        case refine_6 =>
          show s.size - (intOf (.int .i64 _)).toNat < s.size - (intOf (.int .i64 (i : Int))).toNat
          simp [intOf] <;> omega
        all_goals rfl
      · have hne : ¬ (c.toNat : Int) = 39 := fun h => h39 (UInt8.toNat_inj.1 (by rw [show (39 : UInt8).toNat = 39 from rfl]; omega))
        have g2 : (((s[i]'hlt).toNat : Int) = 39) = False := eq_false (by rw [hcm]; exact hne)
        have g3 : (((s[i]'hlt).toNat : Int) == 39) = false := by rw [hcm, beq_eq_false_iff_ne]; exact hne
        have HX := Lib.hid (show t ++ s.extract i (i + 1) = ⟨([39] ++ esc (s.data.toList.take (i + 1))).toArray⟩ by
          rw [HES.out, if_neg h39, HT.out, ext_one HCN.out, cat_text]
          simp)
        have HZ := Lib.hid (show (t ++ s.extract i (i + 1)).size ≤ 2 * (i + 1) + 1 by
          rw [ext_one HCN.out, ByteArray.size_append]
          show t.size + 1 ≤ _
          omega)
        clear hcm hne
        go_wp2_with fail
        refine ⟨⟨⟨?_, ?_, ?_⟩, trivial, i + 1, _, by omega, ?_, ?_, rfl, Lib.hid (HX.out)⟩, ?_⟩
        case refine_4 =>
          have e := HZ.out
          first | exact e | skip
        case refine_6 =>
          show s.size - (intOf (.int .i64 _)).toNat < s.size - (intOf (.int .i64 (i : Int))).toNat
          simp [intOf] <;> omega
        all_goals rfl
    · have g1 : ((i : Int) < (s.size : Int)) = False := eq_false (by omega)
      obtain rfl : i = s.size := by omega
      have HE := Lib.hid (show t ++ ⟨#[39]⟩ = ⟨(wrT 3 n f s sf).toArray⟩ by
        rw [HR.out, HT.out, show (⟨#[39]⟩ : ByteArray) = ⟨[39].toArray⟩ from rfl, cat_text, show s.size = s.data.toList.length from rfl, List.take_length]
        simp)
      go_wp2_with fail
      refine HK.out _ _ ?_
      go_wp2_with fail
      go_ret
      exact ⟨by rw [← HE.out]; rfl, HB.out⟩
end Go.Proofs.YtoafiombpokpaaaGreatDoor
