/- The walk of the document's Write: its floats. -/
import Derived.Test.YtoafiombpokpaaaGreatDoorWri
import Derived.Test.YtoafiombpokpaaaGreatDoorRClean
namespace Go.Proofs.YtoafiombpokpaaaGreatDoor
open Go.RowKit

set_option maxRecDepth 100000 in
theorem open81 {a : Act} (h : a.tmps.size = 81) : ∃ u : Nat → Value, a.tmps = #[u 0, u 1, u 2, u 3, u 4, u 5, u 6, u 7, u 8, u 9, u 10, u 11, u 12, u 13, u 14, u 15, u 16, u 17, u 18, u 19, u 20, u 21, u 22, u 23, u 24, u 25, u 26, u 27, u 28, u 29, u 30, u 31, u 32, u 33, u 34, u 35, u 36, u 37, u 38, u 39, u 40, u 41, u 42, u 43, u 44, u 45, u 46, u 47, u 48, u 49, u 50, u 51, u 52, u 53, u 54, u 55, u 56, u 57, u 58, u 59, u 60, u 61, u 62, u 63, u 64, u 65, u 66, u 67, u 68, u 69, u 70, u 71, u 72, u 73, u 74, u 75, u 76, u 77, u 78, u 79, u 80] ∧ ∀ t, t < 81 → a.tmps.getD t undef = u t := by
  refine ⟨fun t => a.tmps.getD t undef, ?_, fun t _ => rfl⟩
  have e : a.tmps = ((List.range 81).map fun t => a.tmps.getD t undef).toArray := by
    apply Array.ext
    · simp [h]
    · intro i h1 h2
      simp [h1]
  exact e
/-- the loop over the letters of a float's text -/
structure FL2 (sb : ByteArray) (a : Act) : Prop where
  size : a.tmps.size = 81
  df : a.defers = []
  s5 : a.tmps.getD 5 undef = .string sb
theorem pointed_take {l : List UInt8} {i : Nat} {c : UInt8} (h : l[i]? = some c) (h2 : pointed (l.take i) = false) : pointed (l.take (i + 1)) = (c == 46 || c == 101) := by
  unfold pointed at *
  rw [List.take_add_one, List.any_append, h2, h]
  simp
theorem pointed_of_take {l : List UInt8} {i : Nat} (h : pointed (l.take i) = true) : pointed l = true := by
  unfold pointed at *
  rw [List.any_eq_true] at h ⊢
  obtain ⟨x, hx, h⟩ := h
  exact ⟨x, List.mem_of_mem_take hx, h⟩

set_option maxRecDepth 100000 in
set_option maxHeartbeats 4000000 in
theorem rwr_fl (n : Int) (f : Nat) (s : ByteArray) (sf : List UInt8) (w0 : World) (H : WrH w0 f s n sf) (w : World) (hw : Below w0.heap.size w0 w) : Calls Tryz.prog 7 #[vV 2 n f s] w (WrO 2 n f s sf w) := by
  have stf := store_float
  have HC := Lib.hid (show ∀ w, Calls Tryz.prog 17 #[vV 2 n f s] w (RetV (vV 2 0 (gz f) ⟨#[]⟩) w) from fun w => rclean_any 2 n f s w)
  have hB1 := Lib.hid (below1 w (.cells #[.int .i64 2, .int .i64 n, .float .f64 f, .string s] 24))
  have HQ := Lib.hid (heap_alloc_new w (.cells #[.int .i64 2, .int .i64 n, .float .f64 f, .string s] 24))
  have HR := Lib.hid (show wrT 2 n f s sf = flT (gz f) sf from rfl)
  have HFF := H.ff
  obtain ⟨z, hz⟩ : ∃ z, z = gz f := ⟨_, rfl⟩
  rw [← hz] at HC HR HFF
  clear hz
  go_enter Tryz.func7, Tryz.ntmps7
  go_upto_region 2 with (first
    | (go_at_call 17; (with_reducible refine (HC.out _).mono ?_); rintro e1 w2 ⟨rfl, hb2⟩; obtain ⟨⟨d0, d1, d2, d3⟩, ⟨f0, f1, f2, f3⟩, l0⟩ := result_kept HQ.out hb2)
    | fail)
  obtain ⟨w3, hw3⟩ : ∃ W, W = ((((w2.setCell ⟨w.heap.size, 0, none⟩ (Value.int IntKind.i64 2)).setCell ⟨w.heap.size, 1, none⟩ (Value.int IntKind.i64 0)).setCell ⟨w.heap.size, 2, none⟩ (Value.float FloatKind.f64 z)).setCell ⟨w.heap.size, 3, none⟩ (Value.string ⟨#[]⟩)) := ⟨_, rfl⟩
  rw [← hw3]
  have q3 : w3.heap[w.heap.size]? = some (.cells #[.int .i64 2, .int .i64 0, .float .f64 z, .string ⟨#[]⟩] 24) := by
    rw [hw3]; exact set_four _ _ _ _ ((hb2.block _ (heap_lt HQ.out)).trans HQ.out)
  have hb3 : Below w.heap.size w w3 := by
    rw [hw3]
    exact ((((hB1.out.trans (hb2.mono hB1.out.size)).setCell (Nat.le_refl _) _).setCell (Nat.le_refl _) _).setCell (Nat.le_refl _) _).setCell (Nat.le_refl _) _
  clear hw3 hb2 d0 d1 d2 d3 f0 f1 f2 f3 l0 HQ HC hB1
  have c0 : w3.cell? ⟨w.heap.size, 0, none⟩ = some (.int .i64 2) := cell_of_row w3 _ 0 _ _ _ q3
  have c2 : w3.cell? ⟨w.heap.size, 2, none⟩ = some (.float .f64 z) := cell_of_row w3 _ 2 _ _ _ q3
  have hw3 : Below w0.heap.size w0 w3 := hw.trans (hb3.mono hw.size)
  clear q3
  have HN := Lib.hid (fun w => number_any z w)
  cases h0 : feq z z with
  | false =>
    have HT := Lib.hid (show flT z sf = nanT by unfold flT; rw [if_pos h0])
    rw [h0] at HN
    clear hw3 HFF
    go_wp2_with (first
      | (go_at_call 18; (with_reducible refine (HN.out _).mono ?_); rintro e1 w4 ⟨rfl, rfl⟩)
      | fail)
    go_ret
    exact ⟨by rw [HR.out, HT.out]; rfl, hb3⟩
  | true =>
    rw [h0] at HN
    cases h1 : gtM z with
    | true =>
      have HT := Lib.hid (show flT z sf = infT by unfold flT; rw [if_neg (by rw [h0]; decide), if_pos h1])
      have g1 : (FloatKind.f64.format.order z 9218868437227405311 == some .gt) = true := h1
      clear hw3 HFF h0 h1
      go_wp2_with (first
        | (go_at_call 18; (with_reducible refine (HN.out _).mono ?_); rintro e1 w4 ⟨rfl, rfl⟩)
        | fail)
      go_ret
      exact ⟨by rw [HR.out, HT.out]; rfl, hb3⟩
    | false =>
      have g1 : (FloatKind.f64.format.order z 9218868437227405311 == some .gt) = false := h1
      cases h2 : ltM z with
      | true =>
        have HT := Lib.hid (show flT z sf = ninfT by unfold flT; rw [if_neg (by rw [h0]; decide), if_neg (by rw [h1]; decide), if_pos h2])
        have g2 : (FloatKind.f64.format.order z 18442240474082181119 == some .lt) = true := h2
        clear hw3 HFF h0 h1 h2
        go_wp2_with (first
          | (go_at_call 18; (with_reducible refine (HN.out _).mono ?_); rintro e1 w4 ⟨rfl, rfl⟩)
          | fail)
        go_ret
        exact ⟨by rw [HR.out, HT.out]; rfl, hb3⟩
      | false =>
        have g2 : (FloatKind.f64.format.order z 18442240474082181119 == some .lt) = false := h2
        have HT := Lib.hid (show flT z sf = if pointed sf = true then sf else sf ++ [46, 48] by unfold flT; rw [if_neg (by rw [h0]; decide), if_neg (by rw [h1]; decide), if_neg (by rw [h2]; decide)])
        obtain ⟨sb, hsb⟩ : ∃ b : ByteArray, b = ⟨sf.toArray⟩ := ⟨_, rfl⟩
        have HF := HFF (by unfold finF; rw [h0, h1, h2]; rfl) w3 hw3
        rw [← hsb] at HF
        have HF := Lib.hid HF
        have HS := Lib.hid hsb
        have hlen : sb.size ≤ 1000 := by rw [hsb]; exact H.fll
        clear hw3 HFF h0 h1 h2 hsb
        go_wp2_with (first
          | (go_at_call 18; (with_reducible refine (HN.out _).mono ?_); rintro e1 w4 ⟨rfl, rfl⟩)
          | (go_at_call 19; (with_reducible refine HF.out.mono ?_); rintro e1 w4 ⟨rfl, hb4⟩)
          | fail)
        rename_i K hK
        have HK := Lib.hid hK
        clear hK
        have HB := Lib.hid (hb3.trans (hb4.mono hb3.size))
        clear hb3 hb4 c0 c2 g1 g2
        refine wp_loop (fun a' wr => FL2 sb a' ∧ wr = w4 ∧ ∃ i : Nat, i ≤ sb.size ∧ a'.tmps.getD 6 undef = .int .i64 i ∧ Hid (pointed (sf.take i) = false)) (fun a' _ => sb.size - (intOf (a'.tmps.getD 6 undef)).toNat) ?st ?rd
        case st =>
          refine ⟨⟨?_, ?_, ?_⟩, rfl, 0, Nat.zero_le _, ?_, Lib.hid (by rw [List.take_zero]; rfl)⟩
          all_goals rfl
        case rd =>
          rintro a wr ⟨hS, rfl, i, hi, p6, HP⟩
          obtain ⟨v, hv, hvg⟩ := open81 hS.size
          have p5 := hS.s5
          have hdf := hS.df
          rw [hvg _ (by omega)] at p5 p6
          obtain ⟨tm, df⟩ := a
          dsimp only at hv hdf
          subst hv hdf
          clear hS hvg
          rw [p5, p6]
          clear p5 p6
          by_cases hlt : i < sb.size
          · have g1 : ((i : Int) < (sb.size : Int)) = True := eq_true (by omega)
            have hil : i < sf.length := by rw [HS.out] at hlt; exact hlt
            obtain ⟨c, hc⟩ : ∃ c, c = sf[i] := ⟨_, rfl⟩
            have hc2 : sf[i]? = some c := by rw [hc]; exact List.getElem?_eq_getElem hil
            have hd : sb.data[i]? = some c := by rw [HS.out]; simpa using hc2
            have HPN := Lib.hid (pointed_take hc2 HP.out)
            have HC2 := Lib.hid hc2
            clear hil hc hc2
            have hcn : sb[i] = c := by
              have h := (Array.getElem?_eq_some_iff.1 hd).2
              exact h
            have hcm : (sb[i].toNat : Int) = (c.toNat : Int) := by rw [hcn]
            by_cases h46 : c = 46
            · have g2 : ((sb[i].toNat : Int) = 46) = True := eq_true (by rw [hcm, h46]; rfl)
              have g3 : ((sb[i].toNat : Int) == 46) = true := by rw [hcm, h46]; rfl
              have HE := Lib.hid (show flT z sf = sf by
                have h := HPN.out
                rw [h46] at h
                rw [HT.out, if_pos (pointed_of_take h)])
              clear hcm hcn hd h46
              go_wp2_with fail
              go_ret
              exact ⟨by rw [HR.out, HE.out, ← HS.out]; rfl, HB.out⟩
            · have hne : ¬ (c.toNat : Int) = 46 := fun h => h46 (UInt8.toNat_inj.1 (by rw [show (46 : UInt8).toNat = 46 from rfl]; omega))
              have g2 : ((sb[i].toNat : Int) = 46) = False := eq_false (by rw [hcm]; exact hne)
              have g3 : ((sb[i].toNat : Int) == 46) = false := by rw [hcm, beq_eq_false_iff_ne]; exact hne
              by_cases h101 : c = 101
              · have g4 : ((sb[i].toNat : Int) = 101) = True := eq_true (by rw [hcm, h101]; rfl)
                have g5 : ((sb[i].toNat : Int) == 101) = true := by rw [hcm, h101]; rfl
                have HE := Lib.hid (show flT z sf = sf by
                  have h := HPN.out
                  rw [h101] at h
                  rw [HT.out, if_pos (pointed_of_take h)])
                clear hcm hcn hd h46 h101 hne
                go_wp2_with fail
                go_ret
                exact ⟨by rw [HR.out, HE.out, ← HS.out]; rfl, HB.out⟩
              · have hne2 : ¬ (c.toNat : Int) = 101 := fun h => h101 (UInt8.toNat_inj.1 (by rw [show (101 : UInt8).toNat = 101 from rfl]; omega))
                have g4 : ((sb[i].toNat : Int) = 101) = False := eq_false (by rw [hcm]; exact hne2)
                have g5 : ((sb[i].toNat : Int) == 101) = false := by rw [hcm, beq_eq_false_iff_ne]; exact hne2
                have HPN := Lib.hid (show pointed (sf.take (i + 1)) = false by rw [HPN.out]; simp [h46, h101])
                clear hcm hcn hd h46 h101 hne hne2
                go_wp2_with fail
                refine ⟨⟨⟨?_, ?_, ?_⟩, trivial, i + 1, by omega, ?_, Lib.hid HPN.out⟩, ?_⟩
                case refine_5 =>
                  show sb.size - (intOf (.int .i64 _)).toNat < sb.size - (intOf (.int .i64 (i : Int))).toNat
                  simp [intOf] <;> omega
                all_goals rfl
          · have g1 : ((i : Int) < (sb.size : Int)) = False := eq_false (by omega)
            obtain rfl : i = sb.size := by omega
            have HE := Lib.hid (show flT z sf = sf ++ [46, 48] by
              have h := HP.out
              rw [show sb.size = sf.length by rw [HS.out]; rfl, List.take_length] at h
              rw [HT.out, if_neg (by rw [h]; decide)])
            go_wp2_with fail
            refine HK.out _ _ ?_
            go_wp2_with fail
            go_ret
            exact ⟨by rw [HR.out, HE.out, ← cat_text, ← HS.out]; rfl, HB.out⟩
end Go.Proofs.YtoafiombpokpaaaGreatDoor
