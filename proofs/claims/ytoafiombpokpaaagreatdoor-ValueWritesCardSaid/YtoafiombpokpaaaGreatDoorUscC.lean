/- The walk of strconv's shortFloat: the shortest digits of a float, whatever they are. -/
import Derived.Test.YtoafiombpokpaaaGreatDoorUscB
namespace Go.Proofs.YtoafiombpokpaaaGreatDoor
open Go.RowKit

def dropC : Nat → Code → Code
  | 0, c => c
  | k + 1, .seq _ b => dropC k b
  | _ + 1, c => c
noncomputable def sfC (k : Nat) : Code := dropC k (Tryz.f87.body.getD .skip)
set_option maxRecDepth 100000 in
theorem open133 {a : Act} (h : a.tmps.size = 133) : ∃ u : Nat → Value, a.tmps = #[u 0, u 1, u 2, u 3, u 4, u 5, u 6, u 7, u 8, u 9, u 10, u 11, u 12, u 13, u 14, u 15, u 16, u 17, u 18, u 19, u 20, u 21, u 22, u 23, u 24, u 25, u 26, u 27, u 28, u 29, u 30, u 31, u 32, u 33, u 34, u 35, u 36, u 37, u 38, u 39, u 40, u 41, u 42, u 43, u 44, u 45, u 46, u 47, u 48, u 49, u 50, u 51, u 52, u 53, u 54, u 55, u 56, u 57, u 58, u 59, u 60, u 61, u 62, u 63, u 64, u 65, u 66, u 67, u 68, u 69, u 70, u 71, u 72, u 73, u 74, u 75, u 76, u 77, u 78, u 79, u 80, u 81, u 82, u 83, u 84, u 85, u 86, u 87, u 88, u 89, u 90, u 91, u 92, u 93, u 94, u 95, u 96, u 97, u 98, u 99, u 100, u 101, u 102, u 103, u 104, u 105, u 106, u 107, u 108, u 109, u 110, u 111, u 112, u 113, u 114, u 115, u 116, u 117, u 118, u 119, u 120, u 121, u 122, u 123, u 124, u 125, u 126, u 127, u 128, u 129, u 130, u 131, u 132] ∧ ∀ t, t < 133 → a.tmps.getD t undef = u t := by
  refine ⟨fun t => a.tmps.getD t undef, ?_, fun t _ => rfl⟩
  have e : a.tmps = ((List.range 133).map fun t => a.tmps.getD t undef).toArray := by
    apply Array.ext
    · simp [h]
    · intro i h1 h2
      simp [h1]
  exact e
def SFO (w : World) (d : Nat) (q : Int) (e : Ending) (w' : World) : Prop := e = .returned (.tuple #[.int .u64 (d : Int), .int .i64 q]) ∧ Below w.heap.size w w'
theorem res_tt {fn : Func} {i j : Nat} (h : fn.results = #[.tmp i, .tmp j]) {tm : Array Value} {W : World} {s t : Value} (hp : tm[i]?.getD undef = s) (he : tm[j]?.getD undef = t) : (results fn tm).run Tryz.prog W = .ok (.tuple #[s, t]) W := by
  simp [results, h, go_sem, hp, he]
structure S87 (m : Nat) (e p : Int) (mn mx odd : Nat) (a : Act) : Prop where
  size : a.tmps.size = 133
  df : a.defers = []
  s0 : a.tmps.getD 0 undef = .int .u64 (m : Int)
  s1 : a.tmps.getD 1 undef = .int .i64 e
  s5 : a.tmps.getD 5 undef = .int .i64 p
  s8 : a.tmps.getD 8 undef = .int .u64 (mn : Int)
  s9 : a.tmps.getD 9 undef = .int .u64 (mx : Int)
  s10 : a.tmps.getD 10 undef = .int .i64 (odd : Int)
theorem cells3 {W : World} {b : Nat} {u0 u1 u2 : Value} {ty : TypeId} {fr : Nat × Nat} (h : W.heap[b]? = some (.cells #[u0, u1, u2] ty fr)) : W.cell? ⟨b, 0, none⟩ = some u0 ∧ W.cell? ⟨b, 1, none⟩ = some u1 ∧ W.cell? ⟨b, 2, none⟩ = some u2 := ⟨cell_of_row _ _ 0 _ _ _ h, cell_of_row _ _ 1 _ _ _ h, cell_of_row _ _ 2 _ _ _ h⟩
theorem set3_heap {W : World} {b : Nat} {u0 u1 u2 v0 v1 v2 : Value} {ty : TypeId} (h : W.heap[b]? = some (.cells #[u0, u1, u2] ty)) : (((W.setCell ⟨b, 0, none⟩ v0).setCell ⟨b, 1, none⟩ v1).setCell ⟨b, 2, none⟩ v2).heap[b]? = some (.cells #[v0, v1, v2] ty) := by
  have h1 : (W.setCell ⟨b, 0, none⟩ v0).heap[b]? = some (.cells #[v0, u1, u2] ty) := by
    rw [setCell_eq_setRow W b 0 _ ty _ _ h, setRow_heap W b _ _ ty _ h]
    rfl
  have h2 : ((W.setCell ⟨b, 0, none⟩ v0).setCell ⟨b, 1, none⟩ v1).heap[b]? = some (.cells #[v0, v1, u2] ty) := by
    rw [setCell_eq_setRow _ b 1 _ ty _ _ h1, setRow_heap _ b _ _ ty _ h1]
    rfl
  rw [setCell_eq_setRow _ b 2 _ ty _ _ h2, setRow_heap _ b _ _ ty _ h2]
  rfl
set_option maxRecDepth 100000 in
set_option maxHeartbeats 4000000 in
theorem sf_tail (P : Nat → Nat) (hPb : ∀ k, P k < 18446744073709551616) (m mn mx odd : Nat) (hm : m < 18446744073709551616) (hmn : mn < 18446744073709551616) (hmx : mx < 18446744073709551616) (hodd : odd ≤ 1) (e p : Int) (he : -1140 ≤ e ∧ e ≤ 1000) (hp : -340 ≤ p ∧ p ≤ 340) (hs0 : 0 ≤ -(e + p * 108853 / 32768 + 3)) (hs1 : -(e + p * 108853 / 32768 + 3) < 64) :
    ∃ (d : Nat) (q : Int), d < 18446744073709551616 ∧ -400 ≤ q ∧ q ≤ 400 ∧ ∀ (w0 : World) (a : Act) (w : World), Below w0.heap.size w0 w → PowAt P w → 8 < w0.heap.size → S87 m e p mn mx odd a → (sfC 7).wp Tryz.prog (bodyPost Tryz.prog Tryz.f87 (SFO w0 d q)) a w := by
  obtain ⟨k, rfl⟩ : ∃ k : Nat, p = (k : Int) - 348 := ⟨(p + 348).toNat, by omega⟩
  have hk : k ≤ 690 := by omega
  obtain ⟨lp, hlp⟩ : ∃ lp : Int, lp = ((k : Int) - 348) * 108853 / 32768 := ⟨_, rfl⟩
  have HLP := Lib.hid (show ∀ w, Calls Tryz.prog 104 #[.int .i64 ((k : Int) - 348)] w fun e w' => e = .returned (.int .i64 lp) ∧ w = w' from fun w => by rw [hlp]; exact log2_any _ (by omega) (by omega) w)
  rw [← hlp] at hs0 hs1
  have hl1 : -10000 ≤ lp := by omega
  have hl2 : lp ≤ 10000 := by omega
  clear hlp
  obtain ⟨s, hs⟩ : ∃ s : Nat, (s : Int) = -(e + lp + 3) := ⟨(-(e + lp + 3)).toNat, by omega⟩
  have hs64 : s < 64 := by omega
  obtain ⟨u1, hu1, H1⟩ := uscale_any mn (P (k * 2)) (P (k * 2 + 1)) s hmn (hPb _) (hPb _) hs64
  obtain ⟨u2, hu2, H2⟩ := uscale_any mx (P (k * 2)) (P (k * 2 + 1)) s hmx (hPb _) (hPb _) hs64
  obtain ⟨u3, hu3, H3⟩ := uscale_any m (P (k * 2)) (P (k * 2 + 1)) s hm (hPb _) (hPb _) hs64
  have HU1 := Lib.hid H1
  have HU2 := Lib.hid H2
  have HU3 := Lib.hid H3
  obtain ⟨n1, hn1⟩ : ∃ n : Nat, n = (((u1 : Int) + (odd : Int)) % 18446744073709551616).toNat := ⟨_, rfl⟩
  have HN1 := Lib.hid (show ∀ w, Calls Tryz.prog 106 #[.int .u64 u1, .int .i64 (odd : Int)] w fun e w' => e = .returned (.int .u64 (n1 : Int)) ∧ w = w' from fun w => by rw [hn1]; exact nudge_any u1 odd hu1 (by omega) (by omega) w)
  have b1 : n1 < 18446744073709551616 := by omega
  obtain ⟨n2, hn2⟩ : ∃ n : Nat, n = (((u2 : Int) + -(odd : Int)) % 18446744073709551616).toNat := ⟨_, rfl⟩
  have HN2 := Lib.hid (show ∀ w, Calls Tryz.prog 106 #[.int .u64 u2, .int .i64 (-(odd : Int))] w fun e w' => e = .returned (.int .u64 (n2 : Int)) ∧ w = w' from fun w => by rw [hn2]; exact nudge_any u2 (-odd) hu2 (by omega) (by omega) w)
  have b2 : n2 < 18446744073709551616 := by omega
  obtain ⟨c1, hc1⟩ : ∃ n : Nat, n = (n1 + 3) % 18446744073709551616 / 4 := ⟨_, rfl⟩
  have HC1 := Lib.hid (show ∀ w, Calls Tryz.prog 107 #[.int .u64 n1] w fun e w' => e = .returned (.int .u64 (c1 : Int)) ∧ w = w' from fun w => by rw [hc1]; exact ceil_any n1 b1 w)
  obtain ⟨c2, hc2⟩ : ∃ n : Nat, n = n2 / 4 := ⟨_, rfl⟩
  have HC2 := Lib.hid (show ∀ w, Calls Tryz.prog 108 #[.int .u64 n2] w fun e w' => e = .returned (.int .u64 (c2 : Int)) ∧ w = w' from fun w => by rw [hc2]; exact floor_any n2 b2 w)
  obtain ⟨c3, hc3⟩ : ∃ n : Nat, n = (u3 + 1 + u3 / 4 % 2) % 18446744073709551616 / 4 := ⟨_, rfl⟩
  have HC3 := Lib.hid (show ∀ w, Calls Tryz.prog 109 #[.int .u64 u3] w fun e w' => e = .returned (.int .u64 (c3 : Int)) ∧ w = w' from fun w => by rw [hc3]; exact round_any u3 hu3 w)
  have d1 : c1 < 18446744073709551616 := by omega
  have d2 : c2 < 18446744073709551616 := by omega
  have d3 : c3 < 18446744073709551616 := by omega
  clear hn1 hn2 hc1 hc2 hc3 H1 H2 H3 hs0 hs1
  have key : ∀ (d : Nat) (q : Int), (c1 ≤ c2 / 10 * 10 → d = c2 / 10 ∧ q = -((k : Int) - 348 - 1)) → (¬ c1 ≤ c2 / 10 * 10 → c1 < c2 → d = c3 ∧ q = -((k : Int) - 348)) → (¬ c1 ≤ c2 / 10 * 10 → ¬ c1 < c2 → d = c1 ∧ q = -((k : Int) - 348)) →
      ∀ (w0 : World) (a : Act) (w : World), Below w0.heap.size w0 w → PowAt P w → 8 < w0.heap.size → S87 m e ((k : Int) - 348) mn mx odd a → (sfC 7).wp Tryz.prog (bodyPost Tryz.prog Tryz.f87 (SFO w0 d q)) a w := by
    intro d q hA hB hC w0 a w hB0 hP h8 hS
    have hb8 : 8 < w.heap.size := Nat.lt_of_lt_of_le h8 hB0.size
    have hz := heap_alloc_new w (.cells #[.int .u64 0, .int .u64 0, .int .i64 0] 127)
    have HPR := Lib.hid (prescale_any P w.heap.size (.int .u64 0) (.int .u64 0) (.int .i64 0) e lp k hk (by omega) (by omega) hl1 hl2 (w.alloc (.cells #[.int .u64 0, .int .u64 0, .int .i64 0] 127)) (hP.keep (below1 w _)) hz hb8)
    have h3 := set3_heap (v0 := .int .u64 (P (k * 2))) (v1 := .int .u64 (P (k * 2 + 1))) (v2 := .int .i64 (-(e + lp + 3))) hz
    have hBB : Below w.heap.size w ((((w.alloc (.cells #[.int .u64 0, .int .u64 0, .int .i64 0] 127)).setCell ⟨w.heap.size, 0, none⟩ (.int .u64 (P (k * 2)))).setCell ⟨w.heap.size, 1, none⟩ (.int .u64 (P (k * 2 + 1)))).setCell ⟨w.heap.size, 2, none⟩ (.int .i64 (-(e + lp + 3)))) := (((below1 w _).setCell (Nat.le_refl _) _).setCell (Nat.le_refl _) _).setCell (Nat.le_refl _) _
    rw [← hs] at h3 hBB HPR
    have HD := Lib.hid hA
    have HE := Lib.hid hB
    have HF := Lib.hid hC
    have HB0 := Lib.hid hB0
    generalize hW3 : (((w.alloc (.cells #[.int .u64 0, .int .u64 0, .int .i64 0] 127)).setCell ⟨w.heap.size, 0, none⟩ (.int .u64 (P (k * 2)))).setCell ⟨w.heap.size, 1, none⟩ (.int .u64 (P (k * 2 + 1)))).setCell ⟨w.heap.size, 2, none⟩ (.int .i64 (s : Int)) = W3 at h3 hBB HPR
    obtain ⟨x0, x1, x2⟩ := cells3 h3
    have HBB := Lib.hid hBB
    clear hA hB hC hz h3 hBB hW3 hP hs hB0
    obtain ⟨u, hu, hug⟩ := open133 hS.size
    have p0 := hS.s0; have p1 := hS.s1; have p5 := hS.s5; have p8 := hS.s8; have p9 := hS.s9; have p10 := hS.s10
    have hdf := hS.df
    rw [hug _ (by omega)] at p0 p1 p5 p8 p9 p10
    obtain ⟨tm, df⟩ := a
    dsimp only at hu hdf
    subst hu hdf
    clear hS hug
    rw [p0, p1, p5, p8, p9, p10]
    clear p0 p1 p5 p8 p9 p10
    conv => arg 2; whnf
    go_wp2_with (first
      | (go_at_call 104; (with_reducible refine (HLP.out _).mono ?_); rintro e1 w1 ⟨rfl, rfl⟩)
      | (go_at_call 103; (with_reducible refine HPR.out.mono ?_); rintro e1 w1 ⟨rfl, rfl⟩)
      | (go_at_call 105; (with_reducible refine (HU1.out _ _ x0 x1 x2).mono ?_); rintro e1 w1 ⟨rfl, hB1⟩
         have y0 := cell_kept x0 hB1
         have y1 := cell_kept x1 hB1
         have y2 := cell_kept x2 hB1
         have HB1 := Lib.hid (HBB.out.trans (hB1.mono HBB.out.size))
         clear hB1)
      | (go_at_call 105; (with_reducible refine (HU2.out _ _ y0 y1 y2).mono ?_); rintro e1 w2 ⟨rfl, hB2⟩
         have z0 := cell_kept y0 hB2
         have z1 := cell_kept y1 hB2
         have z2 := cell_kept y2 hB2
         have HB2 := Lib.hid (HB1.out.trans (hB2.mono HB1.out.size))
         clear hB2)
      | (go_at_call 105; (with_reducible refine (HU3.out _ _ z0 z1 z2).mono ?_); rintro e1 w3 ⟨rfl, hB3⟩
         have HB3 := Lib.hid (HB2.out.trans (hB3.mono HB2.out.size))
         clear hB3)
      | (go_at_call 106; (with_reducible refine (HN1.out _).mono ?_); rintro e1 w1 ⟨rfl, rfl⟩)
      | (go_at_call 106; (with_reducible refine (HN2.out _).mono ?_); rintro e1 w1 ⟨rfl, rfl⟩)
      | (go_at_call 107; (with_reducible refine (HC1.out _).mono ?_); rintro e1 w1 ⟨rfl, rfl⟩)
      | (go_at_call 108; (with_reducible refine (HC2.out _).mono ?_); rintro e1 w1 ⟨rfl, rfl⟩)
      | (go_at_call 109; (with_reducible refine (HC3.out _).mono ?_); rintro e1 w1 ⟨rfl, rfl⟩)
      | fail)
    · obtain ⟨rfl, rfl⟩ := HD.out (by omega)
      refine bodyPost_ret (res_tt rfl rfl rfl) rfl ⟨?_, HB0.out.trans (HB2.out.mono HB0.out.size)⟩
      rw [Int.natCast_ediv]
      rfl
    · obtain ⟨rfl, rfl⟩ := HE.out (by omega) (by omega)
      exact bodyPost_ret (res_tt rfl rfl rfl) rfl ⟨rfl, HB0.out.trans (HB3.out.mono HB0.out.size)⟩
    · obtain ⟨rfl, rfl⟩ := HF.out (by omega) (by omega)
      exact bodyPost_ret (res_tt rfl rfl rfl) rfl ⟨rfl, HB0.out.trans (HB2.out.mono HB0.out.size)⟩
  by_cases h1 : c1 ≤ c2 / 10 * 10
  · exact ⟨c2 / 10, -((k : Int) - 348 - 1), by omega, by omega, by omega, key _ _ (fun _ => ⟨rfl, rfl⟩) (fun h => absurd h1 h) (fun h => absurd h1 h)⟩
  · by_cases h2 : c1 < c2
    · exact ⟨c3, -((k : Int) - 348), by omega, by omega, by omega, key _ _ (fun h => absurd h h1) (fun _ _ => ⟨rfl, rfl⟩) (fun _ h => absurd h2 h)⟩
    · exact ⟨c1, -((k : Int) - 348), by omega, by omega, by omega, key _ _ (fun h => absurd h h1) (fun _ h => absurd h h2) (fun _ _ => ⟨rfl, rfl⟩)⟩
end Go.Proofs.YtoafiombpokpaaaGreatDoor
