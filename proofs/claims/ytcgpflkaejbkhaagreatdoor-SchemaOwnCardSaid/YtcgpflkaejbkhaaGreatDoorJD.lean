/- The walk of next at a sign: whatever the text, a sign of one or two bytes, or no word. What the walks ask of the program's variables; the walk of atof64exact. The walk of special at a digit; of bool2. -/
import Derived.Test.YtcgpflkaejbkhaaGreatDoorJC
import Derived.Laws.FloatArith
import Derived.Test.YtcgpflkaejbkhaaGreatDoorJA
namespace Go.Proofs.YtcgpflkaejbkhaaGreatDoor
open Go.RowKit

/-- a word that is no name and no end, of some bytes; or an error -/
def OtherP (s : ByteArray) (w : World) (e : Ending) (w' : World) : Prop := ∃ (k er : Int) (S : ByteArray) (n : Nat), e = .returned (nextV k S n er) ∧ Below w.heap.size w w' ∧ (er = 0 → k ≠ 0 ∧ k ≠ 1 ∧ 1 ≤ n ∧ n ≤ s.size)
theorem prefix2 {s : ByteArray} {a b : UInt8} (h : Lib.hasPrefix s.data.toList [a, b] = true) : 2 ≤ s.size := by
  have hsl : s.data.toList.length = s.size := by show _ = s.data.size; simp
  cases hx : s.data.toList with
  | nil => rw [hx] at h; exact absurd h (by simp [Lib.hasPrefix])
  | cons x l =>
    cases l with
    | nil => rw [hx] at h; exact absurd h (by simp [Lib.hasPrefix])
    | cons y l => rw [hx] at hsl; simp at hsl; omega
set_option maxRecDepth 100000 in
set_option maxHeartbeats 8000000 in
theorem next_sign (s : ByteArray) (w : World) (h0 : 0 < s.size) (hl : letP (s[0].toNat : Int) = false) (hd : digP (s[0].toNat : Int) = false) (hq : s[0] ≠ 39) : Calls Tryz.prog 96 #[.string s] w (OtherP s w) := by
  obtain ⟨c, hc⟩ : ∃ c, c = s[0] := ⟨_, rfl⟩
  have hkc : s[0] = c := hc.symm
  rw [hkc] at hl hd hq
  have hc255 : (c.toNat : Int) ≤ 255 := by have := c.toNat_lt; omega
  have hc0 : (0 : Int) ≤ (c.toNat : Int) := by omega
  have hc39 : ((c.toNat : Int) == 39) = false := by
    rw [beq_eq_false_iff_ne]
    intro h
    exact hq (UInt8.toNat_inj.1 (by simp; omega))
  have hne := text_ne h0
  have HLE := Lib.hid (fun W => hl ▸ letter_any (c.toNat : Int) W)
  have HDI := Lib.hid (fun W => hd ▸ digit_any (c.toNat : Int) W)
  obtain ⟨p1, hp1⟩ : ∃ p, p = Lib.hasPrefix s.data.toList [60, 62] := ⟨_, rfl⟩
  obtain ⟨p2, hp2⟩ : ∃ p, p = Lib.hasPrefix s.data.toList [60, 61] := ⟨_, rfl⟩
  obtain ⟨p3, hp3⟩ : ∃ p, p = Lib.hasPrefix s.data.toList [62, 61] := ⟨_, rfl⟩
  have HP1 := Lib.hid (show ∀ W, Calls Tryz.prog 113 #[.string s, .string ⟨#[60, 62]⟩] W (SameV (.bool p1) W) from fun W => (Tryz.strings_HasPrefix s ⟨#[60, 62]⟩ W).mono (fun e w' h => ⟨by rw [hp1]; exact h.1, h.2.symm⟩))
  have HP2 := Lib.hid (show ∀ W, Calls Tryz.prog 113 #[.string s, .string ⟨#[60, 61]⟩] W (SameV (.bool p2) W) from fun W => (Tryz.strings_HasPrefix s ⟨#[60, 61]⟩ W).mono (fun e w' h => ⟨by rw [hp2]; exact h.1, h.2.symm⟩))
  have HP3 := Lib.hid (show ∀ W, Calls Tryz.prog 113 #[.string s, .string ⟨#[62, 61]⟩] W (SameV (.bool p3) W) from fun W => (Tryz.strings_HasPrefix s ⟨#[62, 61]⟩ W).mono (fun e w' h => ⟨by rw [hp3]; exact h.1, h.2.symm⟩))
  have HQ := Lib.hid (show p1 = true ∨ p2 = true ∨ p3 = true → 2 ≤ s.size from fun h => by
    rcases h with h | h | h
    · exact prefix2 (hp1 ▸ h)
    · exact prefix2 (hp2 ▸ h)
    · exact prefix2 (hp3 ▸ h))
  obtain ⟨x, hx⟩ : ∃ x, x = Lib.indexByte [40, 41, 44, 46, 61, 60, 62, 43, 45, 42, 59] c := ⟨_, rfl⟩
  have HIB := Lib.hid (show ∀ W, Calls Tryz.prog 114 #[.string ⟨#[40, 41, 44, 46, 61, 60, 62, 43, 45, 42, 59]⟩, .int .u8 (c.toNat : Int)] W (SameV (.int .i64 x) W) from fun W => (Tryz.strings_IndexByte ⟨#[40, 41, 44, 46, 61, 60, 62, 43, 45, 42, 59]⟩ (c.toNat : Int) W).mono (fun e w' h => ⟨by rw [hx]; have := h.1; simpa using this, h.2.symm⟩))
  have HS0 := Lib.hid h0
  clear hl hd hq hc hp1 hp2 hp3 hx
  go_enter Tryz.func96, Tryz.ntmps96
  go_wp2_with (first
    | (go_at_call 107; (with_reducible refine (HLE.out _).mono ?_); rintro e w5 ⟨rfl, rfl⟩)
    | (go_at_call 109; (with_reducible refine (HDI.out _).mono ?_); rintro e w6 ⟨rfl, rfl⟩)
    | fail)
  go_loopw [59] (fun i wr => ∃ k : Nat, k ≤ 3 ∧ i = .int .i64 k ∧ wr = (w.alloc (.cells #[.int .i64 0, .string ⟨#[]⟩, .int .i64 0] 102)).alloc (.cells #[.string ⟨#[60, 62]⟩, .string ⟨#[60, 61]⟩, .string ⟨#[62, 61]⟩] 9)) (fun i _ => 3 - (intOf i).toNat)
  case atStart => exact ⟨0, by omega, rfl, rfl⟩
  case round =>
    obtain ⟨k, hk, rfl, rfl⟩ := hrel
    have hk2 : k = 0 ∨ k = 1 ∨ k = 2 ∨ k = 3 := by omega
    rcases hk2 with rfl | rfl | rfl | rfl
    · cases p1 with
      | true =>
        go_wp2_with (first
          | (go_at_call 113; (with_reducible refine (HP1.out _).mono ?_); rintro e w5 ⟨rfl, rfl⟩)
          | fail)
        refine bodyPost_ret (v := nextV 6 ⟨#[60, 62]⟩ 2 0) (by simp [results, Tryz.results96, go_sem, nextV, tokV]) rfl ⟨6, 0, ⟨#[60, 62]⟩, 2, rfl, ?_, fun _ => ⟨by decide, by decide, by omega, HQ.out (by simp)⟩⟩
        exact ((Below.refl _ _).alloc (Nat.le_refl _) _).alloc (by simp) _
      | false =>
        go_wp2_with (first
          | (go_at_call 113; (with_reducible refine (HP1.out _).mono ?_); rintro e w5 ⟨rfl, rfl⟩)
          | fail)
        go_roundw
        case rel => exact ⟨1, by omega, rfl, trivial⟩
        case measure => simp [intOf]
    · cases p2 with
      | true =>
        go_wp2_with (first
          | (go_at_call 113; (with_reducible refine (HP2.out _).mono ?_); rintro e w5 ⟨rfl, rfl⟩)
          | fail)
        refine bodyPost_ret (v := nextV 6 ⟨#[60, 61]⟩ 2 0) (by simp [results, Tryz.results96, go_sem, nextV, tokV]) rfl ⟨6, 0, ⟨#[60, 61]⟩, 2, rfl, ?_, fun _ => ⟨by decide, by decide, by omega, HQ.out (by simp)⟩⟩
        exact ((Below.refl _ _).alloc (Nat.le_refl _) _).alloc (by simp) _
      | false =>
        go_wp2_with (first
          | (go_at_call 113; (with_reducible refine (HP2.out _).mono ?_); rintro e w5 ⟨rfl, rfl⟩)
          | fail)
        go_roundw
        case rel => exact ⟨2, by omega, rfl, trivial⟩
        case measure => simp [intOf]
    · cases p3 with
      | true =>
        go_wp2_with (first
          | (go_at_call 113; (with_reducible refine (HP3.out _).mono ?_); rintro e w5 ⟨rfl, rfl⟩)
          | fail)
        refine bodyPost_ret (v := nextV 6 ⟨#[62, 61]⟩ 2 0) (by simp [results, Tryz.results96, go_sem, nextV, tokV]) rfl ⟨6, 0, ⟨#[62, 61]⟩, 2, rfl, ?_, fun _ => ⟨by decide, by decide, by omega, HQ.out (by simp)⟩⟩
        exact ((Below.refl _ _).alloc (Nat.le_refl _) _).alloc (by simp) _
      | false =>
        go_wp2_with (first
          | (go_at_call 113; (with_reducible refine (HP3.out _).mono ?_); rintro e w5 ⟨rfl, rfl⟩)
          | fail)
        go_roundw
        case rel => exact ⟨3, by omega, rfl, trivial⟩
        case measure => simp [intOf]
    · by_cases hx0 : x < 0
      · go_wp2_with (first
          | (go_at_call 114; (with_reducible refine (HIB.out _).mono ?_); rintro e w5 ⟨rfl, rfl⟩)
          | fail)
        refine bodyPost_ret (v := nextV 0 ⟨#[]⟩ 0 100) (by simp [results, Tryz.results96, go_sem, nextV, tokV]) rfl ⟨0, 100, ⟨#[]⟩, 0, rfl, ?_, fun h => absurd h (by decide)⟩
        exact ((Below.refl _ _).alloc (Nat.le_refl _) _).alloc (by simp) _
      · have hsz1 : ((1 : Int) ≤ (s.size : Int)) = True := eq_true (by have := HS0.out; omega)
        go_wp2_with (first
          | (go_at_call 114; (with_reducible refine (HIB.out _).mono ?_); rintro e w5 ⟨rfl, rfl⟩)
          | fail)
        refine bodyPost_ret (v := nextV 6 (s.extract 0 1) 1 0) (by simp [results, Tryz.results96, go_sem, nextV, tokV]) rfl ⟨6, 0, s.extract 0 1, 1, rfl, ?_, fun _ => ⟨by decide, by decide, by omega, HS0.out⟩⟩
        exact ((Below.refl _ _).alloc (Nat.le_refl _) _).alloc (by simp) _
end Go.Proofs.YtcgpflkaejbkhaaGreatDoor
namespace Go.Proofs.YtcgpflkaejbkhaaGreatDoor
open Go.RowKit

/-- the program's variables: MaxLen, optimize, float64info, float64pow10 -/
structure Glob (m : Int) (t : Nat → Nat) (W : World) : Prop where
  mx : W.cell? ⟨0, 0, none⟩ = some (.int .i64 m)
  opt : W.cell? ⟨4, 0, none⟩ = some (.bool true)
  bits : W.cell? ⟨5, 0, none⟩ = some (.int .u64 52)
  tab : ∃ a c, W.cell? ⟨8, 0, none⟩ = some (.slice (some a) 23 c) ∧ ∀ j, j < 23 → W.cell? (a.add j) = some (.float .f64 (t j))
theorem Glob.keep {m : Int} {t : Nat → Nat} {W w2 : World} (h : Glob m t W) (hB : Below W.heap.size W w2) : Glob m t w2 := by
  obtain ⟨h1, h2, h3, a, c, h4, h5⟩ := h
  refine ⟨cell_kept h1 hB, cell_kept h2 hB, cell_kept h3 hB, a, c, cell_kept h4 hB, fun j hj => ?_⟩
  exact (hB.cell (World.block_lt_of_cell? W _ (h5 j hj))).trans (h5 j hj)
/-- a finite number that is not zero -/
def finD : Ieee.Datum → Bool
  | .number _ n _ => n != 0
  | _ => false
theorem read_le {x : Nat} (h : x ≤ Ieee.double.infRung) : (Ieee.double.read x).isNaN = false := by
  have h1 : Ieee.double.infRung = 9218868437227405312 := by decide
  have h2 : Ieee.double.signWeight = 9223372036854775808 := by decide
  have h3 : x % Ieee.double.signWeight = x := Nat.mod_eq_of_lt (by omega)
  unfold Ieee.Format.read
  simp only [h3]
  split
  · rfl
  · split
    · rfl
    · split
      · rfl
      · omega
theorem nearest_le (f : Ieee.Format) (m : Nat) (p : Int) : f.nearest false m p ≤ f.infRung := by
  unfold Ieee.Format.nearest
  split
  · exact Nat.zero_le _
  · exact Nat.min_le_right _ _
theorem nearest_of (f : Ieee.Format) (M : Nat) : f.write (.number (decide ((M : Int) < 0)) (M : Int).natAbs 0) ≤ f.infRung := by
  rw [show decide ((M : Int) < 0) = false from decide_eq_false (by omega)]
  exact nearest_le f _ _
theorem quot_some {x y : Nat} (hx : (Ieee.double.read x).isNaN = false) (hy : finD (Ieee.double.read y) = true) : ∃ r, floatBits .quo .f64 x y = some r := by
  show ∃ r, Ieee.double.div x y = some r
  unfold Ieee.Format.div
  cases hb : Ieee.double.read y with
  | nan s f => rw [hb] at hy; cases hy
  | infinity s => rw [hb] at hy; cases hy
  | number s n p =>
    rw [hb] at hy
    have hn : n ≠ 0 := by simpa [finD] using hy
    cases ha : Ieee.double.read x with
    | nan s f => rw [ha] at hx; cases hx
    | infinity s2 => exact ⟨_, rfl⟩
    | number s2 m q =>
      unfold Ieee.Datum.quotient
      simp only [if_neg hn]
      exact ⟨_, rfl⟩
theorem ofInt_some (M : Nat) : (Ieee.double.read (floatOfInt .f64 (M : Int))).isNaN = false := by
  exact read_le (nearest_of Ieee.double M)
set_option maxRecDepth 100000 in
set_option maxHeartbeats 4000000 in
theorem exact_any (m : Int) (t : Nat → Nat) (ht : ∀ j, j < 23 → finD (Ieee.double.read (t j)) = true) (M e : Nat) (hM : M < 4503599627370496) (he : e ≤ 22) : ∃ f, ∀ W, Glob m t W → Calls Tryz.prog 167 #[.int .u64 (M : Int), .int .i64 (-(e : Int)), .bool false] W (RetV (.tuple #[.float .f64 f, .bool true]) W) := by
  obtain ⟨g, hg, hgn⟩ : ∃ g, (∀ W, (convert 124 169 (.int .u64 (M : Int))).run Tryz.prog W = .ok (.float .f64 g) W) ∧ (Ieee.double.read g).isNaN = false := ⟨_, fun W => run_convert_int_float W 124 169 .u64 .f64 _ (by rw [Tryz.underlying124]; rfl) Tryz.underlying169, ofInt_some M⟩
  obtain ⟨q, hq0⟩ := quot_some hgn (ht e (by omega))
  have hq : ∀ W, (binOp .quo 169 (.float .f64 g) (.float .f64 (t e))).run Tryz.prog W = .ok (.float .f64 q) W := fun W => run_float_arith W .quo 169 .f64 g (t e) _ hq0
  have hsh : ∀ W, (binOp .shr 116 (.int .u64 (M : Int)) (.int .u64 52)).run Tryz.prog W = .ok (.int .u64 0) W := by
    intro W
    have h : ((M : Int).fdiv (2 ^ min 52 IntKind.u64.bits)) = 0 := by
      rw [show min 52 IntKind.u64.bits = 52 from rfl, Int.fdiv_eq_ediv_of_nonneg _ (by decide)]
      exact Int.ediv_eq_zero_of_lt (by omega) (by omega)
    simp [binOp, Op.shift, h]
  by_cases h0 : e = 0
  · subst h0
    refine ⟨g, fun W hG => ?_⟩
    have hbits := hG.bits
    go_enter Tryz.func167, Tryz.ntmps167
    go_wp2_with fail
    exact bodyPost_ret (v := .tuple #[.float .f64 g, .bool true]) (by simp [results, Tryz.results167, go_sem]) rfl ⟨rfl, Below.refl _ _⟩
  · refine ⟨q, fun W hG => ?_⟩
    have hbits := hG.bits
    obtain ⟨a, c, htab, hcell⟩ := hG.tab
    have hce := hcell e (by omega)
    have h1 : ((0 : Int) < -(e : Int)) = False := eq_false (by omega)
    have h2 : (-(e : Int) == 0) = false := by rw [beq_eq_false_iff_ne]; omega
    have h3 : (-(e : Int) < 0) = True := eq_true (by omega)
    have h4 : ((-22 : Int) ≤ -(e : Int)) = True := eq_true (by omega)
    go_enter Tryz.func167, Tryz.ntmps167
    go_wp2_with fail
    exact bodyPost_ret (v := .tuple #[.float .f64 q, .bool true]) (by simp [results, Tryz.results167, go_sem]) rfl ⟨rfl, Below.refl _ _⟩
end Go.Proofs.YtcgpflkaejbkhaaGreatDoor
namespace Go.Proofs.YtcgpflkaejbkhaaGreatDoor
open Go.RowKit

theorem digP_iff {r : Int} : digP r = true ↔ 48 ≤ r ∧ r ≤ 57 := by simp [digP]
set_option maxRecDepth 100000 in
set_option maxHeartbeats 4000000 in
theorem special_any (s : ByteArray) (w : World) (h0 : 0 < s.size) (hd : digP (s[0].toNat : Int) = true) : Calls Tryz.prog 156 #[.string s] w (RetV (.tuple #[.float .f64 0, .int .i64 0, .bool false]) w) := by
  obtain ⟨c, hc⟩ : ∃ c, c = s[0] := ⟨_, rfl⟩
  have hkc : s[0] = c := hc.symm
  rw [hkc] at hd
  obtain ⟨d1, d2⟩ := digP_iff.1 hd
  have h43 : ((c.toNat : Int) == 43) = false := by rw [beq_eq_false_iff_ne]; omega
  have h45 : ((c.toNat : Int) == 45) = false := by rw [beq_eq_false_iff_ne]; omega
  have h105 : ((c.toNat : Int) == 105) = false := by rw [beq_eq_false_iff_ne]; omega
  have h73 : ((c.toNat : Int) == 73) = false := by rw [beq_eq_false_iff_ne]; omega
  have h110 : ((c.toNat : Int) == 110) = false := by rw [beq_eq_false_iff_ne]; omega
  have h78 : ((c.toNat : Int) == 78) = false := by rw [beq_eq_false_iff_ne]; omega
  have hs0 : ((s.size : Int) == 0) = false := by rw [beq_eq_false_iff_ne]; omega
  have hc255 : (c.toNat : Int) ≤ 255 := by have := c.toNat_lt; omega
  have hc0 : (0 : Int) ≤ (c.toNat : Int) := by omega
  clear hc hd d1 d2
  go_enter Tryz.func156, Tryz.ntmps156
  go_wp2_with fail
  exact bodyPost_ret (v := .tuple #[.float .f64 0, .int .i64 0, .bool false]) (by simp [results, Tryz.results156, go_sem]) rfl ⟨rfl, Below.refl _ _⟩
theorem bool2_any (w : World) : Calls Tryz.prog 165 #[.bool false] w (RetV (.int .u64 0) w) := by
  go_enter Tryz.func165, Tryz.ntmps165
  go_wp2_with fail
  go_ret
  exact ⟨rfl, Below.refl _ _⟩
end Go.Proofs.YtcgpflkaejbkhaaGreatDoor
