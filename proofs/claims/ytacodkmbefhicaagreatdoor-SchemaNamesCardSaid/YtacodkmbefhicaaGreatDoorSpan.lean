/- The walks of letter, digit, the closures, span. -/
import Derived.Test.YtacodkmbefhicaaGreatDoorRKeyword
import Derived.Laws.RangeAny
import Derived.Shelf.GgClosure.Gives
namespace Go.Proofs.YtacodkmbefhicaaGreatDoor
open Go.RowKit

def letP (r : Int) : Bool := decide (r = 95) || (decide (97 ≤ r) && decide (r ≤ 122)) || (decide (65 ≤ r) && decide (r ≤ 90))
def digP (r : Int) : Bool := decide (48 ≤ r) && decide (r ≤ 57)
def blaP (r : Int) : Bool := decide (r = 32) || decide (r = 9) || decide (r = 10) || decide (r = 13)
def namP (r : Int) : Bool := letP r || digP r
def SameV (v : Value) (w : World) (e : Ending) (w' : World) : Prop := e = .returned v ∧ w = w'
theorem ret_b {a b : Bool} (h : a = b) : Ending.returned (.bool a) = .returned (.bool b) := by rw [h]
set_option maxHeartbeats 1000000 in
theorem digit_any (r : Int) (w : World) : Calls Tryz.prog 32 #[.int .i32 r] w (SameV (.bool (digP r)) w) := by
  obtain ⟨b, hb⟩ : ∃ b, b = digP r := ⟨_, rfl⟩
  have HB := Lib.hid hb
  rw [← hb]
  clear hb
  by_cases h1 : 48 ≤ r
  · by_cases h2 : r ≤ 57
    · have HE := Lib.hid (show b = true by rw [HB.out]; simp [digP, h1, h2])
      go_enter Tryz.func32, Tryz.ntmps32
      go_wp2
      go_ret
      exact ⟨ret_b (by rw [HE.out]), rfl⟩
    · have HE := Lib.hid (show b = false by rw [HB.out]; simp [digP, h2])
      go_enter Tryz.func32, Tryz.ntmps32
      go_wp2
      go_ret
      exact ⟨ret_b (by rw [HE.out]), rfl⟩
  · have HE := Lib.hid (show b = false by rw [HB.out]; simp [digP, h1])
    go_enter Tryz.func32, Tryz.ntmps32
    go_wp2
    go_ret
    exact ⟨ret_b (by rw [HE.out]), rfl⟩
set_option maxHeartbeats 2000000 in
theorem letter_any (r : Int) (w : World) : Calls Tryz.prog 30 #[.int .i32 r] w (SameV (.bool (letP r)) w) := by
  obtain ⟨b, hb⟩ : ∃ b, b = letP r := ⟨_, rfl⟩
  have HB := Lib.hid hb
  rw [← hb]
  clear hb
  by_cases h0 : r = 95
  · have HE := Lib.hid (show b = true by rw [HB.out]; simp [letP, h0])
    subst h0
    go_enter Tryz.func30, Tryz.ntmps30
    go_wp2
    go_ret
    exact ⟨ret_b (by rw [HE.out]), rfl⟩
  · have h0b : (r == 95) = false := by simpa using h0
    by_cases h1 : 97 ≤ r
    · by_cases h2 : r ≤ 122
      · have HE := Lib.hid (show b = true by rw [HB.out]; simp [letP, h1, h2])
        clear h0
        go_enter Tryz.func30, Tryz.ntmps30
        go_wp2
        go_ret
        exact ⟨ret_b (by rw [HE.out]), rfl⟩
      · have HE := Lib.hid (show b = false by rw [HB.out]; simp [letP, h0, h2]; omega)
        have h65 : 65 ≤ r := by omega
        have h90 : ¬ r ≤ 90 := by omega
        clear h0
        go_enter Tryz.func30, Tryz.ntmps30
        go_wp2
        go_ret
        exact ⟨ret_b (by rw [HE.out]), rfl⟩
    · by_cases h3 : 65 ≤ r
      · by_cases h4 : r ≤ 90
        · have HE := Lib.hid (show b = true by rw [HB.out]; simp [letP, h3, h4])
          clear h0
          go_enter Tryz.func30, Tryz.ntmps30
          go_wp2
          go_ret
          exact ⟨ret_b (by rw [HE.out]), rfl⟩
        · have HE := Lib.hid (show b = false by rw [HB.out]; simp [letP, h0, h1, h4])
          clear h0
          go_enter Tryz.func30, Tryz.ntmps30
          go_wp2
          go_ret
          exact ⟨ret_b (by rw [HE.out]), rfl⟩
      · have HE := Lib.hid (show b = false by rw [HB.out]; simp [letP, h0, h1, h3])
        clear h0
        go_enter Tryz.func30, Tryz.ntmps30
        go_wp2
        go_ret
        exact ⟨ret_b (by rw [HE.out]), rfl⟩
set_option maxHeartbeats 1000000 in
theorem nam_any (r : Int) (w : World) : Calls Tryz.prog 31 (#[.int .i32 r] ++ #[]) w (SameV (.bool (namP r)) w) := by
  show Calls Tryz.prog 31 #[.int .i32 r] w _
  have HL := Lib.hid (fun W => letter_any r W)
  have HD := Lib.hid (fun W => digit_any r W)
  have HB := Lib.hid (show namP r = (letP r || digP r) from rfl)
  generalize namP r = b at HB ⊢
  generalize letP r = l at HL HB
  generalize digP r = d at HD HB
  cases l with
  | true =>
    go_enter Tryz.func31, Tryz.ntmps31
    go_wp2_with (first
      | (go_at_call 30; (with_reducible refine (HL.out _).mono ?_); rintro e w2 ⟨rfl, rfl⟩)
      | fail)
    go_ret
    exact ⟨ret_b (by rw [HB.out]; rfl), rfl⟩
  | false =>
    go_enter Tryz.func31, Tryz.ntmps31
    go_wp2_with (first
      | (go_at_call 30; (with_reducible refine (HL.out _).mono ?_); rintro e w2 ⟨rfl, rfl⟩)
      | (go_at_call 32; (with_reducible refine (HD.out _).mono ?_); rintro e w2 ⟨rfl, rfl⟩)
      | fail)
    go_ret
    exact ⟨ret_b (by rw [HB.out]; rfl), rfl⟩
set_option maxHeartbeats 2000000 in
theorem bla_any (r : Int) (w : World) : Calls Tryz.prog 20 (#[.int .i32 r] ++ #[]) w (SameV (.bool (blaP r)) w) := by
  show Calls Tryz.prog 20 #[.int .i32 r] w _
  obtain ⟨b, hb⟩ : ∃ b, b = blaP r := ⟨_, rfl⟩
  have HB := Lib.hid hb
  rw [← hb]
  clear hb
  cases e1 : (r == 32) with
  | true =>
    have HE := Lib.hid (show b = true by rw [HB.out]; simp [blaP, beq_iff_eq.1 e1])
    go_enter Tryz.func20, Tryz.ntmps20
    go_wp2
    go_ret
    exact ⟨ret_b (by rw [HE.out]), rfl⟩
  | false =>
    cases e2 : (r == 9) with
    | true =>
      have HE := Lib.hid (show b = true by rw [HB.out]; simp [blaP, beq_iff_eq.1 e2])
      go_enter Tryz.func20, Tryz.ntmps20
      go_wp2
      go_ret
      exact ⟨ret_b (by rw [HE.out]), rfl⟩
    | false =>
      cases e3 : (r == 10) with
      | true =>
        have HE := Lib.hid (show b = true by rw [HB.out]; simp [blaP, beq_iff_eq.1 e3])
        go_enter Tryz.func20, Tryz.ntmps20
        go_wp2
        go_ret
        exact ⟨ret_b (by rw [HE.out]), rfl⟩
      | false =>
        cases e4 : (r == 13) with
        | true =>
          have HE := Lib.hid (show b = true by rw [HB.out]; simp [blaP, beq_iff_eq.1 e4])
          go_enter Tryz.func20, Tryz.ntmps20
          go_wp2
          go_ret
          exact ⟨ret_b (by rw [HE.out]), rfl⟩
        | false =>
          have HE := Lib.hid (show b = false by rw [HB.out]; simp [blaP, beq_eq_false_iff_ne.1 e1, beq_eq_false_iff_ne.1 e2, beq_eq_false_iff_ne.1 e3, beq_eq_false_iff_ne.1 e4])
          go_enter Tryz.func20, Tryz.ntmps20
          go_wp2
          go_ret
          exact ⟨ret_b (by rw [HE.out]), rfl⟩
/-- how many bytes at the beginning of a text are of a kind -/
def spanR (p : Int → Bool) (l : List UInt8) : Nat := (l.takeWhile (fun b => p (b.toNat : Int))).length
theorem spanR_le (p : Int → Bool) (l : List UInt8) : spanR p l ≤ l.length := by
  unfold spanR
  exact (List.takeWhile_sublist _).length_le
theorem span_stop (p : Int → Bool) {l : List UInt8} {k : Nat} {c : UInt8} (h : ∀ j d, j < k → l[j]? = some d → p (d.toNat : Int) = true) (hc : l[k]? = some c) (hp : p (c.toNat : Int) = false) : spanR p l = k := by
  unfold spanR
  induction l generalizing k with
  | nil => simp at hc
  | cons x l ih =>
    cases k with
    | zero =>
      obtain rfl : x = c := by simpa using hc
      rw [List.takeWhile_cons, if_neg (by rw [hp]; decide)]; rfl
    | succ k =>
      rw [List.takeWhile_cons, if_pos (h 0 x (by omega) rfl), List.length_cons, ih (k := k) (fun j d hj hd => h (j + 1) d (by omega) (by simpa using hd)) (by simpa using hc)]
theorem span_all (p : Int → Bool) {l : List UInt8} (h : ∀ j d, j < l.length → l[j]? = some d → p (d.toNat : Int) = true) : spanR p l = l.length := by
  unfold spanR
  induction l with
  | nil => rfl
  | cons x l ih =>
    rw [List.takeWhile_cons, if_pos (h 0 x (by simp) rfl), List.length_cons, ih (fun j d h1 h2 => h (j + 1) d (by simp; omega) (by simpa using h2)), List.length_cons]
set_option maxHeartbeats 2000000 in
theorem span_any (F : Nat) (p : Int → Bool) (eg : ∀ args w, (callFunc F args).run Tryz.prog w = .ok (.enter F args) w) (hp : ∀ r W, Calls Tryz.prog F (#[.int .i32 r] ++ #[]) W (SameV (.bool (p r)) W)) (hhigh : ∀ r, 128 ≤ r → p r = false)
    (s : ByteArray) (hs : s.size ≤ maxLen) (w : World) : Calls Tryz.prog 19 #[.string s, .func (.func F) #[] #[]] w (RetV (.int .i64 (spanR p s.data.toList : Nat)) w) := by
  have hs2 : s.size ≤ 9223372036854775807 := by unfold maxLen at hs; exact Nat.le_trans hs (by decide)
  have HP := Lib.hid hp
  have HH := Lib.hid hhigh
  have hsl : s.data.toList.length = s.size := by show _ = s.data.size; simp
  have HSL := Lib.hid hsl
  obtain ⟨R, hR⟩ : ∃ R : Nat, R = spanR p s.data.toList := ⟨_, rfl⟩
  rw [← hR]
  have HR := Lib.hid hR
  have HG : ∀ (j : Nat) (d : UInt8), s.data.toList[j]? = some d → ∃ h : j < s.size, s[j] = d := fun j d h => by
    have hj := (List.getElem?_eq_some_iff.1 h).1
    refine ⟨by omega, ?_⟩
    have := (List.getElem?_eq_some_iff.1 h).2
    rw [← this]; rfl
  have HGG := Lib.hid HG
  clear hp hhigh hR hsl HG
  go_enter Tryz.func19, Tryz.ntmps19
  go_wp2_with fail
  go_loopw [9] (fun _ wr => ∃ k : Nat, k ≤ s.size ∧ wr = w.iter s k ∧ Hid (∀ j d, j < k → s.data.toList[j]? = some d → p (d.toNat : Int) = true)) (fun _ wr => s.size - wr.iterPos w.heap.size)
  case atStart => exact ⟨0, Nat.zero_le _, rfl, Lib.hid (fun j d h => absurd h (Nat.not_lt_zero _))⟩
  case round =>
    obtain ⟨k, hk, rfl, HC⟩ := hrel
    have hB : Below w.heap.size w (w.iter s k) := (Below.refl _ w).alloc (Nat.le_refl _) _
    have HB := Lib.hid hB
    clear hB
    by_cases hlt : k < s.size
    · obtain ⟨c, hc⟩ : ∃ c, c = s[k] := ⟨_, rfl⟩
      have hcl : s.data.toList[k]? = some c := by rw [hc, Array.getElem?_toList]; exact Array.getElem?_eq_getElem hlt
      have HCL := Lib.hid hcl
      by_cases ha : c.toNat < 128
      · have hnx := fun ty => run_next_ascii (P := Tryz.prog) w s k ty hlt (by rw [← hc]; exact ha)
        rw [← hc] at hnx
        cases hq : p (c.toNat : Int) with
        | true =>
          have HPP := Lib.hid (show ∀ W, Calls Tryz.prog F #[.int .i32 (c.toNat : Int)] W (SameV (.bool true) W) from fun W => by have h := HP.out (c.toNat : Int) W; rw [hq] at h; exact h)
          have HC2 := Lib.hid (show ∀ j d, j < k + 1 → s.data.toList[j]? = some d → p (d.toNat : Int) = true from fun j d h1 h2 => by
            by_cases e : j = k
            · subst e; rw [HCL.out] at h2; cases h2; exact hq
            · exact HC.out j d (by omega) h2)
          clear hq hc hcl
          go_wp2_with (first
            | (go_at_fn F; (with_reducible refine (HPP.out _).mono ?_); rintro e w2 ⟨rfl, rfl⟩)
            | fail)
          go_roundw
          case rel => exact ⟨k + 1, by omega, rfl, HC2⟩
          case measure => simp <;> omega
        | false =>
          have HPP := Lib.hid (show ∀ W, Calls Tryz.prog F #[.int .i32 (c.toNat : Int)] W (SameV (.bool false) W) from fun W => by have h := HP.out (c.toNat : Int) W; rw [hq] at h; exact h)
          have HE := Lib.hid (show R = k by rw [HR.out]; exact span_stop p HC.out HCL.out hq)
          clear hq hc hcl
          go_wp2_with (first
            | (go_at_fn F; (with_reducible refine (HPP.out _).mono ?_); rintro e w2 ⟨rfl, rfl⟩)
            | fail)
          go_ret
          exact ⟨by rw [HE.out]; rfl, (Below.refl _ w).alloc (Nat.le_refl _) _⟩
      · have hnx := fun ty => run_next_any (P := Tryz.prog) w s k ty hlt
        have hdh := decode_high s k hlt (by rw [← hc]; omega)
        obtain ⟨r, hr⟩ : ∃ r, r = (Utf8.decode s k).1 := ⟨_, rfl⟩
        obtain ⟨st, hst⟩ : ∃ st, st = (Utf8.decode s k).2 := ⟨_, rfl⟩
        rw [← hr, ← hst] at hnx
        have hr128 : (128 : Int) ≤ (r : Int) := by rw [hr]; omega
        have HPP := Lib.hid (show ∀ W, Calls Tryz.prog F #[.int .i32 (r : Int)] W (SameV (.bool false) W) from fun W => by have h := HP.out (r : Int) W; rw [HH.out (r : Int) hr128] at h; exact h)
        have HE := Lib.hid (show R = k by rw [HR.out]; exact span_stop p HC.out HCL.out (HH.out _ (by omega)))
        clear hc hcl hdh hr hst
        go_wp2_with (first
          | (go_at_fn F; (with_reducible refine (HPP.out _).mono ?_); rintro e w2 ⟨rfl, rfl⟩)
          | fail)
        go_ret
        exact ⟨by rw [HE.out]; rfl, (Below.refl _ w).alloc (Nat.le_refl _) _⟩
    · have hnx := fun ty => run_next_end (P := Tryz.prog) w s k ty hlt
      have HE := Lib.hid (show R = s.size by
        rw [HR.out, ← HSL.out]
        exact span_all p (fun j d h1 h2 => HC.out j d (by have := HSL.out; omega) h2))
      go_wp2_with fail
      go_ret
      exact ⟨by rw [HE.out]; rfl, HB.out⟩
end Go.Proofs.YtacodkmbefhicaaGreatDoor
