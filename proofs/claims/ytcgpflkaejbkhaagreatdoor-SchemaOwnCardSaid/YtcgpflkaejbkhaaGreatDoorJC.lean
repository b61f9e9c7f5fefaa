/- The walks of letter, digit, the closures, span. The walk of next, at a word that begins with a letter. The walks of next, number at the small texts of lives. -/
import Derived.Test.YtcgpflkaejbkhaaGreatDoorJB
import Derived.Laws.RangeAny
import Derived.Shelf.GgClosure.Gives
namespace Go.Proofs.YtcgpflkaejbkhaaGreatDoor
open Go.RowKit

def letP (r : Int) : Bool := decide (r = 95) || (decide (97 ≤ r) && decide (r ≤ 122)) || (decide (65 ≤ r) && decide (r ≤ 90))
def digP (r : Int) : Bool := decide (48 ≤ r) && decide (r ≤ 57)
def blaP (r : Int) : Bool := decide (r = 32) || decide (r = 9) || decide (r = 10) || decide (r = 13)
def namP (r : Int) : Bool := letP r || digP r
def SameV (v : Value) (w : World) (e : Ending) (w' : World) : Prop := e = .returned v ∧ w = w'
theorem ret_b {a b : Bool} (h : a = b) : Ending.returned (.bool a) = .returned (.bool b) := by rw [h]
set_option maxHeartbeats 1000000 in
theorem digit_any (r : Int) (w : World) : Calls Tryz.prog 109 #[.int .i32 r] w (SameV (.bool (digP r)) w) := by
  obtain ⟨b, hb⟩ : ∃ b, b = digP r := ⟨_, rfl⟩
  have HB := Lib.hid hb
  rw [← hb]
  clear hb
  by_cases h1 : 48 ≤ r
  · by_cases h2 : r ≤ 57
    · have HE := Lib.hid (show b = true by rw [HB.out]; simp [digP, h1, h2])
      go_enter Tryz.func109, Tryz.ntmps109
      go_wp2
      go_ret
      exact ⟨ret_b (by rw [HE.out]), rfl⟩
    · have HE := Lib.hid (show b = false by rw [HB.out]; simp [digP, h2])
      go_enter Tryz.func109, Tryz.ntmps109
      go_wp2
      go_ret
      exact ⟨ret_b (by rw [HE.out]), rfl⟩
  · have HE := Lib.hid (show b = false by rw [HB.out]; simp [digP, h1])
    go_enter Tryz.func109, Tryz.ntmps109
    go_wp2
    go_ret
    exact ⟨ret_b (by rw [HE.out]), rfl⟩
set_option maxHeartbeats 2000000 in
theorem letter_any (r : Int) (w : World) : Calls Tryz.prog 107 #[.int .i32 r] w (SameV (.bool (letP r)) w) := by
  obtain ⟨b, hb⟩ : ∃ b, b = letP r := ⟨_, rfl⟩
  have HB := Lib.hid hb
  rw [← hb]
  clear hb
  by_cases h0 : r = 95
  · have HE := Lib.hid (show b = true by rw [HB.out]; simp [letP, h0])
    subst h0
    go_enter Tryz.func107, Tryz.ntmps107
    go_wp2
    go_ret
    exact ⟨ret_b (by rw [HE.out]), rfl⟩
  · have h0b : (r == 95) = false := by simpa using h0
    by_cases h1 : 97 ≤ r
    · by_cases h2 : r ≤ 122
      · have HE := Lib.hid (show b = true by rw [HB.out]; simp [letP, h1, h2])
        clear h0
        go_enter Tryz.func107, Tryz.ntmps107
        go_wp2
        go_ret
        exact ⟨ret_b (by rw [HE.out]), rfl⟩
      · have HE := Lib.hid (show b = false by rw [HB.out]; simp [letP, h0, h2]; omega)
        have h65 : 65 ≤ r := by omega
        have h90 : ¬ r ≤ 90 := by omega
        clear h0
        go_enter Tryz.func107, Tryz.ntmps107
        go_wp2
        go_ret
        exact ⟨ret_b (by rw [HE.out]), rfl⟩
    · by_cases h3 : 65 ≤ r
      · by_cases h4 : r ≤ 90
        · have HE := Lib.hid (show b = true by rw [HB.out]; simp [letP, h3, h4])
          clear h0
          go_enter Tryz.func107, Tryz.ntmps107
          go_wp2
          go_ret
          exact ⟨ret_b (by rw [HE.out]), rfl⟩
        · have HE := Lib.hid (show b = false by rw [HB.out]; simp [letP, h0, h1, h4])
          clear h0
          go_enter Tryz.func107, Tryz.ntmps107
          go_wp2
          go_ret
          exact ⟨ret_b (by rw [HE.out]), rfl⟩
      · have HE := Lib.hid (show b = false by rw [HB.out]; simp [letP, h0, h1, h3])
        clear h0
        go_enter Tryz.func107, Tryz.ntmps107
        go_wp2
        go_ret
        exact ⟨ret_b (by rw [HE.out]), rfl⟩
set_option maxHeartbeats 1000000 in
theorem nam_any (r : Int) (w : World) : Calls Tryz.prog 108 (#[.int .i32 r] ++ #[]) w (SameV (.bool (namP r)) w) := by
  show Calls Tryz.prog 108 #[.int .i32 r] w _
  have HL := Lib.hid (fun W => letter_any r W)
  have HD := Lib.hid (fun W => digit_any r W)
  have HB := Lib.hid (show namP r = (letP r || digP r) from rfl)
  generalize namP r = b at HB ⊢
  generalize letP r = l at HL HB
  generalize digP r = d at HD HB
  cases l with
  | true =>
    go_enter Tryz.func108, Tryz.ntmps108
    go_wp2_with (first
      | (go_at_call 107; (with_reducible refine (HL.out _).mono ?_); rintro e w2 ⟨rfl, rfl⟩)
      | fail)
    go_ret
    exact ⟨ret_b (by rw [HB.out]; rfl), rfl⟩
  | false =>
    go_enter Tryz.func108, Tryz.ntmps108
    go_wp2_with (first
      | (go_at_call 107; (with_reducible refine (HL.out _).mono ?_); rintro e w2 ⟨rfl, rfl⟩)
      | (go_at_call 109; (with_reducible refine (HD.out _).mono ?_); rintro e w2 ⟨rfl, rfl⟩)
      | fail)
    go_ret
    exact ⟨ret_b (by rw [HB.out]; rfl), rfl⟩
set_option maxHeartbeats 2000000 in
theorem bla_any (r : Int) (w : World) : Calls Tryz.prog 95 (#[.int .i32 r] ++ #[]) w (SameV (.bool (blaP r)) w) := by
  show Calls Tryz.prog 95 #[.int .i32 r] w _
  obtain ⟨b, hb⟩ : ∃ b, b = blaP r := ⟨_, rfl⟩
  have HB := Lib.hid hb
  rw [← hb]
  clear hb
  cases e1 : (r == 32) with
  | true =>
    have HE := Lib.hid (show b = true by rw [HB.out]; simp [blaP, beq_iff_eq.1 e1])
    go_enter Tryz.func95, Tryz.ntmps95
    go_wp2
    go_ret
    exact ⟨ret_b (by rw [HE.out]), rfl⟩
  | false =>
    cases e2 : (r == 9) with
    | true =>
      have HE := Lib.hid (show b = true by rw [HB.out]; simp [blaP, beq_iff_eq.1 e2])
      go_enter Tryz.func95, Tryz.ntmps95
      go_wp2
      go_ret
      exact ⟨ret_b (by rw [HE.out]), rfl⟩
    | false =>
      cases e3 : (r == 10) with
      | true =>
        have HE := Lib.hid (show b = true by rw [HB.out]; simp [blaP, beq_iff_eq.1 e3])
        go_enter Tryz.func95, Tryz.ntmps95
        go_wp2
        go_ret
        exact ⟨ret_b (by rw [HE.out]), rfl⟩
      | false =>
        cases e4 : (r == 13) with
        | true =>
          have HE := Lib.hid (show b = true by rw [HB.out]; simp [blaP, beq_iff_eq.1 e4])
          go_enter Tryz.func95, Tryz.ntmps95
          go_wp2
          go_ret
          exact ⟨ret_b (by rw [HE.out]), rfl⟩
        | false =>
          have HE := Lib.hid (show b = false by rw [HB.out]; simp [blaP, beq_eq_false_iff_ne.1 e1, beq_eq_false_iff_ne.1 e2, beq_eq_false_iff_ne.1 e3, beq_eq_false_iff_ne.1 e4])
          go_enter Tryz.func95, Tryz.ntmps95
          go_wp2
          go_ret
          exact ⟨ret_b (by rw [HE.out]), rfl⟩
/-- how many bytes at the beginning of a text are of a kind -/
def spanR (p : Int → Bool) (l : List UInt8) : Nat := (l.takeWhile (fun b => p (b.toNat : Int))).length
theorem spanR_le (p : Int → Bool) (l : List UInt8) : spanR p l ≤ l.length := by
  unfold spanR
  exact (List.takeWhile_sublist _).length_le
theorem span_stop (p : Int → Bool) {l : List UInt8} {k : Nat} {c : UInt8} (h : ∀ j d, j < k → l[j]? = some d → p (d.toNat : Int) = true) (hc : l[k]? = some c) (hp : p (c.toNat : Int) = false) : spanR p l = k := by
  unfold spanR
  induction l generalizing k with
  | nil => simp at hc
  | cons x l ih =>
    cases k with
    | zero =>
      obtain rfl : x = c := by simpa using hc
      rw [List.takeWhile_cons, if_neg (by rw [hp]; decide)]; rfl
    | succ k =>
      rw [List.takeWhile_cons, if_pos (h 0 x (by omega) rfl), List.length_cons, ih (k := k) (fun j d hj hd => h (j + 1) d (by omega) (by simpa using hd)) (by simpa using hc)]
theorem span_all (p : Int → Bool) {l : List UInt8} (h : ∀ j d, j < l.length → l[j]? = some d → p (d.toNat : Int) = true) : spanR p l = l.length := by
  unfold spanR
  induction l with
  | nil => rfl
  | cons x l ih =>
    rw [List.takeWhile_cons, if_pos (h 0 x (by simp) rfl), List.length_cons, ih (fun j d h1 h2 => h (j + 1) d (by simp; omega) (by simpa using h2)), List.length_cons]
set_option maxHeartbeats 2000000 in
theorem span_any (F : Nat) (p : Int → Bool) (eg : ∀ args w, (callFunc F args).run Tryz.prog w = .ok (.enter F args) w) (hp : ∀ r W, Calls Tryz.prog F (#[.int .i32 r] ++ #[]) W (SameV (.bool (p r)) W)) (hhigh : ∀ r, 128 ≤ r → p r = false)
    (s : ByteArray) (hs : s.size ≤ maxLen) (w : World) : Calls Tryz.prog 94 #[.string s, .func (.func F) #[] #[]] w (RetV (.int .i64 (spanR p s.data.toList : Nat)) w) := by
  have hs2 : s.size ≤ 9223372036854775807 := by unfold maxLen at hs; exact Nat.le_trans hs (by decide)
  have HP := Lib.hid hp
  have HH := Lib.hid hhigh
  have hsl : s.data.toList.length = s.size := by show _ = s.data.size; simp
  have HSL := Lib.hid hsl
  obtain ⟨R, hR⟩ : ∃ R : Nat, R = spanR p s.data.toList := ⟨_, rfl⟩
  rw [← hR]
  have HR := Lib.hid hR
  have HG : ∀ (j : Nat) (d : UInt8), s.data.toList[j]? = some d → ∃ h : j < s.size, s[j] = d := fun j d h => by
    have hj := (List.getElem?_eq_some_iff.1 h).1
    refine ⟨by omega, ?_⟩
    have := (List.getElem?_eq_some_iff.1 h).2
    rw [← this]; rfl
  have HGG := Lib.hid HG
  clear hp hhigh hR hsl HG
  go_enter Tryz.func94, Tryz.ntmps94
  go_wp2_with fail
  go_loopw [9] (fun _ wr => ∃ k : Nat, k ≤ s.size ∧ wr = w.iter s k ∧ Hid (∀ j d, j < k → s.data.toList[j]? = some d → p (d.toNat : Int) = true)) (fun _ wr => s.size - wr.iterPos w.heap.size)
  case atStart => exact ⟨0, Nat.zero_le _, rfl, Lib.hid (fun j d h => absurd h (Nat.not_lt_zero _))⟩
  case round =>
    obtain ⟨k, hk, rfl, HC⟩ := hrel
    have hB : Below w.heap.size w (w.iter s k) := (Below.refl _ w).alloc (Nat.le_refl _) _
    have HB := Lib.hid hB
    clear hB
    by_cases hlt : k < s.size
    · obtain ⟨c, hc⟩ : ∃ c, c = s[k] := ⟨_, rfl⟩
      have hcl : s.data.toList[k]? = some c := by rw [hc, Array.getElem?_toList]; exact Array.getElem?_eq_getElem hlt
      have HCL := Lib.hid hcl
      by_cases ha : c.toNat < 128
      · have hnx := fun ty => run_next_ascii (P := Tryz.prog) w s k ty hlt (by rw [← hc]; exact ha)
        rw [← hc] at hnx
        cases hq : p (c.toNat : Int) with
        | true =>
          have HPP := Lib.hid (show ∀ W, Calls Tryz.prog F #[.int .i32 (c.toNat : Int)] W (SameV (.bool true) W) from fun W => by have h := HP.out (c.toNat : Int) W; rw [hq] at h; exact h)
          have HC2 := Lib.hid (show ∀ j d, j < k + 1 → s.data.toList[j]? = some d → p (d.toNat : Int) = true from fun j d h1 h2 => by
            by_cases e : j = k
            · subst e; rw [HCL.out] at h2; cases h2; exact hq
            · exact HC.out j d (by omega) h2)
          clear hq hc hcl
          go_wp2_with (first
            | (go_at_fn F; (with_reducible refine (HPP.out _).mono ?_); rintro e w2 ⟨rfl, rfl⟩)
            | fail)
          go_roundw
          case rel => exact ⟨k + 1, by omega, rfl, HC2⟩
          case measure => simp <;> omega
        | false =>
          have HPP := Lib.hid (show ∀ W, Calls Tryz.prog F #[.int .i32 (c.toNat : Int)] W (SameV (.bool false) W) from fun W => by have h := HP.out (c.toNat : Int) W; rw [hq] at h; exact h)
          have HE := Lib.hid (show R = k by rw [HR.out]; exact span_stop p HC.out HCL.out hq)
          clear hq hc hcl
          go_wp2_with (first
            | (go_at_fn F; (with_reducible refine (HPP.out _).mono ?_); rintro e w2 ⟨rfl, rfl⟩)
            | fail)
          go_ret
          exact ⟨by rw [HE.out]; rfl, (Below.refl _ w).alloc (Nat.le_refl _) _⟩
      · have hnx := fun ty => run_next_any (P := Tryz.prog) w s k ty hlt
        have hdh := decode_high s k hlt (by rw [← hc]; omega)
        obtain ⟨r, hr⟩ : ∃ r, r = (Utf8.decode s k).1 := ⟨_, rfl⟩
        obtain ⟨st, hst⟩ : ∃ st, st = (Utf8.decode s k).2 := ⟨_, rfl⟩
        rw [← hr, ← hst] at hnx
        have hr128 : (128 : Int) ≤ (r : Int) := by rw [hr]; omega
        have HPP := Lib.hid (show ∀ W, Calls Tryz.prog F #[.int .i32 (r : Int)] W (SameV (.bool false) W) from fun W => by have h := HP.out (r : Int) W; rw [HH.out (r : Int) hr128] at h; exact h)
        have HE := Lib.hid (show R = k by rw [HR.out]; exact span_stop p HC.out HCL.out (HH.out _ (by omega)))
        clear hc hcl hdh hr hst
        go_wp2_with (first
          | (go_at_fn F; (with_reducible refine (HPP.out _).mono ?_); rintro e w2 ⟨rfl, rfl⟩)
          | fail)
        go_ret
        exact ⟨by rw [HE.out]; rfl, (Below.refl _ w).alloc (Nat.le_refl _) _⟩
    · have hnx := fun ty => run_next_end (P := Tryz.prog) w s k ty hlt
      have HE := Lib.hid (show R = s.size by
        rw [HR.out, ← HSL.out]
        exact span_all p (fun j d h1 h2 => HC.out j d (by have := HSL.out; omega) h2))
      go_wp2_with fail
      go_ret
      exact ⟨by rw [HE.out]; rfl, HB.out⟩
end Go.Proofs.YtcgpflkaejbkhaaGreatDoor
namespace Go.Proofs.YtcgpflkaejbkhaaGreatDoor
open Go.RowKit

def tokV (k : Int) (s : ByteArray) (at_ : Int) : Value := .agg #[.int .i64 k, .string s, .int .i64 at_]
def nextV (k : Int) (s : ByteArray) (n e : Int) : Value := .tuple #[tokV k s 0, .int .i64 n, .int .i64 e]
theorem nam_span (s : ByteArray) (hs : s.size ≤ 200) (w : World) : Calls Tryz.prog 94 #[.string s, .func (.func 108) #[] #[]] w (RetV (.int .i64 (spanR namP s.data.toList : Nat)) w) :=
  span_any 108 namP (Go.Proofs.enters_of Tryz.func108 (by kernel_rfl) rfl) nam_any (fun r h => by simp [namP, letP, digP]; omega) s (by unfold maxLen; omega) w
theorem dig_span (s : ByteArray) (hs : s.size ≤ 200) (w : World) : Calls Tryz.prog 94 #[.string s, .func (.func 109) #[] #[]] w (RetV (.int .i64 (spanR digP s.data.toList : Nat)) w) :=
  span_any 109 digP (Go.Proofs.enters_of Tryz.func109 (by kernel_rfl) rfl) (fun r W => digit_any r W) (fun r h => by simp [digP]; omega) s (by unfold maxLen; omega) w
theorem bla_span (s : ByteArray) (hs : s.size ≤ 200) (w : World) : Calls Tryz.prog 94 #[.string s, .func (.func 95) #[] #[]] w (RetV (.int .i64 (spanR blaP s.data.toList : Nat)) w) :=
  span_any 95 blaP (Go.Proofs.enters_of Tryz.func95 (by kernel_rfl) rfl) bla_any (fun r h => by simp [blaP]; omega) s (by unfold maxLen; omega) w
set_option maxRecDepth 100000 in
set_option maxHeartbeats 2000000 in
theorem next_end (w : World) : Calls Tryz.prog 96 #[.string ⟨#[]⟩] w (RetV (nextV 0 ⟨#[]⟩ 0 0) w) := by
  go_enter Tryz.func96, Tryz.ntmps96
  go_wp2_with fail
  exact bodyPost_ret (v := .tuple #[.agg #[.int .i64 0, .string ⟨#[]⟩, .int .i64 0], .int .i64 0, .int .i64 0]) (by simp [results, Tryz.results96, go_sem]) rfl ⟨rfl, below1 w _⟩
/-- a word that begins with a letter -/
def wordR (l : List UInt8) : Value :=
  let n := spanR namP l
  if kwR (l.take n) ≠ [] then nextV 2 ⟨(kwR (l.take n)).toArray⟩ n 0 else if 12 < n then nextV 0 ⟨#[]⟩ 0 4 else nextV 1 ⟨(l.take n).toArray⟩ n 0
theorem text_ne {s : ByteArray} (h0 : 0 < s.size) : (s.toList == []) = false := by
  have hsl : s.data.toList.length = s.size := by show _ = s.data.size; simp
  rw [ByteArray.toList_eq]
  cases hx : s.data.toList with
  | nil => rw [hx] at hsl; simp at hsl; omega
  | cons a l => rfl
set_option maxRecDepth 100000 in
set_option maxHeartbeats 4000000 in
theorem next_letter (s : ByteArray) (m : Int) (w : World) (hm : w.cell? ⟨0, 0, none⟩ = some (.int .i64 m)) (h0 : 0 < s.size) (hs : s.size ≤ 200) (hl : letP (s[0].toNat : Int) = true) : Calls Tryz.prog 96 #[.string s] w (RetV (wordR s.data.toList) w) := by
  have HM := Lib.hid hm
  obtain ⟨c, hc⟩ : ∃ c, c = s[0] := ⟨_, rfl⟩
  have hkc : s[0] = c := hc.symm
  rw [hkc] at hl
  have hc255 : (c.toNat : Int) ≤ 255 := by have := c.toNat_lt; omega
  have hc0 : (0 : Int) ≤ (c.toNat : Int) := by omega
  have HLE := Lib.hid (fun W => hl ▸ letter_any (c.toNat : Int) W)
  have HSP := Lib.hid (fun W => nam_span s hs W)
  have hsl : s.data.toList.length = s.size := by show _ = s.data.size; simp
  have hle := spanR_le namP s.data.toList
  have hne := text_ne h0
  obtain ⟨n, hn⟩ : ∃ n, n = spanR namP s.data.toList := ⟨_, rfl⟩
  have HR := Lib.hid (show wordR s.data.toList = if kwR (s.data.toList.take n) ≠ [] then nextV 2 ⟨(kwR (s.data.toList.take n)).toArray⟩ n 0 else if 12 < n then nextV 0 ⟨#[]⟩ 0 4 else nextV 1 ⟨(s.data.toList.take n).toArray⟩ n 0 by unfold wordR; rw [hn])
  rw [← hn] at HSP hle
  generalize wordR s.data.toList = R at HR ⊢
  have hns : n ≤ s.size := by omega
  obtain ⟨T, hT⟩ : ∃ T, T = s.extract 0 n := ⟨_, rfl⟩
  have HTL := Lib.hid (show T.data.toList = s.data.toList.take n by rw [hT]; simp [ByteArray.data_extract])
  have HTT := Lib.hid (show (⟨(s.data.toList.take n).toArray⟩ : ByteArray) = T by rw [← HTL.out])
  rw [HTT.out] at HR
  have hT2 : s.extract 0 n = T := hT.symm
  have HTS := Lib.hid (show T.size ≤ 200 by rw [hT, ByteArray.size_extract]; omega)
  have HKW := Lib.hid (fun (W : World) (hB : Below w.heap.size w W) => keyword_any T m W HTS.out (cell_kept HM.out hB))
  rw [HTL.out] at HKW
  generalize hku : kwR (s.data.toList.take n) = ku at HR
  have HK2 := Lib.hid (show kwV (s.data.toList.take n) = .tuple #[.string ⟨ku.toArray⟩, .bool (decide (ku ≠ []))] by unfold kwV; rw [hku])
  rw [HK2.out] at HKW
  clear hm hl hc hle hsl hn hT hku
  by_cases hk0 : ku = []
  · have hkd : decide (ku ≠ []) = false := by simp [hk0]
    rw [hkd] at HKW
    by_cases h12 : 12 < n
    · have HE := Lib.hid (show R = nextV 0 ⟨#[]⟩ 0 4 by rw [HR.out, if_neg (by simp [hk0]), if_pos h12])
      clear hkd hk0
      go_enter Tryz.func96, Tryz.ntmps96
      go_wp2_with (first
        | (go_at_call 107; (with_reducible refine (HLE.out _).mono ?_); rintro e w2 ⟨rfl, rfl⟩)
        | (go_at_call 94; (with_reducible refine (HSP.out _).mono ?_); rintro e w3 ⟨rfl, hB3⟩; have HB3 := Lib.hid hB3; have HW3 := Lib.hid ((below1 w (.cells #[.int .i64 0, .string ⟨#[]⟩, .int .i64 0] 102)).trans (hB3.mono (below1 w (.cells #[.int .i64 0, .string ⟨#[]⟩, .int .i64 0] 102)).size)); clear hB3)
        | (go_at_call 110; (with_reducible refine (HKW.out _ HW3.out).mono ?_); rintro e w4 ⟨rfl, hB4⟩; have hq := (hB4.block w.heap.size (by have := HB3.out.size; simp at this; omega)).trans ((HB3.out.block w.heap.size (by simp)).trans (heap_alloc_new w (.cells #[.int .i64 0, .string ⟨#[]⟩, .int .i64 0] 102))); have HW4 := Lib.hid (HW3.out.trans (hB4.mono HW3.out.size)); have r0 := cell_of_row _ _ 0 _ _ _ hq; have r1 := cell_of_row _ _ 1 _ _ _ hq; have r2 := cell_of_row _ _ 2 _ _ _ hq; have g0 := frozen_of_row _ _ 0 _ _ hq; have g1 := frozen_of_row _ _ 1 _ _ hq; have g2 := frozen_of_row _ _ 2 _ _ hq; clear hB4 hq)
        | fail)
      refine bodyPost_ret (v := .tuple #[.agg #[.int .i64 0, .string ⟨#[]⟩, .int .i64 0], .int .i64 0, .int .i64 4]) (by simp [results, Tryz.results96, go_sem, r0, r1, r2]) rfl ⟨by rw [HE.out]; rfl, ?_⟩
      exact ((HW4.out.setCell (p := ⟨w.heap.size, 0, none⟩) (Nat.le_refl _) _).setCell (p := ⟨w.heap.size, 1, none⟩) (Nat.le_refl _) _).setCell (p := ⟨w.heap.size, 2, none⟩) (Nat.le_refl _) _
    · have HE := Lib.hid (show R = nextV 1 T n 0 by rw [HR.out, if_neg (by simp [hk0]), if_neg h12])
      clear hkd hk0
      go_enter Tryz.func96, Tryz.ntmps96
      go_wp2_with (first
        | (go_at_call 107; (with_reducible refine (HLE.out _).mono ?_); rintro e w2 ⟨rfl, rfl⟩)
        | (go_at_call 94; (with_reducible refine (HSP.out _).mono ?_); rintro e w3 ⟨rfl, hB3⟩; have HB3 := Lib.hid hB3; have HW3 := Lib.hid ((below1 w (.cells #[.int .i64 0, .string ⟨#[]⟩, .int .i64 0] 102)).trans (hB3.mono (below1 w (.cells #[.int .i64 0, .string ⟨#[]⟩, .int .i64 0] 102)).size)); clear hB3)
        | (go_at_call 110; (with_reducible refine (HKW.out _ HW3.out).mono ?_); rintro e w4 ⟨rfl, hB4⟩; have hq := (hB4.block w.heap.size (by have := HB3.out.size; simp at this; omega)).trans ((HB3.out.block w.heap.size (by simp)).trans (heap_alloc_new w (.cells #[.int .i64 0, .string ⟨#[]⟩, .int .i64 0] 102))); have HW4 := Lib.hid (HW3.out.trans (hB4.mono HW3.out.size)); have r0 := cell_of_row _ _ 0 _ _ _ hq; have r1 := cell_of_row _ _ 1 _ _ _ hq; have r2 := cell_of_row _ _ 2 _ _ _ hq; have g0 := frozen_of_row _ _ 0 _ _ hq; have g1 := frozen_of_row _ _ 1 _ _ hq; have g2 := frozen_of_row _ _ 2 _ _ hq; clear hB4 hq)
        | fail)
      refine bodyPost_ret (v := .tuple #[.agg #[.int .i64 1, .string T, .int .i64 0], .int .i64 n, .int .i64 0]) (by simp [results, Tryz.results96, go_sem, r0, r1, r2]) rfl ⟨by rw [HE.out]; rfl, ?_⟩
      exact ((HW4.out.setCell (p := ⟨w.heap.size, 0, none⟩) (Nat.le_refl _) _).setCell (p := ⟨w.heap.size, 1, none⟩) (Nat.le_refl _) _).setCell (p := ⟨w.heap.size, 2, none⟩) (Nat.le_refl _) _
  · have hkd : decide (ku ≠ []) = true := by simp [hk0]
    rw [hkd] at HKW
    have HE := Lib.hid (show R = nextV 2 ⟨ku.toArray⟩ n 0 by rw [HR.out, if_pos hk0])
    generalize (⟨ku.toArray⟩ : ByteArray) = KU at HE HKW
    clear hkd hk0
    go_enter Tryz.func96, Tryz.ntmps96
    go_wp2_with (first
      | (go_at_call 107; (with_reducible refine (HLE.out _).mono ?_); rintro e w2 ⟨rfl, rfl⟩)
      | (go_at_call 94; (with_reducible refine (HSP.out _).mono ?_); rintro e w3 ⟨rfl, hB3⟩; have HB3 := Lib.hid hB3; have HW3 := Lib.hid ((below1 w (.cells #[.int .i64 0, .string ⟨#[]⟩, .int .i64 0] 102)).trans (hB3.mono (below1 w (.cells #[.int .i64 0, .string ⟨#[]⟩, .int .i64 0] 102)).size)); clear hB3)
      | (go_at_call 110; (with_reducible refine (HKW.out _ HW3.out).mono ?_); rintro e w4 ⟨rfl, hB4⟩; have hq := (hB4.block w.heap.size (by have := HB3.out.size; simp at this; omega)).trans ((HB3.out.block w.heap.size (by simp)).trans (heap_alloc_new w (.cells #[.int .i64 0, .string ⟨#[]⟩, .int .i64 0] 102))); have HW4 := Lib.hid (HW3.out.trans (hB4.mono HW3.out.size)); have r0 := cell_of_row _ _ 0 _ _ _ hq; have r1 := cell_of_row _ _ 1 _ _ _ hq; have r2 := cell_of_row _ _ 2 _ _ _ hq; have g0 := frozen_of_row _ _ 0 _ _ hq; have g1 := frozen_of_row _ _ 1 _ _ hq; have g2 := frozen_of_row _ _ 2 _ _ hq; clear hB4 hq)
      | fail)
    refine bodyPost_ret (v := .tuple #[.agg #[.int .i64 2, .string KU, .int .i64 0], .int .i64 n, .int .i64 0]) (by simp [results, Tryz.results96, go_sem, r0, r1, r2]) rfl ⟨by rw [HE.out]; rfl, ?_⟩
    exact ((HW4.out.setCell (p := ⟨w.heap.size, 0, none⟩) (Nat.le_refl _) _).setCell (p := ⟨w.heap.size, 1, none⟩) (Nat.le_refl _) _).setCell (p := ⟨w.heap.size, 2, none⟩) (Nat.le_refl _) _
end Go.Proofs.YtcgpflkaejbkhaaGreatDoor
namespace Go.Proofs.YtcgpflkaejbkhaaGreatDoor
open Go.RowKit

set_option maxRecDepth 100000 in
set_option maxHeartbeats 4000000 in
theorem number_1 (w : World) : Calls Tryz.prog 111 #[.string ⟨#[49]⟩] w (RetV (nextV 3 ⟨#[49]⟩ 1 0) w) := by
  have HS1 := Lib.hid (fun W => (show spanR digP [49] = 1 by decide) ▸ dig_span ⟨#[49]⟩ (by decide) W)
  have HS0 := Lib.hid (fun W => (show spanR digP [] = 0 by decide) ▸ dig_span .empty (by decide) W)
  have HTP := Lib.hid (show ∀ W, Calls Tryz.prog 123 #[.string .empty, .string ⟨#[46]⟩] W (SameV (.string .empty) W) from fun W => (Tryz.strings_TrimPrefix .empty ⟨#[46]⟩ W).mono (fun e w' h => ⟨h.1, h.2.symm⟩))
  have HHP := Lib.hid (show ∀ W, Calls Tryz.prog 113 #[.string .empty, .string ⟨#[46]⟩] W (SameV (.bool false) W) from fun W => (Tryz.strings_HasPrefix .empty ⟨#[46]⟩ W).mono (fun e w' h => ⟨h.1, h.2.symm⟩))
  have h0 := heap_alloc_new w (.cells #[.int .i64 0, .string ⟨#[]⟩, .int .i64 0] 102)
  have hA := below1 w (.cells #[.int .i64 0, .string ⟨#[]⟩, .int .i64 0] 102)
  have H0 := Lib.hid h0
  have HA := Lib.hid hA
  clear h0 hA
  go_enter Tryz.func111, Tryz.ntmps111
  go_wp2_with (first
    | (go_at_call 94; first
        | ((with_reducible refine (HS1.out _).mono ?_); rintro e w3 ⟨rfl, hB3⟩; have HB3 := Lib.hid hB3; have HC3 := Lib.hid ((hB3.block w.heap.size (by simp)).trans H0.out); have HW3 := Lib.hid (HA.out.trans (hB3.mono HA.out.size)); clear hB3)
        | ((with_reducible refine (HS0.out _).mono ?_); rintro e w4 ⟨rfl, hB4⟩; have hq := (hB4.block w.heap.size (heap_lt HC3.out)).trans HC3.out; have HW4 := Lib.hid (HW3.out.trans (hB4.mono HW3.out.size)); have r0 := cell_of_row _ _ 0 _ _ _ hq; have r1 := cell_of_row _ _ 1 _ _ _ hq; have r2 := cell_of_row _ _ 2 _ _ _ hq; have g0 := frozen_of_row _ _ 0 _ _ hq; have g1 := frozen_of_row _ _ 1 _ _ hq; have g2 := frozen_of_row _ _ 2 _ _ hq; clear hB4 hq))
    | (go_at_call 123; (with_reducible refine (HTP.out _).mono ?_); rintro e w5 ⟨rfl, rfl⟩)
    | (go_at_call 113; (with_reducible refine (HHP.out _).mono ?_); rintro e w6 ⟨rfl, rfl⟩)
    | fail)
  refine bodyPost_ret (v := nextV 3 ⟨#[49]⟩ 1 0) (by simp [results, Tryz.results111, go_sem, r0, r1, r2, nextV, tokV]; rfl) rfl ⟨rfl, ?_⟩
  exact ((HW4.out.setCell (p := ⟨w.heap.size, 0, none⟩) (Nat.le_refl _) _).setCell (p := ⟨w.heap.size, 1, none⟩) (Nat.le_refl _) _).setCell (p := ⟨w.heap.size, 2, none⟩) (Nat.le_refl _) _
set_option maxRecDepth 100000 in
set_option maxHeartbeats 4000000 in
theorem next_1 (w : World) : Calls Tryz.prog 96 #[.string ⟨#[49]⟩] w (RetV (nextV 3 ⟨#[49]⟩ 1 0) w) := by
  have HLE := Lib.hid (show ∀ W, Calls Tryz.prog 107 #[.int .i32 49] W (SameV (.bool false) W) from fun W => letter_any 49 W)
  have HDI := Lib.hid (show ∀ W, Calls Tryz.prog 109 #[.int .i32 49] W (SameV (.bool true) W) from fun W => digit_any 49 W)
  have HNU := Lib.hid (show ∀ W, Calls Tryz.prog 111 #[.string ⟨#[49]⟩] W (RetV (.tuple #[.agg #[.int .i64 3, .string ⟨#[49]⟩, .int .i64 0], .int .i64 1, .int .i64 0]) W) from fun W => number_1 W)
  have h0 := heap_alloc_new w (.cells #[.int .i64 0, .string ⟨#[]⟩, .int .i64 0] 102)
  have hA := below1 w (.cells #[.int .i64 0, .string ⟨#[]⟩, .int .i64 0] 102)
  have H0 := Lib.hid h0
  have HA := Lib.hid hA
  clear h0 hA
  have hk : (⟨#[49]⟩ : ByteArray)[0] = (49 : UInt8) := rfl
  have hk2 : (((49 : UInt8).toNat : Nat) : Int) = 49 := rfl
  have hk3 : wrap32 49 = 49 := by decide +kernel
  go_enter Tryz.func96, Tryz.ntmps96
  go_wp2_with (first
    | (go_at_call 107; (with_reducible refine (HLE.out _).mono ?_); rintro e w5 ⟨rfl, rfl⟩)
    | (go_at_call 109; (with_reducible refine (HDI.out _).mono ?_); rintro e w6 ⟨rfl, rfl⟩)
    | (go_at_call 111; (with_reducible refine (HNU.out _).mono ?_); rintro e w4 ⟨rfl, hB4⟩; have hq := (hB4.block w.heap.size (heap_lt H0.out)).trans H0.out; have HW4 := Lib.hid (HA.out.trans (hB4.mono HA.out.size)); have r0 := cell_of_row _ _ 0 _ _ _ hq; have r1 := cell_of_row _ _ 1 _ _ _ hq; have r2 := cell_of_row _ _ 2 _ _ _ hq; have g0 := frozen_of_row _ _ 0 _ _ hq; have g1 := frozen_of_row _ _ 1 _ _ hq; have g2 := frozen_of_row _ _ 2 _ _ hq; clear hB4 hq)
    | fail)
  refine bodyPost_ret (v := nextV 3 ⟨#[49]⟩ 1 0) (by simp [results, Tryz.results96, go_sem, r0, r1, r2, nextV, tokV]) rfl ⟨rfl, ?_⟩
  exact ((HW4.out.setCell (p := ⟨w.heap.size, 0, none⟩) (Nat.le_refl _) _).setCell (p := ⟨w.heap.size, 1, none⟩) (Nat.le_refl _) _).setCell (p := ⟨w.heap.size, 2, none⟩) (Nat.le_refl _) _
set_option maxRecDepth 100000 in
set_option maxHeartbeats 4000000 in
theorem next_le (w : World) : Calls Tryz.prog 96 #[.string ⟨#[60, 61, 49]⟩] w (RetV (nextV 6 ⟨#[60, 61]⟩ 2 0) w) := by
  have HLE := Lib.hid (show ∀ W, Calls Tryz.prog 107 #[.int .i32 60] W (SameV (.bool false) W) from fun W => letter_any 60 W)
  have HDI := Lib.hid (show ∀ W, Calls Tryz.prog 109 #[.int .i32 60] W (SameV (.bool false) W) from fun W => digit_any 60 W)
  have HP1 := Lib.hid (show ∀ W, Calls Tryz.prog 113 #[.string ⟨#[60, 61, 49]⟩, .string ⟨#[60, 62]⟩] W (SameV (.bool false) W) from fun W => (Tryz.strings_HasPrefix ⟨#[60, 61, 49]⟩ ⟨#[60, 62]⟩ W).mono (fun e w' h => ⟨h.1, h.2.symm⟩))
  have HP2 := Lib.hid (show ∀ W, Calls Tryz.prog 113 #[.string ⟨#[60, 61, 49]⟩, .string ⟨#[60, 61]⟩] W (SameV (.bool true) W) from fun W => (Tryz.strings_HasPrefix ⟨#[60, 61, 49]⟩ ⟨#[60, 61]⟩ W).mono (fun e w' h => ⟨h.1, h.2.symm⟩))
  have hk : (⟨#[60, 61, 49]⟩ : ByteArray)[0] = (60 : UInt8) := rfl
  have hk2 : (((60 : UInt8).toNat : Nat) : Int) = 60 := rfl
  have hk3 : wrap32 60 = 60 := by decide +kernel
  go_enter Tryz.func96, Tryz.ntmps96
  go_wp2_with (first
    | (go_at_call 107; (with_reducible refine (HLE.out _).mono ?_); rintro e w5 ⟨rfl, rfl⟩)
    | (go_at_call 109; (with_reducible refine (HDI.out _).mono ?_); rintro e w6 ⟨rfl, rfl⟩)
    | fail)
  go_loopw [59] (fun i wr => ∃ k : Nat, k ≤ 1 ∧ i = .int .i64 k ∧ wr = (w.alloc (.cells #[.int .i64 0, .string ⟨#[]⟩, .int .i64 0] 102)).alloc (.cells #[.string ⟨#[60, 62]⟩, .string ⟨#[60, 61]⟩, .string ⟨#[62, 61]⟩] 9)) (fun i _ => 3 - (intOf i).toNat)
  case atStart => exact ⟨0, by omega, rfl, rfl⟩
  case round =>
    obtain ⟨k, hk, rfl, rfl⟩ := hrel
    have hk2 : k = 0 ∨ k = 1 := by omega
    rcases hk2 with rfl | rfl
    · go_wp2_with (first
        | (go_at_call 113; (with_reducible refine (HP1.out _).mono ?_); rintro e w5 ⟨rfl, rfl⟩)
        | fail)
      go_roundw
      case rel => exact ⟨1, Nat.le_refl _, rfl, trivial⟩
      case measure => simp [intOf]
    · go_wp2_with (first
        | (go_at_call 113; (with_reducible refine (HP2.out _).mono ?_); rintro e w5 ⟨rfl, rfl⟩)
        | fail)
      refine bodyPost_ret (v := nextV 6 ⟨#[60, 61]⟩ 2 0) (by simp [results, Tryz.results96, go_sem, nextV, tokV]) rfl ⟨rfl, ?_⟩
      exact ((Below.refl _ _).alloc (Nat.le_refl _) _).alloc (by simp) _
end Go.Proofs.YtcgpflkaejbkhaaGreatDoor
