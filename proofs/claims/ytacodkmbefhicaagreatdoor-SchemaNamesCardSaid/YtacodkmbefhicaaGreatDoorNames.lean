/- Which texts are names: plain. -/
import Derived.Test.YtacodkmbefhicaaGreatDoorNext
namespace Go.Proofs.YtacodkmbefhicaaGreatDoor
open Go.RowKit

/-- a text that may be a name -/
def nameB (L : List UInt8) : Bool := decide (L.length ≤ 12) && L.head?.any (fun c => letP (c.toNat : Int)) && L.all (fun c => namP (c.toNat : Int)) && decide (kwR L = [])
theorem nameB_iff {L : List UInt8} : nameB L = true ↔ L.length ≤ 12 ∧ (∃ c r, L = c :: r ∧ letP (c.toNat : Int) = true) ∧ (∀ c ∈ L, namP (c.toNat : Int) = true) ∧ kwR L = [] := by
  unfold nameB
  rw [Bool.and_eq_true, Bool.and_eq_true, Bool.and_eq_true, decide_eq_true_iff, decide_eq_true_iff, List.all_eq_true]
  cases L with
  | nil => simp
  | cons c r => simp [and_assoc]
theorem nameB_first {c : UInt8} {r : List UInt8} (h : letP (c.toNat : Int) = false) : nameB (c :: r) = false := by
  cases hn : nameB (c :: r) with
  | false => rfl
  | true =>
    obtain ⟨_, ⟨a, b, e, h2⟩, _⟩ := nameB_iff.1 hn
    cases e
    rw [h] at h2; cases h2
theorem bla_not_let {r : Int} (h : blaP r = true) : letP r = false := by
  simp only [blaP, Bool.or_eq_true, decide_eq_true_iff] at h
  rcases h with ((h | h) | h) | h <;> subst h <;> decide
theorem nameB_blank {L : List UInt8} (h : 0 < spanR blaP L) : nameB L = false := by
  cases L with
  | nil => exact absurd h (by simp [spanR])
  | cons c r =>
    refine nameB_first (bla_not_let ?_)
    by_cases hb : blaP (c.toNat : Int) = true
    · exact hb
    · unfold spanR at h
      rw [List.takeWhile_cons, if_neg hb] at h
      exact absurd h (by simp)
theorem span_full {p : Int → Bool} {l : List UInt8} (h : ∀ c ∈ l, p (c.toNat : Int) = true) : spanR p l = l.length :=
  span_all p (fun _ d _ hd => h d (List.mem_of_getElem? hd))
theorem full_span {p : Int → Bool} {l : List UInt8} (h : spanR p l = l.length) : ∀ c ∈ l, p (c.toNat : Int) = true := by
  unfold spanR at h
  have h2 : l.takeWhile (fun b => p (b.toNat : Int)) = l := (List.takeWhile_sublist _).eq_of_length h
  intro c hc
  rw [← h2] at hc
  have h3 := List.all_takeWhile (p := fun b : UInt8 => p (b.toNat : Int)) (l := l)
  exact List.all_eq_true.1 h3 c hc
/-- what the word at the beginning of a text is: its kind, its text, its bytes, the error -/
def WordAt (l : List UInt8) (k : Int) (S : ByteArray) (n : Nat) (er : Int) : Prop :=
  (l = [] ∧ k = 0 ∧ er = 0) ∨
  (∃ c r, l = c :: r ∧ letP (c.toNat : Int) = true ∧ n = spanR namP l ∧ 1 ≤ n ∧ n ≤ l.length ∧ er = 0 ∧ ((kwR (l.take n) ≠ [] ∧ k = 2) ∨ (kwR (l.take n) = [] ∧ k = 1 ∧ S.data.toList = l.take n))) ∨
  (∃ c r, l = c :: r ∧ letP (c.toNat : Int) = false ∧ (er = 0 → k ≠ 0 ∧ k ≠ 1 ∧ 1 ≤ n ∧ n ≤ l.length))
/-- the words so far: none, or the first is the text itself, that is a name, or it is another one -/
def LexInv (L : List UInt8) (cnt : Nat) (xs : List Value) (p : Nat) : Prop :=
  p ≤ L.length ∧ cnt ≤ p ∧ ((cnt = 0 ∧ xs = [] ∧ p = 0) ∨ (1 ≤ cnt ∧ ∃ (k : Int) (S : ByteArray) (a : Value) (rest : List Value), xs = .int .i64 k :: .string S :: a :: rest ∧
    ((k = 1 ∧ S.data.toList = L ∧ nameB L = true ∧ cnt = 1 ∧ p = L.length) ∨ (¬ (k = 1 ∧ S.data.toList = L) ∧ nameB L = false))))
/-- all words: two, of which the first is the text as a name, or the text is no name -/
def LexFin (L : List UInt8) (cnt : Nat) (xs : List Value) : Prop :=
  1 ≤ cnt ∧ ∃ (k : Int) (S : ByteArray) (a : Value) (rest : List Value), xs = .int .i64 k :: .string S :: a :: rest ∧ ((cnt = 2 ∧ k = 1 ∧ S.data.toList = L) ↔ nameB L = true)
theorem lex_start (L : List UInt8) : LexInv L 0 [] 0 := ⟨Nat.zero_le _, Nat.le_refl _, Or.inl ⟨rfl, rfl, rfl⟩⟩
theorem drop_all {L : List UInt8} {k : Nat} (h : L.drop k = []) : L.length ≤ k := List.drop_eq_nil_iff.1 h
theorem lex_end {L : List UInt8} {cnt p : Nat} {xs : List Value} (h : LexInv L cnt xs p) (hd : L.drop (p + spanR blaP (L.drop p)) = []) (S : ByteArray) (a : Value) : LexFin L (cnt + 1) (xs ++ [.int .i64 0, .string S, a]) := by
  obtain ⟨h1, h2, h | ⟨h3, k, T, b, rest, rfl, h⟩⟩ := h
  · obtain ⟨rfl, rfl, rfl⟩ := h
    refine ⟨Nat.le_refl _, 0, S, a, [], rfl, ?_⟩
    have hl := drop_all hd
    rw [List.drop_zero, Nat.zero_add] at hl
    have hn : nameB L = false := by
      by_cases h0 : L = []
      · subst h0; decide +kernel
      · exact nameB_blank (by have : 0 < L.length := List.length_pos_iff.2 h0; omega)
    rw [hn]
    simp
  · refine ⟨by omega, k, T, b, rest ++ [.int .i64 0, .string S, a], rfl, ?_⟩
    rcases h with ⟨rfl, e, hn, rfl, _⟩ | ⟨h, hn⟩
    · simp [e, hn]
    · rw [hn]
      simp only [Bool.false_eq_true, iff_false]
      rintro ⟨_, h4, h5⟩
      exact h ⟨h4, h5⟩
theorem take_first {L l : List UInt8} {n j : Nat} (hl : l = L.drop j) (hn : n ≤ l.length) (h : l.take n = L) : j = 0 ∧ n = L.length ∨ L = [] := by
  have h1 := congrArg List.length h
  rw [List.length_take, hl, List.length_drop] at h1
  rw [hl, List.length_drop] at hn
  by_cases h0 : L = []
  · exact Or.inr h0
  · have : 0 < L.length := List.length_pos_iff.2 h0
    left; omega
theorem lex_word {L : List UInt8} {cnt p : Nat} {xs : List Value} (h : LexInv L cnt xs p) (hL : L.length ≤ 12) {k : Int} {S : ByteArray} {n : Nat} (hw : WordAt (L.drop (p + spanR blaP (L.drop p))) k S n 0) (hk : k ≠ 0) (a : Value) :
    LexInv L (cnt + 1) (xs ++ [.int .i64 k, .string S, a]) (p + spanR blaP (L.drop p) + n) ∧ 1 ≤ n := by
  obtain ⟨j, hj⟩ : ∃ j, j = spanR blaP (L.drop p) := ⟨_, rfl⟩
  rw [← hj] at hw ⊢
  have hn : 1 ≤ n ∧ n ≤ (L.drop (p + j)).length := by
    rcases hw with ⟨_, e, _⟩ | ⟨c, r, e, _, _, h1, h2, _⟩ | ⟨c, r, e, _, h1⟩
    · exact absurd e hk
    · exact ⟨h1, h2⟩
    · exact (h1 rfl).2.2
  obtain ⟨hn1, hn2⟩ := hn
  rw [List.length_drop] at hn2
  refine ⟨⟨by omega, by have := h.2.1; omega, Or.inr ⟨by omega, ?_⟩⟩, hn1⟩
  obtain ⟨h1, h2, h | ⟨h3, k2, T, b, rest, rfl, h⟩⟩ := h
  · obtain ⟨rfl, rfl, rfl⟩ := h
    refine ⟨k, S, a, [], rfl, ?_⟩
    rw [List.drop_zero] at hj
    rw [Nat.zero_add] at hw ⊢
    by_cases hj0 : j = 0
    · rw [hj0, List.drop_zero] at hw
      rcases hw with ⟨_, e, _⟩ | ⟨c, r, e, h3, h4, h5, h6, _, h7⟩ | ⟨c, r, e, h3, h4⟩
      · exact absurd e hk
      · rcases h7 with ⟨h8, h9⟩ | ⟨h8, h9, h10⟩
        · refine Or.inr ⟨fun h => by rw [h9] at h; exact absurd h.1 (by decide), ?_⟩
          cases hb : nameB L with
          | false => rfl
          | true =>
            obtain ⟨_, _, g1, g2⟩ := nameB_iff.1 hb
            rw [h4, span_full g1, List.take_length] at h8
            exact absurd g2 h8
        · by_cases hS : S.data.toList = L
          · have hnL : n = L.length := by
              rcases take_first (j := 0) rfl h6 (h10.symm.trans hS) with ⟨_, h⟩ | h
              · exact h
              · rw [h] at e; cases e
            refine Or.inl ⟨h9, hS, nameB_iff.2 ⟨hL, ⟨c, r, e, h3⟩, full_span (h4.symm.trans hnL), ?_⟩, rfl, by rw [hj0]; omega⟩
            rw [hnL, List.take_length] at h8
            exact h8
          · refine Or.inr ⟨fun h => hS h.2, ?_⟩
            cases hb : nameB L with
            | false => rfl
            | true =>
              obtain ⟨_, _, g1, g2⟩ := nameB_iff.1 hb
              rw [h4, span_full g1, List.take_length] at h10
              exact absurd h10 hS
      · refine Or.inr ⟨fun h => (h4 rfl).2.1 h.1, ?_⟩
        rw [e]
        exact nameB_first h3
    · have hb : nameB L = false := nameB_blank (by omega)
      refine Or.inr ⟨fun h => ?_, hb⟩
      rcases hw with ⟨_, e, _⟩ | ⟨c, r, e, h3, h4, h5, h6, _, h7⟩ | ⟨c, r, e, h3, h4⟩
      · exact absurd e hk
      · rcases h7 with ⟨h8, h9⟩ | ⟨h8, h9, h10⟩
        · rw [h9] at h; exact absurd h.1 (by decide)
        · rcases take_first rfl h6 (h10.symm.trans h.2) with ⟨h, _⟩ | h
          · exact hj0 h
          · rw [h] at e; simp at e
      · exact (h4 rfl).2.1 h.1
  · refine ⟨k2, T, b, rest ++ [.int .i64 k, .string S, a], rfl, ?_⟩
    rcases h with ⟨_, _, _, _, h⟩ | h
    · omega
    · exact Or.inr h
theorem lex_err {L : List UInt8} {cnt p : Nat} {xs : List Value} (h : LexInv L cnt xs p) {k : Int} {S : ByteArray} {n : Nat} {er : Int} (hw : WordAt (L.drop (p + spanR blaP (L.drop p))) k S n er) (he : er ≠ 0) : nameB L = false := by
  obtain ⟨h1, h2, h | ⟨h3, k2, T, b, rest, rfl, h⟩⟩ := h
  · obtain ⟨rfl, rfl, rfl⟩ := h
    rw [List.drop_zero, Nat.zero_add] at hw
    rcases hw with ⟨_, _, e⟩ | ⟨_, _, _, _, _, _, _, e, _⟩ | ⟨c, r, e, h3, _⟩
    · exact absurd e he
    · exact absurd e he
    · by_cases hj : spanR blaP L = 0
      · rw [hj, List.drop_zero] at e
        rw [e]; exact nameB_first h3
      · exact nameB_blank (by omega)
  · rcases h with ⟨_, _, _, _, h⟩ | ⟨_, h⟩
    · rcases hw with ⟨_, _, e⟩ | ⟨_, _, _, _, _, _, _, e, _⟩ | ⟨c, r, e, h3, _⟩
      · exact absurd e he
      · exact absurd e he
      · rw [List.drop_eq_nil_of_le (by omega)] at e; cases e
    · exact h
end Go.Proofs.YtacodkmbefhicaaGreatDoor
