/- The plain law of ValueWrites: quotes doubled; what is written of a float, and whether it has a point. -/
import Derived.Lib.Replace
import Derived.Lib.IndexBytes
import Derived.Lib.SplitLaws
import Derived.Lib.SlTrimSet
import Derived.Lib.ItoaNum
namespace Go.Proofs.YtoafiombpokpaaaGreatDoor

/-- quotes, each of them twice -/
def esc (l : List UInt8) : List UInt8 := l.flatMap fun c => if c = 39 then [39, 39] else [c]
theorem esc_cons (c : UInt8) (l : List UInt8) : esc (c :: l) = (if c = 39 then [39, 39] else [c]) ++ esc l := rfl
theorem esc_append (l m : List UInt8) : esc (l ++ m) = esc l ++ esc m := by unfold esc; rw [List.flatMap_append]
theorem index_ne {c : UInt8} (h : c ≠ 39) (l : List UInt8) : Lib.index (c :: l) [39] = if Lib.index l [39] = -1 then -1 else Lib.index l [39] + 1 := by
  rw [Lib.index_one, Lib.index_one, Lib.indexByte, if_neg (by simpa using h)]
  simp only [beq_iff_eq]
theorem replaceK_ne {c : UInt8} (h : c ≠ 39) (k : Nat) (l : List UInt8) : Lib.replaceK [39] [39, 39] k (c :: l) = c :: Lib.replaceK [39] [39, 39] k l := by
  cases k with
  | zero => rfl
  | succ k =>
    unfold Lib.replaceK
    rw [index_ne h]
    by_cases h1 : Lib.index l [39] = -1
    · rw [if_pos h1, if_pos (show ((-1 : Int) == -1) = true from rfl), if_pos (show (Lib.index l [39] == -1) = true by rw [h1]; rfl)]
    · have hge := Lib.index_ge l [39]
      obtain ⟨i, hi⟩ : ∃ i : Nat, Lib.index l [39] = i := ⟨(Lib.index l [39]).toNat, by omega⟩
      rw [if_neg h1, hi, if_neg (by rw [beq_iff_eq]; omega), if_neg (by rw [beq_iff_eq]; omega)]
      have e1 : ((i : Int) + 1).toNat = i + 1 := by omega
      have e2 : ((i : Int)).toNat = i := by omega
      rw [e1, e2]
      rfl
theorem replace_esc : ∀ s : List UInt8, Lib.replaceK [39] [39, 39] (Lib.count s [39]) s = esc s
  | [] => by
    rw [Lib.count_miss (by rfl)]
    rfl
  | c :: l => by
    rw [esc_cons]
    by_cases h : c = 39
    · subst h
      rw [if_pos rfl, Lib.count_cons_eq, Nat.add_comm, Lib.replaceK_hit _ _ _ _ 0 (by rw [Lib.index_one]; rfl)]
      show [] ++ [39, 39] ++ Lib.replaceK [39] [39, 39] (Lib.count l [39]) l = _
      rw [replace_esc l]
      rfl
    · rw [if_neg h, Lib.count_cons_ne _ _ _ h, replaceK_ne h, replace_esc l]
      rfl
theorem replaceAll_esc (s : List UInt8) : Lib.replaceAll s [39] [39, 39] = esc s := by
  unfold Lib.replaceAll Lib.replace
  rw [if_neg (by decide)]
  unfold Lib.replaceNum
  rw [if_pos (.inl (by decide))]
  exact replace_esc s
theorem esc_length : ∀ l : List UInt8, (esc l).length ≤ 2 * l.length
  | [] => Nat.le_refl _
  | c :: l => by
    have := esc_length l
    rw [esc_cons, List.length_append, List.length_cons]
    by_cases h : c = 39
    · rw [if_pos h]; show 2 + _ ≤ _; omega
    · rw [if_neg h]; show 1 + _ ≤ _; omega

/-- the cutset of the program's digits -/
def cutS : List UInt8 := [45, 48, 49, 50, 51, 52, 53, 54, 55, 56, 57]
theorem dropWhile_nil {p : UInt8 → Bool} : ∀ {l : List UInt8}, l.dropWhile p = [] ↔ ∀ c ∈ l, p c = true
  | [] => by simp
  | c :: l => by
    rw [List.dropWhile_cons]
    by_cases h : p c = true
    · rw [if_pos h, dropWhile_nil]
      simp [h]
    · rw [if_neg h]
      simp [h]
theorem trim_nil (l : List UInt8) : Lib.trimS l cutS = [] ↔ ∀ c ∈ l, cutS.contains c = true := by
  unfold Lib.trimS Lib.trimLeftS Lib.trimRightS
  rw [dropWhile_nil]
  constructor
  · intro h
    by_cases h0 : l.reverse.dropWhile (cutS.contains ·) = []
    · intro c hc
      exact dropWhile_nil.1 h0 c (List.mem_reverse.2 hc)
    · exfalso
      obtain ⟨x, xs, hx⟩ := List.exists_cons_of_ne_nil h0
      have hp : cutS.contains x = true := h x (by rw [hx, List.reverse_cons]; simp)
      have := List.head_dropWhile_not (cutS.contains ·) (l := l.reverse) h0
      simp only [hx, List.head_cons] at this
      rw [hp] at this
      cases this
  · intro h c hc
    have h0 : l.reverse.dropWhile (cutS.contains ·) = [] := dropWhile_nil.2 fun c hc => h c (List.mem_reverse.1 hc)
    rw [h0] at hc
    cases hc
/-- the signs that a finite float is written with -/
def FlS (l : List UInt8) : Prop := (∀ c ∈ l, cutS.contains c = true ∨ c = 46 ∨ c = 101 ∨ c = 43) ∧ (43 ∈ l → 101 ∈ l)
/-- has it a point, or an exponent? -/
def pointed (l : List UInt8) : Bool := l.any fun c => c == 46 || c == 101
theorem pointed_trim {l : List UInt8} (h : FlS l) : pointed l = false ↔ Lib.trimS l cutS = [] := by
  rw [trim_nil]
  unfold pointed
  rw [List.any_eq_false]
  constructor
  · intro h1 c hc
    have h2 := h1 c hc
    simp only [Bool.or_eq_true, beq_iff_eq, not_or] at h2
    rcases h.1 c hc with h3 | h3 | h3 | h3
    · exact h3
    · exact absurd h3 h2.1
    · exact absurd h3 h2.2
    · subst h3
      have h5 := h1 101 (h.2 hc)
      simp at h5
  · intro h1 c hc
    have h2 := h1 c hc
    simp only [Bool.or_eq_true, beq_iff_eq, not_or]
    constructor
    · intro e; subst e; revert h2; decide
    · intro e; subst e; revert h2; decide
end Go.Proofs.YtoafiombpokpaaaGreatDoor
