/- How texts and floats stand to each other: plain laws. -/
import Derived.Test.YtjlpjooaclfnlaaGreatDoorCompare
namespace Go.Proofs.YtjlpjooaclfnlaaGreatDoor
open Go.RowKit

theorem cb_range : ∀ (a b : List UInt8), Lib.compareBytes a b = -1 ∨ Lib.compareBytes a b = 0 ∨ Lib.compareBytes a b = 1
  | [], [] => .inr (.inl rfl)
  | [], _ :: _ => .inl rfl
  | _ :: _, [] => .inr (.inr rfl)
  | x :: a, y :: b => by
    unfold Lib.compareBytes
    split
    · exact .inl rfl
    · split
      · exact .inr (.inr rfl)
      · exact cb_range a b
theorem cb_swap : ∀ (a b : List UInt8), Lib.compareBytes b a = -Lib.compareBytes a b
  | [], [] => rfl
  | [], _ :: _ => rfl
  | _ :: _, [] => rfl
  | x :: a, y :: b => by
    unfold Lib.compareBytes
    by_cases h : x < y
    · have h' : ¬ y < x := UInt8.lt_asymm h
      rw [if_neg h', if_pos h, if_pos h]; rfl
    · by_cases h' : y < x
      · rw [if_pos h', if_neg h, if_pos h']
      · rw [if_neg h', if_neg h, if_neg h, if_neg h']
        exact cb_swap a b
theorem cb_eq : ∀ (a b : List UInt8), Lib.compareBytes a b = 0 ↔ a = b
  | [], [] => ⟨fun _ => rfl, fun _ => rfl⟩
  | [], _ :: _ => by simp [Lib.compareBytes]
  | _ :: _, [] => by simp [Lib.compareBytes]
  | x :: a, y :: b => by
    unfold Lib.compareBytes
    by_cases h : x < y
    · rw [if_pos h]; simp; intro e; subst e; exact absurd h (UInt8.lt_irrefl x)
    · by_cases h' : y < x
      · rw [if_neg h, if_pos h']; simp; intro e; subst e; exact absurd h' (UInt8.lt_irrefl x)
      · rw [if_neg h, if_neg h', cb_eq a b]
        have e : x = y := UInt8.le_antisymm (UInt8.not_lt.1 h') (UInt8.not_lt.1 h)
        subst e
        simp
theorem cb_less : ∀ (a b : List UInt8), Op.bytesLess a b = decide (Lib.compareBytes a b = -1)
  | [], [] => rfl
  | [], _ :: _ => rfl
  | _ :: _, [] => rfl
  | x :: a, y :: b => by
    unfold Lib.compareBytes Op.bytesLess
    by_cases h : x < y
    · simp [h]
    · by_cases h' : y < x
      · have : x ≠ y := fun e => by subst e; exact UInt8.lt_irrefl x h'
        simp [h, h', this]
      · have e : x = y := UInt8.le_antisymm (UInt8.not_lt.1 h') (UInt8.not_lt.1 h)
        subst e
        simp [h, cb_less a b]
theorem cb_trans : ∀ (a b c : List UInt8), Lib.compareBytes a b ≤ 0 → Lib.compareBytes b c ≤ 0 → Lib.compareBytes a c ≤ 0 ∧ (Lib.compareBytes a c = 0 ↔ Lib.compareBytes a b = 0 ∧ Lib.compareBytes b c = 0)
  | [], [], [] => fun _ _ => by simp [Lib.compareBytes]
  | [], [], _ :: _ => fun _ _ => by simp [Lib.compareBytes]
  | [], _ :: _, [] => fun _ h => by simp [Lib.compareBytes] at h
  | [], _ :: _, _ :: _ => fun _ _ => by simp [Lib.compareBytes]
  | _ :: _, [], _ => fun h _ => by simp [Lib.compareBytes] at h
  | _ :: _, _ :: _, [] => fun _ h => by simp [Lib.compareBytes] at h
  | x :: a, y :: b, z :: c => fun h1 h2 => by
    have ih := cb_trans a b c
    unfold Lib.compareBytes at h1 h2 ⊢
    have asym : ∀ {u v : UInt8}, u < v → ¬ v < u := fun h => UInt8.lt_asymm h
    have tri : ∀ {u v : UInt8}, ¬ u < v → ¬ v < u → u = v := fun h h' => UInt8.le_antisymm (UInt8.not_lt.1 h') (UInt8.not_lt.1 h)
    by_cases hxy : x < y
    · have hxz : x < z := by
        by_cases hyz : y < z
        · exact UInt8.lt_trans hxy hyz
        · by_cases hzy : z < y
          · rw [if_neg hyz, if_pos hzy] at h2; omega
          · rw [← tri hyz hzy]; exact hxy
      simp only [hxy, hxz, if_true]
      omega
    · by_cases hyx : y < x
      · rw [if_neg hxy, if_pos hyx] at h1; omega
      · have e := tri hxy hyx
        subst e
        rw [if_neg hxy, if_neg hxy] at h1
        rw [if_neg hxy, if_neg hxy]
        by_cases hxz : x < z
        · simp only [hxz, if_true]
          omega
        · by_cases hzx : z < x
          · rw [if_neg hxz, if_pos hzx] at h2; omega
          · rw [if_neg hxz, if_neg hzx] at h2 ⊢
            rw [if_neg hxz, if_neg hzx]
            exact ih h1 h2

/-- a float that is equal to itself is a number -/
theorem feq_num (x : Nat) : feq x x = true ↔ numF x := by
  unfold feq
  constructor
  · intro h
    by_cases hn : numF x
    · exact hn
    · have : ordF x x = none := (ordF_none x x).2 (.inl hn)
      unfold ordF at this
      change (Ieee.double.order x x == some Ordering.eq) = true at h
      rw [this] at h
      cases h
  · intro h
    have := ordF_self x h
    unfold ordF at this
    change (Ieee.double.order x x == some Ordering.eq) = true
    rw [this]
    rfl
theorem ord_nan (x y : Nat) (h : feq x x = false ∨ feq y y = false) (o : Ordering) : (FloatKind.f64.format.order x y == some o) = false := by
  have : ordF x y = none := (ordF_none x y).2 (h.imp (fun h g => by rw [(feq_num x).2 g] at h; cases h) (fun h g => by rw [(feq_num y).2 g] at h; cases h))
  unfold ordF at this
  change (Ieee.double.order x y == some o) = false
  rw [this]
  rfl
theorem ord_one (x y : Nat) : ¬ ((FloatKind.f64.format.order x y == some .lt) = true ∧ (FloatKind.f64.format.order x y == some .gt) = true) := by
  rintro ⟨h1, h2⟩
  simp only [beq_iff_eq] at h1 h2
  rw [h1] at h2
  cases h2
end Go.Proofs.YtjlpjooaclfnlaaGreatDoor
