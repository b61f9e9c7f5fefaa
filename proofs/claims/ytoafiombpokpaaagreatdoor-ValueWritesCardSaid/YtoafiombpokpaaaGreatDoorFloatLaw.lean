/- How the words of floats stand to each other: the order is one. Plain laws, no program in sight. -/
import Ieee.Arith
namespace Go.Proofs.YtoafiombpokpaaaGreatDoor
open Ieee

theorem signed_scale (s : Bool) (m a d : Nat) : signed s m (a + d) = signed s m a * ((2 ^ d : Nat) : Int) := by
  unfold signed
  rw [Nat.shiftLeft_add, Nat.shiftLeft_eq _ d]
  cases s <;> simp [Int.neg_mul]
theorem cmp_scale (x y : Int) (d : Nat) : compare (x * ((2 ^ d : Nat) : Int)) (y * ((2 ^ d : Nat) : Int)) = compare x y := by
  have hp : (0 : Int) < ((2 ^ d : Nat) : Int) := by have := Nat.two_pow_pos d; omega
  simp only [compare, compareOfLessAndEq]
  have h1 : x * ((2 ^ d : Nat) : Int) < y * ((2 ^ d : Nat) : Int) ↔ x < y := ⟨fun h => Int.lt_of_mul_lt_mul_right h (Int.le_of_lt hp), fun h => Int.mul_lt_mul_of_pos_right h hp⟩
  have h2 : x * ((2 ^ d : Nat) : Int) = y * ((2 ^ d : Nat) : Int) ↔ x = y := ⟨fun h => Int.eq_of_mul_eq_mul_right (by omega) h, fun h => by rw [h]⟩
  simp only [h1, h2]
/-- two numbers, held at any place below both -/
theorem cmp_base (s t : Bool) (m n : Nat) (i j b : Int) (hi : b ≤ i) (hj : b ≤ j) :
    compare (signed s m (i - min i j).toNat) (signed t n (j - min i j).toNat) = compare (signed s m (i - b).toNat) (signed t n (j - b).toNat) := by
  have e1 : (i - b).toNat = (i - min i j).toNat + (min i j - b).toNat := by omega
  have e2 : (j - b).toNat = (j - min i j).toNat + (min i j - b).toNat := by omega
  rw [e1, e2, signed_scale, signed_scale, cmp_scale]

/-- is it no NaN? -/
def Num (d : Datum) : Prop := ∀ a b, d ≠ .nan a b
def cls : Datum → Int
  | .infinity s => if s then -1 else 1
  | _ => 0
def valAt (b : Int) : Datum → Int
  | .number s m i => signed s m (i - b).toNat
  | _ => 0
def lowAt : Datum → Int
  | .number _ _ i => i
  | _ => 0
def Lt (b : Int) (d e : Datum) : Prop := cls d < cls e ∨ (cls d = cls e ∧ valAt b d < valAt b e)
def Eqv (b : Int) (d e : Datum) : Prop := cls d = cls e ∧ valAt b d = valAt b e

theorem cmp_lt (x y : Int) : compare x y = .lt ↔ x < y := by
  simp only [compare, compareOfLessAndEq]
  split
  · simp [*]
  · split <;> simp [*]
theorem cmp_eq (x y : Int) : compare x y = .eq ↔ x = y := by
  simp only [compare, compareOfLessAndEq]
  split
  · simp; omega
  · split <;> simp [*]
theorem cmp_gt (x y : Int) : compare x y = .gt ↔ y < x := by
  simp only [compare, compareOfLessAndEq]
  split
  · simp; omega
  · split
    · simp; omega
    · simp; omega

theorem order_at (b : Int) (d e : Datum) (hd : Num d) (he : Num e) (h1 : b ≤ lowAt d) (h2 : b ≤ lowAt e) :
    (d.order e = some .lt ↔ Lt b d e) ∧ (d.order e = some .eq ↔ Eqv b d e) ∧ (d.order e = some .gt ↔ Lt b e d) := by
  cases d with
  | nan s f => exact absurd rfl (hd s f)
  | infinity s =>
    cases e with
    | nan t f => exact absurd rfl (he t f)
    | infinity t => cases s <;> cases t <;> simp [Datum.order, Lt, Eqv, cls, valAt] <;> decide
    | number t n j => cases s <;> simp [Datum.order, Lt, Eqv, cls]
  | number s m i =>
    cases e with
    | nan t f => exact absurd rfl (he t f)
    | infinity t => cases t <;> simp [Datum.order, Lt, Eqv, cls]
    | number t n j =>
      have hb := cmp_base s t m n i j b h1 h2
      simp only [Datum.order, Lt, Eqv, cls, valAt, Option.some.injEq, hb, cmp_lt, cmp_eq, cmp_gt]
      simp
theorem order_nan (d e : Datum) : d.order e = none ↔ ¬ Num d ∨ ¬ Num e := by
  have hn : ∀ s f, ¬ Num (.nan s f) := fun s f h => h s f rfl
  have hi : ∀ s, Num (.infinity s) := fun s a b h => by cases h
  have hm : ∀ s m i, Num (.number s m i) := fun s m i a b h => by cases h
  cases d <;> cases e <;> simp [Datum.order, hn, hi, hm]

/-- the order of words that are numbers -/
def ordF (x y : Nat) : Option Ordering := double.order x y
def numF (x : Nat) : Prop := Num (double.read x)
theorem ordF_none (x y : Nat) : ordF x y = none ↔ ¬ numF x ∨ ¬ numF y := order_nan _ _
theorem ordF_self (x : Nat) (h : numF x) : ordF x x = some .eq := ((order_at (lowAt (double.read x)) _ _ h h (Int.le_refl _) (Int.le_refl _)).2.1).2 ⟨rfl, rfl⟩
theorem ordF_swap (x y : Nat) (hx : numF x) (hy : numF y) : (ordF x y = some .lt ↔ ordF y x = some .gt) ∧ (ordF x y = some .eq ↔ ordF y x = some .eq) ∧ (ordF x y = some .gt ↔ ordF y x = some .lt) := by
  have a := order_at (min (lowAt (double.read x)) (lowAt (double.read y))) _ _ hx hy (by omega) (by omega)
  have b := order_at (min (lowAt (double.read x)) (lowAt (double.read y))) _ _ hy hx (by omega) (by omega)
  refine ⟨a.1.trans b.2.2.symm, a.2.1.trans (Iff.trans ⟨fun h => ⟨h.1.symm, h.2.symm⟩, fun h => ⟨h.1.symm, h.2.symm⟩⟩ b.2.1.symm), a.2.2.trans b.1.symm⟩
/-- of three that rise the first comes ahead of the last -/
theorem ordF_trans (x y z : Nat) (hx : numF x) (hy : numF y) (hz : numF z) (h1 : ordF x y ≠ some .gt) (h2 : ordF y z ≠ some .gt) :
    ordF x z ≠ some .gt ∧ (ordF x z = some .eq ↔ ordF x y = some .eq ∧ ordF y z = some .eq) := by
  have m1 : min (lowAt (double.read x)) (min (lowAt (double.read y)) (lowAt (double.read z))) ≤ lowAt (double.read x) := by omega
  have m2 : min (lowAt (double.read x)) (min (lowAt (double.read y)) (lowAt (double.read z))) ≤ lowAt (double.read y) := by omega
  have m3 : min (lowAt (double.read x)) (min (lowAt (double.read y)) (lowAt (double.read z))) ≤ lowAt (double.read z) := by omega
  generalize min (lowAt (double.read x)) (min (lowAt (double.read y)) (lowAt (double.read z))) = b at m1 m2 m3
  have a := order_at b _ _ hx hy m1 m2
  have c := order_at b _ _ hy hz m2 m3
  have d := order_at b _ _ hx hz m1 m3
  change ¬ _ at h1
  change ¬ _ at h2
  unfold ordF Format.order at *
  rw [a.2.2] at h1
  rw [c.2.2] at h2
  rw [Ne, d.2.2, d.2.1, a.2.1, c.2.1]
  unfold Lt Eqv at *
  omega
end Go.Proofs.YtoafiombpokpaaaGreatDoor
