/- Plain arithmetic of costs: no program in sight. -/
namespace Go.Proofs.Ytmbhkfjcjklemaa

def fitZ (n : Int) : Int := if n < 0 then 0 else if 4503599627370496 < n then 4503599627370496 else n

theorem fitZ_bd (n : Int) : 0 ≤ fitZ n ∧ fitZ n ≤ 4503599627370496 := by unfold fitZ; split <;> (try split) <;> omega
theorem fitZ_of (n : Int) (h0 : 0 ≤ n) (h1 : n ≤ 4503599627370496) : fitZ n = n := by unfold fitZ; split <;> (try split) <;> omega
theorem fitZ_idem (n : Int) : fitZ (fitZ n) = fitZ n := fitZ_of _ (fitZ_bd n).1 (fitZ_bd n).2
theorem fitZ_big (n : Int) (h1 : 4503599627370496 ≤ n) : fitZ n = 4503599627370496 := by unfold fitZ; split <;> (try split) <;> omega
theorem fitZ_mono {a b : Int} (h : a ≤ b) : fitZ a ≤ fitZ b := by unfold fitZ; split <;> (try split) <;> (try split) <;> (try split) <;> omega

def addZ (a b : Int) : Int := fitZ (fitZ a + fitZ b)
theorem addZ_bd (a b : Int) : 0 ≤ addZ a b ∧ addZ a b ≤ 4503599627370496 := fitZ_bd _
theorem addZ_mono {a b c d : Int} (h : a ≤ c) (k : b ≤ d) : addZ a b ≤ addZ c d := by
  have := fitZ_mono h; have := fitZ_mono k
  exact fitZ_mono (by omega)

def mulZ (a b : Int) : Int := fitZ (fitZ a * fitZ b)
theorem mulZ_bd (a b : Int) : 0 ≤ mulZ a b ∧ mulZ a b ≤ 4503599627370496 := fitZ_bd _
theorem mulZ_mono {a b c d : Int} (h : a ≤ c) (k : b ≤ d) : mulZ a b ≤ mulZ c d := by
  have h1 := fitZ_mono h; have h2 := fitZ_mono k
  exact fitZ_mono (Int.mul_le_mul h1 h2 (fitZ_bd b).1 (fitZ_bd c).1)

/-- the test of cost.Mul says the product is too great -/
theorem mulZ_big (a b : Int) (ha : 0 < fitZ a) (h : 4503599627370496 / fitZ a < fitZ b) : mulZ a b = 4503599627370496 := by
  apply fitZ_big
  have := (Int.ediv_lt_iff_lt_mul ha).1 h
  rw [Int.mul_comm]; omega
theorem mulZ_small (a b : Int) (ha : 0 < fitZ a) (h : fitZ b ≤ 4503599627370496 / fitZ a) : mulZ a b = fitZ a * fitZ b ∧ 0 ≤ fitZ a * fitZ b ∧ fitZ a * fitZ b ≤ 4503599627370496 := by
  have h1 := (Int.le_ediv_iff_mul_le ha).1 h
  rw [Int.mul_comm] at h1
  have h0 : 0 ≤ fitZ a * fitZ b := Int.mul_nonneg (by omega) (fitZ_bd b).1
  exact ⟨fitZ_of _ h0 h1, h0, h1⟩
theorem mulZ_zero (a b : Int) (ha : fitZ a ≤ 0) : mulZ a b = 0 := by
  have : fitZ a = 0 := by have := fitZ_bd a; omega
  unfold mulZ; rw [this, Int.zero_mul]; decide

/-- one round of the reference's product -/
theorem mul_step (n a b : Int) (hn : 0 ≤ n) (ha : 0 ≤ a) (hb : 0 < b) (hn' : n ≤ 4503599627370496) (ha' : a ≤ 4503599627370496) :
    fitZ ((if b % 2 = 1 then addZ n a else n) + addZ a a * (b / 2)) = fitZ (n + a * b) := by
  have e1 : addZ n a = fitZ (n + a) := by unfold addZ; rw [fitZ_of n hn hn', fitZ_of a ha ha']
  have e2 : addZ a a = fitZ (a + a) := by unfold addZ; rw [fitZ_of a ha ha']
  rw [e1, e2]
  have hb2 : 0 ≤ b / 2 := by omega
  by_cases hbig : 4503599627370496 ≤ a + a
  · rw [fitZ_big (a + a) hbig]
    by_cases hz : b / 2 = 0
    · have : b = 1 := by omega
      subst this
      simp [fitZ_idem]
    · have h1 : 1 ≤ b / 2 := by omega
      have h2 : (4503599627370496 : Int) * 1 ≤ 4503599627370496 * (b / 2) := Int.mul_le_mul_of_nonneg_left h1 (by decide)
      have h3 : a * 2 ≤ a * b := Int.mul_le_mul_of_nonneg_left (by omega) ha
      rw [fitZ_big (n + a * b) (by omega)]
      apply fitZ_big
      have := (fitZ_bd (n + a)).1
      split <;> omega
  · rw [fitZ_of (a + a) (by omega) (by omega)]
    have hexp : a * b = (a + a) * (b / 2) + a * (b % 2) := by
      have hb' : b = 2 * (b / 2) + b % 2 := by omega
      have : a * b = a * (2 * (b / 2) + b % 2) := by rw [← hb']
      rw [this, Int.mul_add, ← Int.mul_assoc, show a * 2 = a + a by omega]
    by_cases ho : b % 2 = 1
    · rw [if_pos ho, hexp, ho, Int.mul_one]
      have h0 : 0 ≤ (a + a) * (b / 2) := Int.mul_nonneg (by omega) hb2
      by_cases hc : n + a ≤ 4503599627370496
      · rw [fitZ_of (n + a) (by omega) hc]
        congr 1; omega
      · rw [fitZ_big (n + a) (by omega), fitZ_big _ (by omega), fitZ_big _ (by omega)]
    · rw [if_neg ho, hexp, show b % 2 = 0 by omega, Int.mul_zero, Int.add_zero]

def thouZ (t : Int) : Int := if t < 0 then 0 else if 1000 < t then 1000 else t
theorem thouZ_bd (t : Int) : 0 ≤ thouZ t ∧ thouZ t ≤ 1000 := by unfold thouZ; split <;> (try split) <;> omega
theorem thouZ_mono {a b : Int} (h : a ≤ b) : thouZ a ≤ thouZ b := by unfold thouZ; split <;> (try split) <;> (try split) <;> (try split) <;> omega
def partZ (n t : Int) : Int := fitZ n * thouZ t / 1000
theorem part_prod_bd (n t : Int) : 0 ≤ fitZ n * thouZ t ∧ fitZ n * thouZ t ≤ 4503599627370496000 := by
  have h1 := fitZ_bd n; have h2 := thouZ_bd t
  refine ⟨Int.mul_nonneg h1.1 h2.1, ?_⟩
  have : fitZ n * thouZ t ≤ 4503599627370496 * 1000 := Int.mul_le_mul h1.2 h2.2 h2.1 (by decide)
  omega
theorem partZ_bd (n t : Int) : 0 ≤ partZ n t ∧ partZ n t ≤ 4503599627370496 := by
  have := part_prod_bd n t; unfold partZ; omega
theorem partZ_mono {a b c d : Int} (h : a ≤ c) (k : b ≤ d) : partZ a b ≤ partZ c d := by
  have : fitZ a * thouZ b ≤ fitZ c * thouZ d := Int.mul_le_mul (fitZ_mono h) (thouZ_mono k) (thouZ_bd b).1 (fitZ_bd c).1
  unfold partZ; omega
/-- the program's way to a share -/
theorem part_way (n t : Int) : fitZ n / 1000 * thouZ t + fitZ n % 1000 * thouZ t / 1000 = partZ n t := by
  unfold partZ
  have h : fitZ n = 1000 * (fitZ n / 1000) + fitZ n % 1000 := by omega
  have e : fitZ n * thouZ t = 1000 * (fitZ n / 1000 * thouZ t) + fitZ n % 1000 * thouZ t := by
    have : fitZ n * thouZ t = (1000 * (fitZ n / 1000) + fitZ n % 1000) * thouZ t := by rw [← h]
    rw [this, Int.add_mul, Int.mul_assoc]
  rw [e]; omega
theorem part_bd1 (n t : Int) : 0 ≤ fitZ n / 1000 * thouZ t ∧ fitZ n / 1000 * thouZ t ≤ 4503599627370000 := by
  have h1 := fitZ_bd n; have h2 := thouZ_bd t
  refine ⟨Int.mul_nonneg (by omega) h2.1, ?_⟩
  have : fitZ n / 1000 * thouZ t ≤ 4503599627370 * 1000 := Int.mul_le_mul (by omega) h2.2 h2.1 (by decide)
  omega
theorem part_bd2 (n t : Int) : 0 ≤ fitZ n % 1000 * thouZ t ∧ fitZ n % 1000 * thouZ t ≤ 999000 := by
  have h1 := fitZ_bd n; have h2 := thouZ_bd t
  refine ⟨Int.mul_nonneg (by omega) h2.1, ?_⟩
  have : fitZ n % 1000 * thouZ t ≤ 999 * 1000 := Int.mul_le_mul (by omega) h2.2 h2.1 (by decide)
  omega

def bitsN (n : Nat) : Nat := if h : n = 0 then 0 else bitsN (n / 2) + 1
  termination_by n
  decreasing_by omega
theorem bitsN_zero : bitsN 0 = 0 := by unfold bitsN; simp
theorem bitsN_pos (n : Nat) (h : 0 < n) : bitsN n = bitsN (n / 2) + 1 := by
  conv => lhs; unfold bitsN
  rw [dif_neg (by omega)]
theorem lt_bits : ∀ (k n : Nat), bitsN n ≤ k ↔ n < 2 ^ k := by
  intro k
  induction k with
  | zero => intro n; by_cases h : n = 0
            · subst h; simp [bitsN_zero]
            · rw [bitsN_pos n (by omega)]; simp; omega
  | succ k ih => intro n; by_cases h : n = 0
                 · subst h; simp [bitsN_zero]; exact Nat.pow_pos (by decide)
                 · rw [bitsN_pos n (by omega), Nat.pow_succ, Nat.succ_le_succ_iff, ih (n / 2)]; omega
theorem bitsN_mono {a b : Nat} (h : a ≤ b) : bitsN a ≤ bitsN b := by
  have := (lt_bits (bitsN b) b).1 (Nat.le_refl _)
  exact (lt_bits _ _).2 (by omega)
def bitsZ (n : Int) : Int := bitsN (fitZ n).toNat
theorem bitsZ_bd (n : Int) : 0 ≤ bitsZ n ∧ bitsZ n ≤ 53 := by
  have := fitZ_bd n
  have := (lt_bits 53 (fitZ n).toNat).2 (by omega)
  unfold bitsZ; omega
theorem bitsZ_mono {a b : Int} (h : a ≤ b) : bitsZ a ≤ bitsZ b := by
  have := fitZ_mono h
  have := bitsN_mono (a := (fitZ a).toNat) (b := (fitZ b).toNat) (by omega)
  unfold bitsZ; omega

def colZ (c : Int) : Int := if c < 0 then 0 else if 24 < c then 24 else c
theorem colZ_bd (t : Int) : 0 ≤ colZ t ∧ colZ t ≤ 24 := by unfold colZ; split <;> (try split) <;> omega
def pagesZ (rows cols : Int) : Int := addZ 1 (mulZ rows (4 + 8 * colZ cols) / 400)
theorem pagesZ_bd (a b : Int) : 0 ≤ pagesZ a b ∧ pagesZ a b ≤ 4503599627370496 := fitZ_bd _
theorem pagesZ_mono {a c : Int} (h : a ≤ c) (b : Int) : pagesZ a b ≤ pagesZ c b := by
  have := mulZ_mono h (Int.le_refl (4 + 8 * colZ b))
  exact addZ_mono (Int.le_refl _) (by omega)
def seqZ (rows cols : Int) : Int := addZ (mulZ 10 (pagesZ rows cols)) rows
theorem seqZ_bd (a b : Int) : 0 ≤ seqZ a b ∧ seqZ a b ≤ 4503599627370496 := fitZ_bd _
theorem seqZ_mono {a c : Int} (h : a ≤ c) (b : Int) : seqZ a b ≤ seqZ c b :=
  addZ_mono (mulZ_mono (Int.le_refl _) (pagesZ_mono h b)) h
def rangeZ (rows : Int) : Int := addZ 30 (mulZ rows 11)
theorem rangeZ_bd (a : Int) : 0 ≤ rangeZ a ∧ rangeZ a ≤ 4503599627370496 := fitZ_bd _
theorem rangeZ_mono {a c : Int} (h : a ≤ c) : rangeZ a ≤ rangeZ c :=
  addZ_mono (Int.le_refl _) (mulZ_mono h (Int.le_refl _))
def oneZ (n : Int) : Int := if n < 1 then 1 else n
theorem oneZ_mono {a c : Int} (h : a ≤ c) : oneZ a ≤ oneZ c := by unfold oneZ; split <;> split <;> omega
def loopZ (l r x : Int) : Int := addZ l (mulZ (oneZ r) x)
theorem loopZ_bd (l r x : Int) : 0 ≤ loopZ l r x ∧ loopZ l r x ≤ 4503599627370496 := fitZ_bd _
theorem loopZ_mono {a b c d e f : Int} (h : a ≤ d) (k : b ≤ e) (l : c ≤ f) : loopZ a b c ≤ loopZ d e f :=
  addZ_mono h (mulZ_mono (oneZ_mono k) l)
def lookZ (l r x : Int) : Int := loopZ l r (rangeZ x)
theorem lookZ_bd (l r x : Int) : 0 ≤ lookZ l r x ∧ lookZ l r x ≤ 4503599627370496 := fitZ_bd _
theorem lookZ_mono {a b c d e f : Int} (h : a ≤ d) (k : b ≤ e) (l : c ≤ f) : lookZ a b c ≤ lookZ d e f :=
  loopZ_mono h k (rangeZ_mono l)
def sortZ (l r : Int) : Int := addZ l (mulZ r (bitsZ r))
theorem sortZ_bd (l r : Int) : 0 ≤ sortZ l r ∧ sortZ l r ≤ 4503599627370496 := fitZ_bd _
theorem sortZ_mono {a b c d : Int} (h : a ≤ c) (k : b ≤ d) : sortZ a b ≤ sortZ c d :=
  addZ_mono h (mulZ_mono k (bitsZ_mono k))

/-- the program's sum of a list -/
def addL : Int → List Int → Int
  | n, [] => n
  | n, x :: r => addL (fitZ (n + fitZ x)) r
theorem addL_two (a b : Int) : addL 0 [a, b] = addZ a b := by
  have h : (0 : Int) + fitZ a = fitZ a := by omega
  simp only [addL, addZ, h, fitZ_idem]
theorem addL_three (a b c : Int) : addL 0 [a, b, c] = addZ (addZ a b) c := by
  have h : (0 : Int) + fitZ a = fitZ a := by omega
  simp only [addL, addZ, h, fitZ_idem]
theorem addL_snoc (xs : List Int) : ∀ (n x : Int), addL n (xs ++ [x]) = fitZ (addL n xs + fitZ x) := by
  induction xs with
  | nil => intro n x; rfl
  | cons a r ih => intro n x; simp only [List.cons_append, addL]; exact ih _ _
theorem addL_bd : ∀ (xs : List Int) (n : Int), 0 ≤ n → n ≤ 4503599627370496 → 0 ≤ addL n xs ∧ addL n xs ≤ 4503599627370496 := by
  intro xs
  induction xs with
  | nil => intro n h k; exact ⟨h, k⟩
  | cons a r ih => intro n _ _; exact ih _ (fitZ_bd _).1 (fitZ_bd _).2

theorem lives_eq : seqZ 100 2 = 160 := by decide
theorem lives_eq2 : mulZ 1099511627776 1099511627776 = 4503599627370496 := by decide
end Go.Proofs.Ytmbhkfjcjklemaa
