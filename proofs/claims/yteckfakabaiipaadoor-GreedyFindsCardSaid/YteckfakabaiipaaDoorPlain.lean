/- Sets of things as numbers: plain laws, no program in sight. -/
namespace Go.Proofs.YteckfakabaiipaaDoor

/-- how many things a set has -/
def pc (n : Nat) : Nat := if h : n = 0 then 0 else n % 2 + pc (n / 2)
  termination_by n
  decreasing_by omega
theorem pc_zero : pc 0 = 0 := by unfold pc; simp
theorem pc_step (n : Nat) : pc n = n % 2 + pc (n / 2) := by
  by_cases h : n = 0
  · subst h; simp [pc_zero]
  · conv => lhs; unfold pc
    rw [dif_neg h]
theorem pc_add : ∀ (k a b : Nat), b < 2 ^ k → pc (2 ^ k * a + b) = pc a + pc b := by
  intro k
  induction k with
  | zero => intro a b hb; have : b = 0 := by simp at hb; exact hb
            subst this; simp [pc_zero]
  | succ k ih =>
    intro a b hb
    rw [pc_step (2 ^ (k + 1) * a + b), pc_step b]
    have e1 : (2 ^ (k + 1) * a + b) % 2 = b % 2 := by
      rw [Nat.pow_succ, Nat.mul_right_comm]; omega
    have e2 : (2 ^ (k + 1) * a + b) / 2 = 2 ^ k * a + b / 2 := by
      rw [Nat.pow_succ, Nat.mul_right_comm]; omega
    rw [e1, e2, ih a (b / 2) (by rw [Nat.pow_succ] at hb; omega)]
    omega
theorem pc_le : ∀ (k n : Nat), n < 2 ^ k → pc n ≤ k := by
  intro k
  induction k with
  | zero => intro n h; have : n = 0 := by simp at h; exact h
            subst this; simp [pc_zero]
  | succ k ih => intro n h; rw [pc_step]; have := ih (n / 2) (by rw [Nat.pow_succ] at h; omega); omega
/-- the count of eight bits by a bounded recursion, for the kernel -/
def pcf : Nat → Nat → Nat
  | 0, _ => 0
  | k + 1, n => n % 2 + pcf k (n / 2)
theorem pcf_eq : ∀ (k n : Nat), n < 2 ^ k → pcf k n = pc n := by
  intro k
  induction k with
  | zero => intro n h; have : n = 0 := by simp at h; exact h
            subst this; simp [pcf, pc_zero]
  | succ k ih => intro n h; rw [pc_step, pcf, ih (n / 2) (by rw [Nat.pow_succ] at h; omega)]
end Go.Proofs.YteckfakabaiipaaDoor
