/- The plain laws of the search: no program in sight but the names of what it computes. -/
import Derived.Test.YteckfakabaiipaaDoorCase
namespace Go.Proofs.YteckfakabaiipaaDoor
open Go.Lib (ctz ctzFrom ctzFrom_spec)

/-- what the things of a set weigh, of the first n -/
def wsum (f : Nat → Int) (s : Nat) : Nat → Int
  | 0 => 0
  | n + 1 => wsum f s n + if s.testBit n = true then f n else 0

theorem wsum_congr (f : Nat → Int) (s t : Nat) : ∀ n, (∀ j, j < n → t.testBit j = s.testBit j) → wsum f t n = wsum f s n := by
  intro n
  induction n with
  | zero => intro _; rfl
  | succ n ih => intro h; rw [wsum, wsum, ih (fun j hj => h j (by omega)), h n (by omega)]
theorem wsum_ins (f : Nat → Int) (s t i : Nat) (hs : s.testBit i = false) (ht : t.testBit i = true) (ho : ∀ j, j ≠ i → t.testBit j = s.testBit j) :
    ∀ n, wsum f t n = wsum f s n + if i < n then f i else 0 := by
  intro n
  induction n with
  | zero => simp [wsum]
  | succ n ih =>
    rw [wsum, wsum, ih]
    by_cases h : n = i
    · subst h
      rw [ht, hs, if_neg (Nat.lt_irrefl n), if_pos (Nat.lt_succ_self n)]; simp
    · rw [ho n h]
      by_cases h2 : i < n
      · rw [if_pos h2, if_pos (show i < n + 1 by omega)]; omega
      · rw [if_neg h2, if_neg (show ¬ i < n + 1 by omega)]; omega

theorem pc_one : pc 1 = 1 := by rw [pc_step]; simp [pc_zero]
theorem pc_wsum : ∀ n s, s < 2 ^ n → (pc s : Int) = wsum (fun _ => 1) s n := by
  intro n
  induction n with
  | zero => intro s h; have : s = 0 := by simp at h; exact h
            subst this; simp [pc_zero, wsum]
  | succ n ih =>
    intro s h
    have hlt : s % 2 ^ n < 2 ^ n := Nat.mod_lt _ (Nat.two_pow_pos n)
    have hdm := Nat.div_add_mod s (2 ^ n)
    have ha : s / 2 ^ n < 2 := Nat.div_lt_of_lt_mul (by rw [Nat.pow_succ] at h; exact h)
    have h1 := pc_add n (s / 2 ^ n) (s % 2 ^ n) hlt
    rw [hdm] at h1
    have h2 := ih (s % 2 ^ n) hlt
    rw [wsum_congr _ s (s % 2 ^ n) n (fun j hj => by rw [Nat.testBit_mod_two_pow]; simp [hj])] at h2
    rw [wsum, h1, Nat.testBit_eq_decide_div_mod_eq]
    have hc : s / 2 ^ n = 0 ∨ s / 2 ^ n = 1 := (show ∀ q : Nat, q < 2 → q = 0 ∨ q = 1 by omega) _ ha
    rcases hc with hc | hc
    · rw [hc, pc_zero]; simp; omega
    · rw [hc, pc_one]; simp; omega

theorem bit_or (s i j : Nat) : (s ||| 2 ^ i).testBit j = (s.testBit j || decide (i = j)) := by rw [Nat.testBit_or, Nat.testBit_two_pow]
theorem bit_not (s i : Nat) (h : s ||| 2 ^ i ≠ s) : s.testBit i = false := by
  by_cases hb : s.testBit i = true
  · exact absurd (Nat.eq_of_testBit_eq fun j => by
      rw [bit_or]
      by_cases hj : i = j
      · subst hj; simp [hb]
      · simp [hj]) h
  · simpa using hb
theorem bit_ne (s i : Nat) (h : s.testBit i = false) : s ||| 2 ^ i ≠ s := by
  intro e
  have := bit_or s i i
  rw [e, h] at this; simp at this
theorem wsum_or (f : Nat → Int) (s i n : Nat) (h : s.testBit i = false) (hi : i < n) : wsum f (s ||| 2 ^ i) n = wsum f s n + f i := by
  rw [wsum_ins f s (s ||| 2 ^ i) i h (by rw [bit_or]; simp) (fun j hj => by rw [bit_or]; simp; intro e; exact absurd e.symm hj) n, if_pos hi]
theorem wsum_del (f : Nat → Int) (s i n : Nat) (h : s.testBit i = true) (hi : i < n) : wsum f (s ^^^ 2 ^ i) n = wsum f s n - f i := by
  have := wsum_ins f (s ^^^ 2 ^ i) s i (by rw [Nat.testBit_xor, Nat.testBit_two_pow_self, h]; rfl) h (fun j hj => by rw [Nat.testBit_xor, Nat.testBit_two_pow_of_ne (fun e => hj e.symm)]; simp) n
  rw [if_pos hi] at this
  omega
theorem or_lt (s i n : Nat) (hs : s < 2 ^ n) (hi : i < n) : s ||| 2 ^ i < 2 ^ n := Nat.or_lt_two_pow hs (Nat.pow_lt_pow_right (by omega) hi)
theorem xor_lt (s i n : Nat) (hs : s < 2 ^ n) (hi : i < n) : s ^^^ 2 ^ i < 2 ^ n := Nat.xor_lt_two_pow hs (Nat.pow_lt_pow_right (by omega) hi)
theorem pc_or (s i n : Nat) (hs : s < 2 ^ n) (hi : i < n) (h : s.testBit i = false) : pc (s ||| 2 ^ i) = pc s + 1 := by
  have h1 := pc_wsum n s hs
  have h2 := pc_wsum n _ (or_lt s i n hs hi)
  rw [wsum_or _ s i n h hi] at h2
  omega
theorem pc_del (s i n : Nat) (hs : s < 2 ^ n) (hi : i < n) (h : s.testBit i = true) : pc s = pc (s ^^^ 2 ^ i) + 1 := by
  have h1 := pc_wsum n s hs
  have h2 := pc_wsum n _ (xor_lt s i n hs hi)
  rw [wsum_del _ s i n h hi] at h2
  omega

/-- a set fits: its things' sizes are none below nought, and come to no more than is left -/
theorem fits_iff (zs : List Int) (s : Nat) : ∀ d k L, 0 ≤ L → k + d = zs.length → (fitsL (zs.drop k) k L s = true ↔ (∀ j, k ≤ j → j < zs.length → s.testBit j = true → 0 ≤ zs.getD j 0) ∧ wsum (fun j => zs.getD j 0) s zs.length - wsum (fun j => zs.getD j 0) s k ≤ L) := by
  intro d
  induction d with
  | zero =>
    intro k L hL hk
    have hk' : k = zs.length := by omega
    subst hk'
    rw [List.drop_length]
    refine ⟨fun _ => ⟨fun j h1 h2 => by omega, by omega⟩, fun _ => rfl⟩
  | succ d ih =>
    intro k L hL hk
    rw [fitsL_at zs k L s (by omega)]
    have hb : (s / 2 ^ k % 2 = 0) ↔ s.testBit k = false := by rw [Nat.testBit_eq_decide_div_mod_eq]; simp
    have hw : wsum (fun j => zs.getD j 0) s (k + 1) = wsum (fun j => zs.getD j 0) s k + if s.testBit k = true then zs.getD k 0 else 0 := rfl
    by_cases h : s.testBit k = true
    · rw [if_neg (by rw [hb, h]; simp)]
      rw [if_pos h] at hw
      by_cases hx : zs.getD k 0 < 0 ∨ L < zs.getD k 0
      · rw [if_pos hx]
        refine ⟨(fun h => by cases h), fun ⟨h1, h2⟩ => ?_⟩
        have g0 := h1 k (Nat.le_refl k) (by omega) h
        have g1 : L < zs.getD k 0 := by omega
        have : ∀ m, k + 1 + m ≤ zs.length → wsum (fun j => zs.getD j 0) s (k + 1) ≤ wsum (fun j => zs.getD j 0) s (k + 1 + m) := by
          intro m
          induction m with
          | zero => intro _; exact Int.le_refl _
          | succ m ihm =>
            intro hm
            have i1 := ihm (by omega)
            have e : wsum (fun j => zs.getD j 0) s (k + 1 + (m + 1)) = wsum (fun j => zs.getD j 0) s (k + 1 + m) + if s.testBit (k + 1 + m) = true then zs.getD (k + 1 + m) 0 else 0 := rfl
            rw [e]
            split
            · rename_i ht; have := h1 (k + 1 + m) (by omega) (by omega) ht; omega
            · omega
        have g2 := this (zs.length - (k + 1)) (by omega)
        rw [show k + 1 + (zs.length - (k + 1)) = zs.length by omega] at g2
        omega
      · rw [if_neg hx, ih (k + 1) (L - zs.getD k 0) (by omega) (by omega)]
        refine ⟨fun ⟨h1, h2⟩ => ⟨fun j a b c => ?_, by omega⟩, fun ⟨h1, h2⟩ => ⟨fun j a b c => h1 j (by omega) b c, by omega⟩⟩
        by_cases e : j = k
        · subst e; omega
        · exact h1 j (by omega) b c
    · have h' : s.testBit k = false := by simpa using h
      rw [if_pos (hb.2 h'), ih (k + 1) L hL (by omega)]
      rw [if_neg h] at hw
      refine ⟨fun ⟨h1, h2⟩ => ⟨fun j a b c => ?_, by omega⟩, fun ⟨h1, h2⟩ => ⟨fun j a b c => h1 j (by omega) b c, by omega⟩⟩
      by_cases e : j = k
      · subst e; rw [h'] at c; cases c
      · exact h1 j (by omega) b c
theorem fits_all_iff (zs : List Int) (s : Nat) (L : Int) (hL : 0 ≤ L) : fitsL zs 0 L s = true ↔ (∀ j, j < zs.length → s.testBit j = true → 0 ≤ zs.getD j 0) ∧ wsum (fun j => zs.getD j 0) s zs.length ≤ L := by
  have := fits_iff zs s zs.length 0 L hL (by omega)
  rw [List.drop_zero] at this
  rw [this]
  simp [wsum]
theorem wsum_zero (f : Nat → Int) : ∀ n, wsum f 0 n = 0 := by
  intro n
  induction n with
  | zero => rfl
  | succ n ih => rw [wsum, ih]; simp
theorem fits_none (zs : List Int) (L : Int) (hL : 0 ≤ L) : fitsL zs 0 L 0 = true := by
  rw [fits_all_iff zs 0 L hL]
  exact ⟨fun j _ h => by simp at h, by rw [wsum_zero]; exact hL⟩

/-- a is ahead of b: at the least thing at which they part a has it -/
theorem ahead_iff (a b : Nat) (ha : a < 65536) (hb : b < 65536) : aheadB a b = true ↔ ∃ i, a.testBit i = true ∧ b.testBit i = false ∧ ∀ j, j < i → a.testBit j = b.testBit j := by
  have hx : a ^^^ b < 2 ^ 32 := by have := Nat.xor_lt_two_pow (n := 16) (x := a) (y := b) (by omega) (by omega); omega
  unfold aheadB
  rw [Bool.and_eq_true, decide_eq_true_eq, decide_eq_true_eq]
  have hbit : ∀ k, (a / 2 ^ k % 2 = 1) ↔ a.testBit k = true := fun k => by rw [Nat.testBit_eq_decide_div_mod_eq]; simp
  have low : a ^^^ b ≠ 0 → (a ^^^ b).testBit (ctz 32 (a ^^^ b)) = true ∧ ∀ j, j < ctz 32 (a ^^^ b) → (a ^^^ b).testBit j = false := by
    intro h0
    obtain ⟨m, hm, hk⟩ := ctzFrom_spec 32 (a ^^^ b) (by omega) hx
    have e : ctz 32 (a ^^^ b) = ctzFrom 32 (a ^^^ b) := by simp [ctz, h0]
    rw [e]
    generalize ctzFrom 32 (a ^^^ b) = k at *
    rw [hm]
    refine ⟨by rw [Nat.testBit_two_pow_mul]; simp, fun j hj => by rw [Nat.testBit_two_pow_mul]; simp; omega⟩
  constructor
  · rintro ⟨h0, h1⟩
    obtain ⟨l1, l2⟩ := low h0
    rw [hbit] at h1
    refine ⟨_, h1, ?_, fun j hj => ?_⟩
    · rw [Nat.testBit_xor, h1] at l1; simpa using l1
    · have := l2 j hj; rw [Nat.testBit_xor] at this; simpa using this
  · rintro ⟨i, h1, h2, h3⟩
    have h0 : a ^^^ b ≠ 0 := by
      intro e
      have : (a ^^^ b).testBit i = true := by rw [Nat.testBit_xor, h1, h2]; rfl
      rw [e] at this; simp at this
    obtain ⟨l1, l2⟩ := low h0
    refine ⟨h0, ?_⟩
    rw [hbit]
    generalize ctz 32 (a ^^^ b) = k at *
    by_cases hki : k = i
    · subst hki; exact h1
    · exfalso
      by_cases hlt : k < i
      · rw [Nat.testBit_xor, h3 k hlt] at l1; simp at l1
      · have := l2 i (by omega); rw [Nat.testBit_xor, h1, h2] at this; simp at this
theorem ahead_irrefl (a : Nat) (ha : a < 65536) : aheadB a a = false := by
  rw [Bool.eq_false_iff]; intro h
  obtain ⟨i, h1, h2, _⟩ := (ahead_iff a a ha ha).1 h
  rw [h1] at h2; cases h2
theorem ahead_trans (a b c : Nat) (ha : a < 65536) (hb : b < 65536) (hc : c < 65536) (h1 : aheadB a b = true) (h2 : aheadB b c = true) : aheadB a c = true := by
  obtain ⟨i, a1, a2, a3⟩ := (ahead_iff a b ha hb).1 h1
  obtain ⟨j, b1, b2, b3⟩ := (ahead_iff b c hb hc).1 h2
  rw [ahead_iff a c ha hc]
  by_cases h : i < j
  · exact ⟨i, a1, by rw [← b3 i h]; exact a2, fun k hk => by rw [a3 k hk, b3 k (by omega)]⟩
  · by_cases e : i = j
    · subst e; rw [a2] at b1; cases b1
    · exact ⟨j, by rw [a3 j (by omega)]; exact b1, b2, fun k hk => by rw [a3 k (by omega), b3 k hk]⟩
theorem better_iff (P : Nat → Int) (a b : Nat) : betterB P a b = true ↔ P a < P b ∨ (P a = P b ∧ (pc a < pc b ∨ (pc a = pc b ∧ aheadB a b = true))) := by
  unfold betterB; simp
theorem better_irrefl (P : Nat → Int) (a : Nat) (ha : a < 65536) : betterB P a a = false := by
  rw [Bool.eq_false_iff]; intro h
  rw [better_iff, ahead_irrefl a ha] at h
  rcases h with h | ⟨_, h | ⟨_, h⟩⟩
  · omega
  · omega
  · cases h
theorem better_trans (P : Nat → Int) (a b c : Nat) (ha : a < 65536) (hb : b < 65536) (hc : c < 65536) (h1 : betterB P a b = true) (h2 : betterB P b c = true) : betterB P a c = true := by
  rw [better_iff] at *
  rcases h1 with h1 | ⟨e1, h1⟩
  · rcases h2 with h2 | ⟨e2, h2⟩
    · exact .inl (by omega)
    · exact .inl (by omega)
  · rcases h2 with h2 | ⟨e2, h2⟩
    · exact .inl (by omega)
    · refine .inr ⟨by omega, ?_⟩
      rcases h1 with h1 | ⟨f1, h1⟩
      · rcases h2 with h2 | ⟨f2, h2⟩
        · exact .inl (by omega)
        · exact .inl (by omega)
      · rcases h2 with h2 | ⟨f2, h2⟩
        · exact .inl (by omega)
        · exact .inr ⟨by omega, ahead_trans a b c ha hb hc h1 h2⟩

/-- the first set: it fits, it is small, and no small set that fits comes ahead of it -/
theorem seed_best (zs : List Int) (left : Int) (P : Nat → Int) (m : Int) (hm : 0 ≤ m) (hL : 0 ≤ left) : ∀ N, 1 ≤ N → N ≤ 65536 →
    fitsL zs 0 left (seedS zs left P m N) = true ∧ (pc (seedS zs left P m N) : Int) ≤ m ∧ ∀ s, s < N → fitsL zs 0 left s = true → (pc s : Int) ≤ m → betterB P s (seedS zs left P m N) = false := by
  intro N
  induction N with
  | zero => intro h; omega
  | succ N ih =>
    intro _ hN
    by_cases h1 : 1 ≤ N
    · obtain ⟨i1, i2, i3⟩ := ih h1 (by omega)
      have hlt := seedS_lt zs left P m N h1
      rw [seedS_step _ _ _ _ N h1]
      generalize seedS zs left P m N = b at *
      by_cases c1 : m < (pc N : Int)
      · rw [if_pos c1]
        refine ⟨i1, i2, fun s hs hf hp => ?_⟩
        by_cases e : s = N
        · subst e; omega
        · exact i3 s (by omega) hf hp
      · rw [if_neg c1]
        by_cases c2 : fitsL zs 0 left N = true
        · rw [if_pos c2]
          by_cases c3 : betterB P N b = true
          · rw [if_pos c3]
            refine ⟨c2, by omega, fun s hs hf hp => ?_⟩
            by_cases e : s = N
            · subst e; exact better_irrefl P s (by omega)
            · rw [Bool.eq_false_iff]; intro h
              have := better_trans P s N b (by omega) (by omega) (by omega) h c3
              rw [i3 s (by omega) hf hp] at this; cases this
          · rw [if_neg c3]
            refine ⟨i1, i2, fun s hs hf hp => ?_⟩
            by_cases e : s = N
            · subst e; simpa using c3
            · exact i3 s (by omega) hf hp
        · rw [if_neg c2]
          refine ⟨i1, i2, fun s hs hf hp => ?_⟩
          by_cases e : s = N
          · subst e; exact absurd hf c2
          · exact i3 s (by omega) hf hp
    · have : N = 0 := by omega
      subst this
      have e : seedS zs left P m (0 + 1) = 0 := by simp [seedS]
      rw [e]
      refine ⟨fits_none zs left hL, by rw [pc_zero]; exact hm, fun s hs _ _ => ?_⟩
      have : s = 0 := by omega
      subst this
      exact better_irrefl P 0 (by decide)

/-- may a thing be taken? -/
def Cand (zs : List Int) (left : Int) (s j : Nat) : Prop := s.testBit j = false ∧ fitsL zs 0 left (s ||| 2 ^ j) = true
theorem add_best (zs : List Int) (left : Int) (P : Nat → Int) (s : Nat) : ∀ i,
    (∀ j, j < i → Cand zs left s j → P (addS zs left P s i) ≤ P (s ||| 2 ^ j)) ∧ P (addS zs left P s i) ≤ P s ∧ (addS zs left P s i = s ∨ ∃ j, j < i ∧ Cand zs left s j ∧ addS zs left P s i = s ||| 2 ^ j ∧ P (s ||| 2 ^ j) < P s) := by
  intro i
  induction i with
  | zero => exact ⟨fun j hj => by omega, Int.le_refl _, .inl rfl⟩
  | succ i ih =>
    obtain ⟨i1, i2, i3⟩ := ih
    rw [addS]
    generalize addS zs left P s i = b at *
    by_cases c1 : s ||| 2 ^ i = s
    · rw [if_pos c1]
      refine ⟨fun j hj hc => ?_, i2, i3.imp id fun ⟨j, hj, h⟩ => ⟨j, by omega, h⟩⟩
      by_cases e : j = i
      · subst e; exact absurd c1 (bit_ne s j hc.1)
      · exact i1 j (by omega) hc
    · rw [if_neg c1]
      by_cases c2 : fitsL zs 0 left (s ||| 2 ^ i) = true
      · rw [if_pos c2]
        by_cases c3 : P (s ||| 2 ^ i) < P b
        · rw [if_pos c3]
          refine ⟨fun j hj hc => ?_, by omega, .inr ⟨i, by omega, ⟨bit_not s i c1, c2⟩, rfl, by omega⟩⟩
          by_cases e : j = i
          · subst e; exact Int.le_refl _
          · have := i1 j (by omega) hc; omega
        · rw [if_neg c3]
          refine ⟨fun j hj hc => ?_, i2, i3.imp id fun ⟨j, hj, h⟩ => ⟨j, by omega, h⟩⟩
          by_cases e : j = i
          · subst e; omega
          · exact i1 j (by omega) hc
      · rw [if_neg c2]
        refine ⟨fun j hj hc => ?_, i2, i3.imp id fun ⟨j, hj, h⟩ => ⟨j, by omega, h⟩⟩
        by_cases e : j = i
        · subst e; exact absurd hc.2 c2
        · exact i1 j (by omega) hc

/-- what holds of the first set, and goes on to each larger one, holds of the last; that has all that it may, or nothing more is worth it -/
theorem grow_ind (zs : List Int) (left : Int) (P : Nat → Int) (k : Int) (Q : Nat → Prop) (hz : zs.length ≤ 16)
    (hQ : ∀ s j, Q s → s < 2 ^ zs.length → (pc s : Int) < k → j < zs.length → Cand zs left s j → addS zs left P s zs.length = s ||| 2 ^ j → P (s ||| 2 ^ j) < P s → (∀ i, i < zs.length → Cand zs left s i → P (s ||| 2 ^ j) ≤ P (s ||| 2 ^ i)) → Q (s ||| 2 ^ j)) :
    ∀ d s, 65536 - s ≤ d → s < 2 ^ zs.length → Q s → Q (growS zs left P k s) ∧ growS zs left P k s < 2 ^ zs.length ∧ (k ≤ (pc (growS zs left P k s) : Int) ∨ ∀ i, i < zs.length → Cand zs left (growS zs left P k s) i → P (growS zs left P k s) ≤ P (growS zs left P k s ||| 2 ^ i)) := by
  have h16 : 2 ^ zs.length ≤ 65536 := Nat.pow_le_pow_right (n := 2) (by omega) hz
  intro d
  induction d with
  | zero => intro s hd hs; omega
  | succ d ih =>
    intro s hd hs hq
    obtain ⟨a1, a2, a3⟩ := add_best zs left P s zs.length
    rw [growS]
    by_cases hk : (pc s : Int) < k
    · rcases a3 with a3 | ⟨j, hj, hc, he, hp⟩
      · rw [dif_neg (by rw [a3]; omega)]
        rw [a3] at a1
        exact ⟨hq, hs, .inr a1⟩
      · have hlt : s < s ||| 2 ^ j := by
          have h1 := or_ge s (2 ^ j)
          have h2 := bit_ne s j hc.1
          omega
        have hlt2 := or_lt s j zs.length hs hj
        rw [dif_pos (by rw [he]; omega)]
        rw [he] at a1 ⊢
        exact ih _ (by omega) hlt2 (hQ s j hq hs hk hj hc he hp a1)
    · rw [dif_neg (fun h => hk h.1)]
      exact ⟨hq, hs, .inl (by omega)⟩

/-- the set fits, has no more things than it may, and costs no more than any small set that fits -/
theorem fits_law (zs : List Int) (left : Int) (P : Nat → Int) (m k : Int) (hz : zs.length ≤ 16) (hL : 0 ≤ left) (hm : 0 ≤ m) (hk : 0 ≤ k) (r : Nat) (hr : r = growS zs left P k (seedS zs left P (min m k) (2 ^ zs.length))) :
    r < 2 ^ zs.length ∧ fitsL zs 0 left r = true ∧ (pc r : Int) ≤ k ∧ ∀ s, s < 2 ^ zs.length → fitsL zs 0 left s = true → (pc s : Int) ≤ min m k → P r ≤ P s := by
  have h16 : 2 ^ zs.length ≤ 65536 := Nat.pow_le_pow_right (n := 2) (by omega) hz
  obtain ⟨b1, b2, b3⟩ := seed_best zs left P (min m k) (by omega) hL (2 ^ zs.length) Nat.one_le_two_pow h16
  have b4 := seedS_lt zs left P (min m k) (2 ^ zs.length) Nat.one_le_two_pow
  generalize seedS zs left P (min m k) (2 ^ zs.length) = b at *
  obtain ⟨⟨q1, q2, q3⟩, q4, _⟩ := grow_ind zs left P k (fun s => fitsL zs 0 left s = true ∧ (pc s : Int) ≤ k ∧ P s ≤ P b) hz (fun s j ⟨x1, x2, x3⟩ hs hp hj hc _ hlt _ => ⟨hc.2, by rw [pc_or s j _ hs hj hc.1]; omega, by omega⟩) 65536 b (by omega) b4 ⟨b1, by omega, Int.le_refl _⟩
  rw [← hr] at q1 q2 q3 q4
  refine ⟨q4, q1, q2, fun s hs hf hp => ?_⟩
  have := b3 s hs hf hp
  rw [Bool.eq_false_iff, ne_eq, better_iff] at this
  omega
theorem priceA_alone (base : Int) (off : List Int) (s : Nat) : ∀ n, priceA base off [] s n = base.tmod 1000000 - wsum (fun j => off.getD j 0) s n := by
  intro n
  induction n with
  | zero => simp [priceA, wsum]
  | succ n ih =>
    rw [priceA, wsum, ih]
    have hb : (s / 2 ^ n % 2 = 0) ↔ s.testBit n = false := by rw [Nat.testBit_eq_decide_div_mod_eq]; simp
    by_cases h : s.testBit n = true
    · rw [if_neg (by rw [hb, h]; simp), if_neg (fun h => absurd h.1 (Nat.not_lt_zero n)), if_pos h]
      by_cases h2 : n < off.length
      · rw [if_pos h2]; omega
      · rw [if_neg h2]
        have : off.getD n 0 = 0 := by rw [List.getD_eq_getElem?_getD, List.getElem?_eq_none (by omega)]; rfl
        omega
    · rw [if_pos (hb.2 (by simpa using h)), if_neg h]; omega

/-- sets of things of one size: they fit by how many they are -/
theorem wsum_const (c : Int) (zs : List Int) (s : Nat) : ∀ n, (∀ j, j < n → zs.getD j 0 = c) → wsum (fun j => zs.getD j 0) s n = c * wsum (fun _ => 1) s n := by
  intro n
  induction n with
  | zero => intro _; simp [wsum]
  | succ n ih =>
    intro h
    rw [wsum, wsum, ih (fun j hj => h j (by omega)), h n (by omega), Int.mul_add]
    split <;> simp
theorem rep_get (n : Nat) (c : Int) (j : Nat) (h : j < n) : (List.replicate n c).getD j 0 = c := by
  rw [List.getD_eq_getElem?_getD, List.getElem?_replicate, if_pos h]; rfl
theorem fits_alone (n : Nat) (c : Int) (hc : 0 ≤ c) (left : Int) (hL : 0 ≤ left) (s : Nat) (hs : s < 2 ^ n) : fitsL (List.replicate n c) 0 left s = true ↔ c * (pc s : Int) ≤ left := by
  rw [fits_all_iff _ s left hL, List.length_replicate, pc_wsum n s hs, wsum_const c _ s n (rep_get n c)]
  exact ⟨fun h => h.2, fun h => ⟨fun j hj _ => by rw [rep_get n c j hj]; exact hc, h⟩⟩

/-- a set has those that take most off, and none that takes off nothing -/
def Top (F : Nat → Int) (n s : Nat) : Prop := (∀ i, i < n → s.testBit i = true → 0 < F i) ∧ ∀ i j, i < n → j < n → s.testBit i = true → s.testBit j = false → F j ≤ F i

theorem mul_mono (c : Int) (hc : 0 ≤ c) (a b : Nat) (h : a ≤ b) : c * (a : Int) ≤ c * (b : Int) := Int.mul_le_mul_of_nonneg_left (by omega) hc

theorem alone_law (n : Nat) (c left : Int) (base : Int) (off : List Int) (m k : Int) (hn : n ≤ 16) (hc : 0 ≤ c) (hL : 0 ≤ left) (hm : 0 ≤ m) (hk : 0 ≤ k) (r : Nat)
    (hr : r = growS (List.replicate n c) left (fun s => priceA base off [] s n) k (seedS (List.replicate n c) left (fun s => priceA base off [] s n) (min m k) (2 ^ n))) :
    r < 2 ^ n ∧ Top (fun j => off.getD j 0) n r ∧ c * (pc r : Int) ≤ left ∧ (pc r : Int) ≤ k ∧ ((pc r : Int) = k ∨ left < c * ((pc r : Int) + 1) ∨ ∀ i, i < n → r.testBit i = false → off.getD i 0 ≤ 0) := by
  have hP : ∀ s, priceA base off [] s n = base.tmod 1000000 - wsum (fun j => off.getD j 0) s n := fun s => priceA_alone base off s n
  generalize hPd : (fun s => priceA base off [] s n) = P at hr
  have hP' : ∀ s, P s = base.tmod 1000000 - wsum (fun j => off.getD j 0) s n := fun s => by rw [← hP s, ← hPd]
  clear hP hPd
  generalize hF : (fun j => off.getD j 0) = F at *
  have hFi : ∀ i, off.getD i 0 = F i := fun i => by rw [← hF]
  have h16 : 2 ^ n ≤ 65536 := Nat.pow_le_pow_right (n := 2) (by omega) hn
  have hlen : (List.replicate n c).length = n := List.length_replicate
  obtain ⟨b1, b2, b3⟩ := seed_best (List.replicate n c) left P (min m k) (by omega) hL (2 ^ n) Nat.one_le_two_pow h16
  have b4 := seedS_lt (List.replicate n c) left P (min m k) (2 ^ n) Nat.one_le_two_pow
  generalize seedS (List.replicate n c) left P (min m k) (2 ^ n) = b at *
  have hfit := fun s hs => fits_alone n c hc left hL s hs
  have b1' := (hfit b b4).1 b1
  have topb : Top F n b := by
    constructor
    · intro i hi hbi
      have hlt := xor_lt b i n b4 hi
      have hp := pc_del b i n b4 hi hbi
      have hf : fitsL (List.replicate n c) 0 left (b ^^^ 2 ^ i) = true := (hfit _ hlt).2 (by have := mul_mono c hc (pc (b ^^^ 2 ^ i)) (pc b) (by omega); omega)
      have hno := b3 _ hlt hf (by omega)
      rw [Bool.eq_false_iff, ne_eq, better_iff, hP', hP', wsum_del F b i n hbi hi] at hno
      omega
    · intro i j hi hj hbi hbj
      have hij : i ≠ j := fun e => by subst e; rw [hbi] at hbj; cases hbj
      have hlt := xor_lt b i n b4 hi
      have hxj : (b ^^^ 2 ^ i).testBit j = false := by rw [Nat.testBit_xor, hbj, Nat.testBit_two_pow_of_ne hij]; rfl
      have hlt2 := or_lt _ j n hlt hj
      have hp := pc_del b i n b4 hi hbi
      have hp2 := pc_or _ j n hlt hj hxj
      have hf : fitsL (List.replicate n c) 0 left ((b ^^^ 2 ^ i) ||| 2 ^ j) = true := (hfit _ hlt2).2 (by rw [show pc ((b ^^^ 2 ^ i) ||| 2 ^ j) = pc b by omega]; exact b1')
      have hno := b3 _ hlt2 hf (by omega)
      rw [Bool.eq_false_iff, ne_eq, better_iff, hP', hP', wsum_or F _ j n hxj hj, wsum_del F b i n hbi hi] at hno
      omega
  have hg := grow_ind (List.replicate n c) left P k (fun s => Top F n s ∧ fitsL (List.replicate n c) 0 left s = true ∧ (pc s : Int) ≤ k) (by rw [hlen]; exact hn)
    (fun s j hq hs hp hj hcd _ hpl hbest => by
      rw [hlen] at hs hj hbest
      obtain ⟨⟨t1, t2⟩, x2, x3⟩ := hq
      have hpj := pc_or s j n hs hj hcd.1
      have hFj : 0 < F j := by rw [hP', hP', wsum_or F s j n hcd.1 hj] at hpl; omega
      have hall : ∀ i, i < n → s.testBit i = false → F i ≤ F j := by
        intro i hi hsi
        have hpi := pc_or s i n hs hi hsi
        have hci : Cand (List.replicate n c) left s i := ⟨hsi, (hfit _ (or_lt s i n hs hi)).2 (by rw [hpi, ← hpj]; exact (hfit _ (or_lt s j n hs hj)).1 hcd.2)⟩
        have := hbest i hi hci
        rw [hP', hP', wsum_or F s j n hcd.1 hj, wsum_or F s i n hsi hi] at this
        omega
      refine ⟨⟨fun i hi hb => ?_, fun i l hi hl hb hbl => ?_⟩, hcd.2, by omega⟩
      · rw [bit_or] at hb
        by_cases e : j = i
        · subst e; exact hFj
        · exact t1 i hi (by simpa [e] using hb)
      · rw [bit_or] at hb hbl
        simp only [Bool.or_eq_false_iff, decide_eq_false_iff_not] at hbl
        by_cases e : j = i
        · subst e; exact hall l hl hbl.1
        · exact t2 i l hi hl (by simpa [e] using hb) hbl.1)
    65536 b (by omega) (by rw [hlen]; exact b4) ⟨topb, b1, by omega⟩
  rw [← hr, hlen] at hg
  obtain ⟨⟨q1, q2, q3⟩, q4, q5⟩ := hg
  have q2' := (hfit r q4).1 q2
  refine ⟨q4, q1, q2', q3, ?_⟩
  rcases q5 with q5 | q5
  · exact .inl (by omega)
  · by_cases hmore : left < c * ((pc r : Int) + 1)
    · exact .inr (.inl hmore)
    · refine .inr (.inr fun i hi hri => ?_)
      rw [hFi]
      have hpi := pc_or r i n q4 hi hri
      have e : (((pc r + 1 : Nat)) : Int) = (pc r : Int) + 1 := by omega
      have hfi : fitsL (List.replicate n c) 0 left (r ||| 2 ^ i) = true := (hfit _ (or_lt r i n q4 hi)).2 (by rw [hpi, e]; omega)
      have := q5 i hi ⟨hri, hfi⟩
      rw [hP', hP', wsum_or F r i n hri hi] at this
      omega

/-- where a number goes in a list that falls -/
def posD (l : List Int) (x : Int) : Nat → Nat
  | 0 => 0
  | k + 1 => if l.getD k 0 < x then posD l x k else k + 1
theorem posD_le (l : List Int) (x : Int) : ∀ k, posD l x k ≤ k := by
  intro k
  induction k with
  | zero => exact Nat.le_refl _
  | succ k ih => rw [posD]; split <;> omega
theorem posD_spec (l : List Int) (x : Int) : ∀ k, (posD l x k = 0 ∨ x ≤ l.getD (posD l x k - 1) 0) ∧ ∀ q, posD l x k ≤ q → q < k → l.getD q 0 < x := by
  intro k
  induction k with
  | zero => exact ⟨.inl rfl, fun q h1 h2 => by omega⟩
  | succ k ih =>
    rw [posD]
    by_cases h : l.getD k 0 < x
    · rw [if_pos h]
      refine ⟨ih.1, fun q h1 h2 => ?_⟩
      by_cases e : q = k
      · subst e; exact h
      · exact ih.2 q h1 (by omega)
    · rw [if_neg h]
      exact ⟨.inr (by simp only [Nat.add_sub_cancel]; omega), fun q h1 h2 => by omega⟩
def insD (l : List Int) (x : Int) : List Int := l.take (posD l x l.length) ++ x :: l.drop (posD l x l.length)
theorem insD_perm (l : List Int) (x : Int) : (insD l x).Perm (x :: l) := by
  unfold insD
  refine List.perm_middle.trans ?_
  rw [List.take_append_drop]
theorem getD_of_lt (l : List Int) (i : Nat) (h : i < l.length) : l.getD i 0 = l[i] := by
  rw [List.getD_eq_getElem?_getD, List.getElem?_eq_getElem h]; rfl
theorem insD_sorted (l : List Int) (x : Int) (hl : l.Pairwise (fun a b => b ≤ a)) : (insD l x).Pairwise (fun a b => b ≤ a) := by
  obtain ⟨s1, s2⟩ := posD_spec l x l.length
  have hle := posD_le l x l.length
  unfold insD
  generalize posD l x l.length = p at *
  have hget : ∀ i j (hi : i < l.length) (hj : j < l.length), i ≤ j → l[j] ≤ l[i] := by
    intro i j hi hj hij
    by_cases e : i = j
    · subst e; exact Int.le_refl _
    · exact List.pairwise_iff_getElem.1 hl i j hi hj (by omega)
  have hpre : ∀ a ∈ l.take p, x ≤ a := by
    intro a ha
    obtain ⟨i, hi, rfl⟩ := List.mem_iff_getElem.1 ha
    rw [List.length_take] at hi
    rw [List.getElem_take]
    rcases s1 with s1 | s1
    · omega
    · rw [getD_of_lt l (p - 1) (by omega)] at s1
      have := hget i (p - 1) (by omega) (by omega) (by omega)
      omega
  have hsuf : ∀ a ∈ l.drop p, a < x := by
    intro a ha
    obtain ⟨i, hi, rfl⟩ := List.mem_iff_getElem.1 ha
    rw [List.length_drop] at hi
    rw [List.getElem_drop]
    have := s2 (p + i) (by omega) (by omega)
    rw [getD_of_lt l (p + i) (by omega)] at this
    exact this
  rw [List.pairwise_append]
  refine ⟨hl.sublist (List.take_sublist _ _), ?_, fun a ha b hb => ?_⟩
  · rw [List.pairwise_cons]
    exact ⟨fun a ha => by have := hsuf a ha; omega, hl.sublist (List.drop_sublist _ _)⟩
  · rcases List.mem_cons.1 hb with rfl | hb
    · exact hpre a ha
    · have h1 := hpre a ha; have h2 := hsuf b hb; omega
/-- a list, put in order -/
def ordD (l : List Int) : List Int := l.foldl insD []
theorem ordD_go : ∀ (l acc : List Int), acc.Pairwise (fun a b => b ≤ a) → (l.foldl insD acc).Pairwise (fun a b => b ≤ a) ∧ (l.foldl insD acc).Perm (acc ++ l) := by
  intro l
  induction l with
  | nil => intro acc h; exact ⟨h, by simp⟩
  | cons x l ih =>
    intro acc h
    obtain ⟨h1, h2⟩ := ih (insD acc x) (insD_sorted acc x h)
    exact ⟨h1, h2.trans (((insD_perm acc x).append_right l).trans List.perm_middle.symm)⟩
theorem ordD_sorted (l : List Int) : (ordD l).Pairwise (fun a b => b ≤ a) := (ordD_go l [] List.Pairwise.nil).1
theorem ordD_perm (l : List Int) : (ordD l).Perm l := by have := (ordD_go l [] List.Pairwise.nil).2; rwa [List.nil_append] at this
theorem perm_sum {a b : List Int} (h : a.Perm b) : a.sum = b.sum := by
  induction h with
  | nil => rfl
  | cons x _ ih => simp [ih]
  | swap x y l => simp; omega
  | trans _ _ h1 h2 => rw [h1, h2]

theorem wsum_filter (f : Nat → Int) (s : Nat) : ∀ n, wsum f s n = (((List.range n).filter (fun i => s.testBit i)).map f).sum := by
  intro n
  induction n with
  | zero => simp [wsum]
  | succ n ih =>
    rw [wsum, ih, List.range_succ, List.filter_append, List.map_append, List.sum_append]
    by_cases h : s.testBit n = true <;> simp [h]
theorem pc_filter (n s : Nat) (hs : s < 2 ^ n) : pc s = ((List.range n).filter (fun i => s.testBit i)).length := by
  have h := pc_wsum n s hs
  rw [wsum_filter] at h
  have e : ∀ l : List Nat, (l.map (fun _ => (1 : Int))).sum = l.length := by
    intro l
    induction l with
    | nil => rfl
    | cons x l ih => simp [ih]; omega
  rw [e] at h
  omega

/-- what the first so many take off, where they take off anything -/
def wantS (l : List Int) (room : Int) : Nat → Int
  | 0 => 0
  | i + 1 => wantS l room i + if (i : Int) < room ∧ 0 < l.getD i 0 then l.getD i 0 else 0

theorem want_parts (a b : List Int) (room : Int) (ha : ∀ x ∈ a, 0 < x) (hr : (a.length : Int) ≤ room) (hb : (a.length : Int) = room ∨ ∀ x ∈ b, x ≤ 0) : wantS (a ++ b) room (a ++ b).length = a.sum := by
  have h1 : ∀ j, j ≤ a.length → wantS (a ++ b) room j = (a.take j).sum := by
    intro j
    induction j with
    | zero => intro _; simp [wantS]
    | succ j ih =>
      intro hj
      have e : (a ++ b).getD j 0 = a[j] := by rw [getD_of_lt _ j (by simp; omega), List.getElem_append_left]
      rw [wantS, ih (by omega), e, if_pos ⟨by omega, ha _ (List.getElem_mem _)⟩, List.take_succ_eq_append_getElem (by omega), List.sum_append]
      simp
  have h2 : ∀ m, m ≤ b.length → wantS (a ++ b) room (a.length + m) = a.sum := by
    intro m
    induction m with
    | zero => intro _; rw [Nat.add_zero, h1 _ (Nat.le_refl _), List.take_length]
    | succ m ih =>
      intro hm
      have e : (a ++ b).getD (a.length + m) 0 = b[m] := by
        rw [getD_of_lt _ _ (by simp; omega), List.getElem_append_right (by omega)]
        simp
      rw [← Nat.add_assoc, wantS, ih (by omega), e, if_neg]
      · simp
      · rintro ⟨x1, x2⟩
        rcases hb with hb | hb
        · omega
        · have := hb _ (List.getElem_mem (show m < b.length by omega)); omega
  rw [List.length_append]
  exact h2 _ (Nat.le_refl _)

theorem top_want (F : Nat → Int) (n r : Nat) (room : Int) (hr : r < 2 ^ n) (ht : Top F n r) (h1 : (pc r : Int) ≤ room) (h2 : (pc r : Int) = room ∨ ∀ i, i < n → r.testBit i = false → F i ≤ 0) :
    wsum F r n = wantS (ordD ((List.range n).map F)) room n := by
  have hlen := pc_filter n r hr
  rw [wsum_filter]
  generalize hA : ((List.range n).filter (fun i => r.testBit i)).map F = A
  have hAl : A.length = pc r := by rw [← hA, List.length_map, hlen]
  obtain ⟨B, hB⟩ : ∃ B, B = ((List.range n).filter (fun i => !r.testBit i)).map F := ⟨_, rfl⟩
  have hperm : ((List.range n).map F).Perm (A ++ B) := by
    rw [← hA, hB, ← List.map_append]
    exact (List.filter_append_perm _ _).symm.map F
  have memA : ∀ x ∈ A, ∃ i, i < n ∧ r.testBit i = true ∧ F i = x := by
    intro x hx
    rw [← hA, List.mem_map] at hx
    obtain ⟨i, hi, e⟩ := hx
    rw [List.mem_filter, List.mem_range] at hi
    exact ⟨i, hi.1, hi.2, e⟩
  have memB : ∀ x ∈ B, ∃ i, i < n ∧ r.testBit i = false ∧ F i = x := by
    intro x hx
    rw [hB, List.mem_map] at hx
    obtain ⟨i, hi, e⟩ := hx
    rw [List.mem_filter, List.mem_range] at hi
    exact ⟨i, hi.1, by simpa using hi.2, e⟩
  have hord : ordD ((List.range n).map F) = ordD A ++ ordD B := by
    refine List.Perm.eq_of_pairwise (le := fun a b => b ≤ a) ?_ (ordD_sorted _) ?_ ?_
    · intro a b _ _ h1 h2; omega
    · rw [List.pairwise_append]
      refine ⟨ordD_sorted _, ordD_sorted _, fun a ha b hb => ?_⟩
      obtain ⟨i, i1, i2, rfl⟩ := memA a ((ordD_perm A).mem_iff.1 ha)
      obtain ⟨j, j1, j2, rfl⟩ := memB b ((ordD_perm B).mem_iff.1 hb)
      exact ht.2 i j i1 j1 i2 j2
    · exact (ordD_perm _).trans (hperm.trans ((ordD_perm A).append (ordD_perm B)).symm)
  have hlenn : (ordD A ++ ordD B).length = n := by rw [← hord, (ordD_perm _).length_eq]; simp
  have hla : (ordD A).length = pc r := by rw [(ordD_perm A).length_eq, hAl]
  have := want_parts (ordD A) (ordD B) room
    (fun x hx => by obtain ⟨i, i1, i2, rfl⟩ := memA x ((ordD_perm A).mem_iff.1 hx); exact ht.1 i i1 i2)
    (by rw [hla]; exact h1)
    (by
      rw [hla]
      rcases h2 with h2 | h2
      · exact .inl h2
      · exact .inr fun x hx => by obtain ⟨i, i1, i2, rfl⟩ := memB x ((ordD_perm B).mem_iff.1 hx); exact h2 i i1 i2)
  rw [hord]
  rw [hlenn] at this
  rw [this, perm_sum (ordD_perm A)]
end Go.Proofs.YteckfakabaiipaaDoor
