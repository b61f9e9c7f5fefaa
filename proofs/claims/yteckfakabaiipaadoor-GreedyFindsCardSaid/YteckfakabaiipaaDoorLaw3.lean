/- The plain laws of the document's search, and of the program's: they find the same set. -/
import Derived.Test.YteckfakabaiipaaDoorLaw
namespace Go.Proofs.YteckfakabaiipaaDoor

/-- the number of a list of things -/
def setL : List Nat → Nat
  | [] => 0
  | i :: r => setL r ||| 2 ^ i
theorem bit_setL (l : List Nat) (i : Nat) : (setL l).testBit i = decide (i ∈ l) := by
  induction l with
  | nil => simp [setL]
  | cons x l ih =>
    rw [setL, bit_or, ih]
    by_cases h : x = i
    · subst h; simp
    · have h' : ¬ i = x := fun e => h e.symm
      simp [h, h']
theorem setL_lt (l : List Nat) (n : Nat) (h : ∀ x ∈ l, x < n) : setL l < 2 ^ n := by
  induction l with
  | nil => exact Nat.two_pow_pos n
  | cons x l ih => rw [setL]; exact or_lt _ _ _ (ih fun y hy => h y (List.mem_cons_of_mem _ hy)) (h x (List.mem_cons_self ..))
theorem setL_snoc (l : List Nat) (i : Nat) : setL (l ++ [i]) = setL l ||| 2 ^ i := by
  apply Nat.eq_of_testBit_eq
  intro j
  rw [bit_setL, bit_or, bit_setL]
  by_cases h : i = j
  · subst h; simp
  · have h' : ¬ j = i := fun e => h e.symm
    simp [h, h']
/-- a list of things, none twice -/
def Things (n : Nat) (l : List Nat) : Prop := l.Nodup ∧ ∀ x ∈ l, x < n
theorem Things.nil (n : Nat) : Things n [] := ⟨List.nodup_nil, fun x h => by cases h⟩
theorem Things.snoc {n : Nat} {l : List Nat} (h : Things n l) (i : Nat) (hi : i < n) (hn : i ∉ l) : Things n (l ++ [i]) := by
  refine ⟨List.nodup_append.2 ⟨h.1, by simp, fun a ha b hb e => ?_⟩, fun x hx => ?_⟩
  · have : b = i := by simpa using hb
    subst this; subst e; exact hn ha
  · rcases List.mem_append.1 hx with hx | hx
    · exact h.2 x hx
    · have : x = i := by simpa using hx
      omega
theorem pc_setL (n : Nat) (l : List Nat) (h : Things n l) : pc (setL l) = l.length := by
  obtain ⟨hn, hl⟩ := h
  induction l with
  | nil => exact pc_zero
  | cons x l ih =>
    rw [List.nodup_cons] at hn
    have hl' : ∀ y ∈ l, y < n := fun y hy => hl y (List.mem_cons_of_mem _ hy)
    rw [setL, pc_or _ x n (setL_lt l n hl') (hl x (List.mem_cons_self ..)) (by rw [bit_setL]; simp [hn.1]), ih hn.2 hl', List.length_cons]

/-- do a list's things fit, in its order -/
def fitsR (zs : List Int) : List Nat → Int → Bool
  | [], _ => true
  | x :: r, left => if zs.getD x 0 < 0 ∨ left < zs.getD x 0 then false else fitsR zs r (left - zs.getD x 0)
theorem fitsR_iff (zs : List Int) : ∀ (l : List Nat) (left : Int), 0 ≤ left → (fitsR zs l left = true ↔ (∀ x ∈ l, 0 ≤ zs.getD x 0) ∧ (l.map fun x => zs.getD x 0).sum ≤ left) := by
  intro l
  induction l with
  | nil => intro left h; simp [fitsR, h]
  | cons x l ih =>
    intro left h
    rw [fitsR]
    by_cases hx : zs.getD x 0 < 0 ∨ left < zs.getD x 0
    · rw [if_pos hx]
      refine ⟨(fun h => by cases h), fun ⟨h1, h2⟩ => ?_⟩
      have g0 := h1 x (List.mem_cons_self ..)
      have gs : ∀ l : List Nat, (∀ y ∈ l, 0 ≤ zs.getD y 0) → 0 ≤ (l.map fun y => zs.getD y 0).sum := by
        intro l
        induction l with
        | nil => intro _; simp
        | cons y l ih2 =>
          intro hl
          have a1 := hl y (List.mem_cons_self ..)
          have a2 := ih2 fun z hz => hl z (List.mem_cons_of_mem _ hz)
          rw [List.map_cons, List.sum_cons]; omega
      have g1 := gs l fun y hy => h1 y (List.mem_cons_of_mem _ hy)
      rw [List.map_cons, List.sum_cons] at h2
      omega
    · rw [if_neg hx, ih _ (by omega), List.map_cons, List.sum_cons]
      refine ⟨fun ⟨h1, h2⟩ => ⟨fun y hy => ?_, by omega⟩, fun ⟨h1, h2⟩ => ⟨fun y hy => h1 y (List.mem_cons_of_mem _ hy), by omega⟩⟩
      rcases List.mem_cons.1 hy with rfl | hy
      · omega
      · exact h1 y hy
theorem wsum_setL (f : Nat → Int) (n : Nat) (l : List Nat) (h : Things n l) : wsum f (setL l) n = (l.map f).sum := by
  obtain ⟨hn, hl⟩ := h
  induction l with
  | nil => rw [setL, wsum_zero]; rfl
  | cons x l ih =>
    rw [List.nodup_cons] at hn
    have hl' : ∀ y ∈ l, y < n := fun y hy => hl y (List.mem_cons_of_mem _ hy)
    rw [setL, wsum_or f _ x n (by rw [bit_setL]; simp [hn.1]) (hl x (List.mem_cons_self ..)), ih hn.2 hl', List.map_cons, List.sum_cons]
    omega
theorem fits_list (zs : List Int) (l : List Nat) (left : Int) (hL : 0 ≤ left) (h : Things zs.length l) : fitsR zs l left = fitsL zs 0 left (setL l) := by
  rw [Bool.eq_iff_iff, fitsR_iff zs l left hL, fits_all_iff zs _ left hL, wsum_setL _ zs.length l h]
  refine ⟨fun ⟨h1, h2⟩ => ⟨fun j _ hb => h1 j (by rw [bit_setL] at hb; simpa using hb), h2⟩, fun ⟨h1, h2⟩ => ⟨fun x hx => h1 x (h.2 x hx) (by rw [bit_setL]; simpa using hx), h2⟩⟩

/-- the document's steps -/
def seedR (zs : List Int) (left : Int) (P : Nat → Int) : Nat → List Nat → Nat → List Nat → List Nat
  | 0, T, _, best => if (fitsR zs T left && decide (P (setL T) < P (setL best))) = true then T else best
  | m + 1, T, a, best => (List.range' a (zs.length - a)).foldl (fun b i => seedR zs left P m (T ++ [i]) (i + 1) b) best
def addR (zs : List Int) (left : Int) (P : Nat → Int) (best : List Nat) : Nat → List Nat
  | 0 => best
  | i + 1 => if (!decide (i ∈ best) && fitsR zs (best ++ [i]) left && decide (P (setL (best ++ [i])) < P (setL (addR zs left P best i)))) = true then best ++ [i] else addR zs left P best i

theorem add_list (zs : List Int) (left : Int) (P : Nat → Int) (best : List Nat) (hL : 0 ≤ left) (h : Things zs.length best) : ∀ i, i ≤ zs.length →
    setL (addR zs left P best i) = addS zs left P (setL best) i ∧ (addR zs left P best i = best ∨ ∃ j, j < i ∧ j ∉ best ∧ addR zs left P best i = best ++ [j]) := by
  intro i
  induction i with
  | zero => intro _; exact ⟨rfl, .inl rfl⟩
  | succ i ih =>
    intro hi
    obtain ⟨i1, i2⟩ := ih (by omega)
    rw [addR, addS]
    by_cases hm : i ∈ best
    · rw [if_neg (by simp [hm]), if_pos]
      · exact ⟨i1, i2.imp id fun ⟨j, hj, h⟩ => ⟨j, by omega, h⟩⟩
      · apply Nat.eq_of_testBit_eq
        intro j
        rw [bit_or, bit_setL]
        by_cases e : i = j
        · subst e; simp [hm]
        · simp [e]
    · have hne : setL best ||| 2 ^ i ≠ setL best := bit_ne _ _ (by rw [bit_setL]; simp [hm])
      have hT := h.snoc i (by omega) hm
      rw [if_neg hne, setL_snoc, fits_list zs _ left hL hT, setL_snoc, i1]
      by_cases hf : fitsL zs 0 left (setL best ||| 2 ^ i) = true
      · rw [if_pos hf]
        by_cases hp : P (setL best ||| 2 ^ i) < P (addS zs left P (setL best) i)
        · rw [if_pos (by simp [hm, hf, hp]), if_pos hp]
          exact ⟨setL_snoc _ _, .inr ⟨i, by omega, hm, rfl⟩⟩
        · rw [if_neg (by simp [hp]), if_neg hp]
          exact ⟨i1, i2.imp id fun ⟨j, hj, h⟩ => ⟨j, by omega, h⟩⟩
      · rw [if_neg hf, if_neg (by simp [hf])]
        exact ⟨i1, i2.imp id fun ⟨j, hj, h⟩ => ⟨j, by omega, h⟩⟩

/-- one thing after the other, as the document has it -/
def growR (zs : List Int) (left : Int) (P : Nat → Int) (k : Int) : Nat → List Nat → List Nat
  | 0, best => best
  | d + 1, best => if (best.length : Int) < k then (if (addR zs left P best zs.length).length = best.length then best else growR zs left P k d (addR zs left P best zs.length)) else best
theorem things_le (n : Nat) (l : List Nat) (h : Things n l) : l.length ≤ n := by
  rw [← pc_setL n l h]; exact pc_le n _ (setL_lt l n h.2)
theorem grow_list (zs : List Int) (left : Int) (P : Nat → Int) (k : Int) (hL : 0 ≤ left) (hz : zs.length ≤ 16) : ∀ d best, zs.length - best.length ≤ d → Things zs.length best →
    setL (growR zs left P k (d + 1) best) = growS zs left P k (setL best) := by
  have h16 : 2 ^ zs.length ≤ 65536 := Nat.pow_le_pow_right (n := 2) (by omega) hz
  intro d
  induction d with
  | zero =>
    intro best hd h
    obtain ⟨a1, a2⟩ := add_list zs left P best hL h zs.length (Nat.le_refl _)
    have hfull : best.length = zs.length := by have := things_le _ _ h; omega
    have hsame : addR zs left P best zs.length = best := by
      rcases a2 with a2 | ⟨j, hj, hn, e⟩
      · exact a2
      · have := things_le _ _ (h.snoc j hj hn)
        simp at this; omega
    rw [growR, growS, hsame, ← a1, hsame, dif_neg (by omega)]
    simp
  | succ d ih =>
    intro best hd h
    obtain ⟨a1, a2⟩ := add_list zs left P best hL h zs.length (Nat.le_refl _)
    rw [growR, growS, pc_setL _ _ h]
    by_cases hk : (best.length : Int) < k
    · rw [if_pos hk]
      rcases a2 with a2 | ⟨j, hj, hn, e⟩
      · rw [if_pos (by rw [a2]), ← a1, a2, dif_neg (by omega)]
      · have hT := h.snoc j hj hn
        have hlt := setL_lt _ _ hT.2
        have hgt : setL best < setL (best ++ [j]) := by
          rw [setL_snoc]
          have h1 := or_ge (setL best) (2 ^ j)
          have h2 := bit_ne (setL best) j (by rw [bit_setL]; simp [hn])
          omega
        rw [e, if_neg (by simp), ih _ (by simp; omega) hT, ← a1, e, dif_pos (by omega)]
    · rw [if_neg hk, dif_neg (fun h => hk h.1)]

/-- the sets that begin as a list does, and have so many things more -/
def Ext (n : Nat) (T : List Nat) (a m c : Nat) : Prop := c < 2 ^ n ∧ pc c = T.length + m ∧ ∀ x, x < a → c.testBit x = decide (x ∈ T)
/-- a set comes ahead of another whatever they cost, if they cost the same -/
def Before (b c : Nat) : Prop := pc b < pc c ∨ (pc b = pc c ∧ aheadB b c = true)

theorem wsum_mono (s : Nat) : ∀ d a, wsum (fun _ => 1) s a ≤ wsum (fun _ => 1) s (a + d) := by
  intro d
  induction d with
  | zero => intro a; exact Int.le_refl _
  | succ d ih => intro a; have := ih a; rw [← Nat.add_assoc, wsum]; split <;> omega
theorem wsum_gap (s : Nat) : ∀ d a, wsum (fun _ => 1) s (a + d) = wsum (fun _ => 1) s a → ∀ x, a ≤ x → x < a + d → s.testBit x = false := by
  intro d
  induction d with
  | zero => intro a _ x h1 h2; omega
  | succ d ih =>
    intro a h x h1 h2
    have hm := wsum_mono s d a
    rw [← Nat.add_assoc, wsum] at h
    by_cases hb : s.testBit (a + d) = true
    · rw [if_pos hb] at h; omega
    · rw [if_neg hb] at h
      by_cases e : x = a + d
      · subst e; simpa using hb
      · exact ih a (by omega) x h1 (by omega)
theorem wsum_some (s : Nat) : ∀ d a, wsum (fun _ => 1) s a < wsum (fun _ => 1) s (a + d) → ∃ i, a ≤ i ∧ i < a + d ∧ s.testBit i = true ∧ ∀ x, a ≤ x → x < i → s.testBit x = false := by
  intro d
  induction d with
  | zero => intro a h; rw [Nat.add_zero] at h; omega
  | succ d ih =>
    intro a h
    by_cases h2 : wsum (fun _ => 1) s a < wsum (fun _ => 1) s (a + d)
    · obtain ⟨i, h3, h4, h5⟩ := ih a h2
      exact ⟨i, h3, by omega, h5⟩
    · have heq : wsum (fun _ => 1) s (a + d) = wsum (fun _ => 1) s a := by have := wsum_mono s d a; omega
      have hg := wsum_gap s d a heq
      rw [← Nat.add_assoc, wsum, heq] at h
      by_cases hb : s.testBit (a + d) = true
      · exact ⟨a + d, by omega, by omega, hb, hg⟩
      · rw [if_neg hb] at h; omega
/-- how many of a set's things lie below a number -/
theorem below_count (_n a c : Nat) (T : List Nat) (hT : Things a T) (h : ∀ x, x < a → c.testBit x = decide (x ∈ T)) : wsum (fun _ => 1) c a = (T.length : Int) := by
  have h2 := wsum_setL (fun _ => 1) a T hT
  rw [wsum_congr _ (setL T) c a (fun j hj => by rw [h j hj, bit_setL]), h2]
  clear h2 h hT
  induction T with
  | nil => rfl
  | cons x l ih => simp [ih]; omega
theorem ext_zero (n a c : Nat) (T : List Nat) (ha : a ≤ n) (hT : Things a T) (h : Ext n T a 0 c) : c = setL T := by
  obtain ⟨h1, h2, h3⟩ := h
  have e1 := below_count n a c T hT h3
  have e2 := pc_wsum n c h1
  have hg := wsum_gap c (n - a) a (by rw [show a + (n - a) = n by omega]; omega)
  apply Nat.eq_of_testBit_eq
  intro j
  rw [bit_setL]
  by_cases hj : j < a
  · exact h3 j hj
  · have hn : j ∉ T := fun hm => hj (hT.2 j hm)
    by_cases hj2 : j < n
    · rw [hg j (by omega) (by omega)]; simp [hn]
    · rw [Nat.testBit_lt_two_pow (Nat.lt_of_lt_of_le h1 (Nat.pow_le_pow_right (by omega) (by omega)))]; simp [hn]
theorem ext_self (n a : Nat) (T : List Nat) (ha : a ≤ n) (hT : Things a T) : Ext n T a 0 (setL T) :=
  ⟨setL_lt T n fun x hx => by have := hT.2 x hx; omega, pc_setL a T hT, fun x _ => bit_setL T x⟩
/-- the first one of the things more -/
theorem ext_succ (n a m c : Nat) (T : List Nat) (ha : a ≤ n) (hT : Things a T) (h : Ext n T a (m + 1) c) : ∃ i, a ≤ i ∧ i < n ∧ Ext n (T ++ [i]) (i + 1) m c := by
  obtain ⟨h1, h2, h3⟩ := h
  have e1 := below_count n a c T hT h3
  have e2 := pc_wsum n c h1
  obtain ⟨i, i1, i2, i3, i4⟩ := wsum_some c (n - a) a (by rw [show a + (n - a) = n by omega]; omega)
  refine ⟨i, i1, by omega, h1, by simp; omega, fun x hx => ?_⟩
  by_cases hxi : x = i
  · subst hxi; simp [i3]
  · have hxn : ¬ x = i := hxi
    by_cases hxa : x < a
    · rw [h3 x hxa]; simp [hxn]
    · rw [i4 x (by omega) (by omega)]
      have : x ∉ T := fun hm => hxa (hT.2 x hm)
      simp [this, hxn]
theorem ext_up (n a m c i : Nat) (T : List Nat) (_hT : Things a T) (hi : a ≤ i) (h : Ext n (T ++ [i]) (i + 1) m c) : Ext n T a (m + 1) c := by
  obtain ⟨h1, h2, h3⟩ := h
  refine ⟨h1, by simp at h2; omega, fun x hx => ?_⟩
  rw [h3 x (by omega)]
  have : ¬ x = i := by omega
  simp [this]
/-- what goes on with a lesser thing comes ahead -/
theorem ext_before (n a m c d i j : Nat) (hn : n ≤ 16) (T : List Nat) (hT : Things a T) (hi : a ≤ i) (hij : i < j) (hd : Ext n (T ++ [i]) (i + 1) m d) (hc : Ext n (T ++ [j]) (j + 1) m c) : Before d c := by
  have h16 : 2 ^ n ≤ 65536 := Nat.pow_le_pow_right (n := 2) (by omega) hn
  obtain ⟨d1, d2, d3⟩ := hd
  obtain ⟨c1, c2, c3⟩ := hc
  refine .inr ⟨by rw [d2, c2]; simp, ?_⟩
  rw [ahead_iff d c (by omega) (by omega)]
  have hiT : i ∉ T := fun hm => by have := hT.2 i hm; omega
  refine ⟨i, by rw [d3 i (by omega)]; simp, ?_, fun x hx => ?_⟩
  · rw [c3 i (by omega)]
    have : ¬ i = j := by omega
    simp [hiT, this]
  · rw [d3 x (by omega), c3 x (by omega)]
    have h1 : ¬ x = i := by omega
    have h2 : ¬ x = j := by omega
    simp [h1, h2]
theorem ahead_asymm (a b : Nat) (ha : a < 65536) (hb : b < 65536) (h1 : aheadB a b = true) (h2 : aheadB b a = true) : False := by
  have := ahead_trans a b a ha hb ha h1 h2
  rw [ahead_irrefl a ha] at this; cases this
theorem before_not (P : Nat → Int) (b c : Nat) (hb : b < 65536) (hc : c < 65536) (h : Before b c) (hp : P b ≤ P c) : betterB P c b = false := by
  rw [Bool.eq_false_iff]; intro hx
  rw [better_iff] at hx
  rcases hx with hx | ⟨_, hx | ⟨e, hx⟩⟩
  · omega
  · rcases h with h | ⟨h, _⟩ <;> omega
  · rcases h with h | ⟨_, h⟩
    · omega
    · exact ahead_asymm b c hb hc h hx

/-- what is kept of the best list, over the sets that were tried -/
def Best (zs : List Int) (left : Int) (P : Nat → Int) (D : Nat → Prop) (b : List Nat) : Prop :=
  Things zs.length b ∧ fitsL zs 0 left (setL b) = true ∧ ∀ c, D c → fitsL zs 0 left c = true → betterB P c (setL b) = false

theorem seed_list (zs : List Int) (left : Int) (P : Nat → Int) (hL : 0 ≤ left) (hz : zs.length ≤ 16) : ∀ (m : Nat) (T : List Nat) (a : Nat) (D : Nat → Prop) (b : List Nat),
    a ≤ zs.length → Things a T → (∀ c, D c → c < 2 ^ zs.length) → Best zs left P D b → (∀ c, Ext zs.length T a m c → Before (setL b) c) →
    Best zs left P (fun c => D c ∨ Ext zs.length T a m c) (seedR zs left P m T a b) ∧ (seedR zs left P m T a b = b ∨ Ext zs.length T a m (setL (seedR zs left P m T a b))) := by
  have h16 : 2 ^ zs.length ≤ 65536 := Nat.pow_le_pow_right (n := 2) (by omega) hz
  intro m
  induction m with
  | zero =>
    intro T a D b ha hT hD hb hB
    obtain ⟨b1, b2, b3⟩ := hb
    have hTn : Things zs.length T := ⟨hT.1, fun x hx => by have := hT.2 x hx; omega⟩
    have hTlt := setL_lt T _ hTn.2
    have hblt := setL_lt b _ b1.2
    have hE := ext_self zs.length a T ha hT
    rw [seedR, fits_list zs T left hL hTn]
    by_cases h : (fitsL zs 0 left (setL T) && decide (P (setL T) < P (setL b))) = true
    · rw [if_pos h]
      simp only [Bool.and_eq_true, decide_eq_true_eq] at h
      refine ⟨⟨hTn, h.1, fun c hc hf => ?_⟩, .inr hE⟩
      rcases hc with hc | hc
      · have h1 := b3 c hc hf
        rw [Bool.eq_false_iff, ne_eq, better_iff] at h1 ⊢
        omega
      · rw [ext_zero _ a c T ha hT hc]; exact better_irrefl P _ (by omega)
    · rw [if_neg h]
      simp only [Bool.and_eq_true, decide_eq_true_eq, not_and] at h
      refine ⟨⟨b1, b2, fun c hc hf => ?_⟩, .inl rfl⟩
      rcases hc with hc | hc
      · exact b3 c hc hf
      · have hce := ext_zero _ a c T ha hT hc
        subst hce
        exact before_not P _ _ (by omega) (by omega) (hB _ hE) (by have := h hf; omega)
  | succ m ih =>
    intro T a D b ha hT hD hb hB
    rw [seedR]
    have key : ∀ q, a + q ≤ zs.length → Best zs left P (fun c => D c ∨ ∃ i, a ≤ i ∧ i < a + q ∧ Ext zs.length (T ++ [i]) (i + 1) m c) ((List.range' a q).foldl (fun b i => seedR zs left P m (T ++ [i]) (i + 1) b) b) ∧
        ((List.range' a q).foldl (fun b i => seedR zs left P m (T ++ [i]) (i + 1) b) b = b ∨ ∃ i, a ≤ i ∧ i < a + q ∧ Ext zs.length (T ++ [i]) (i + 1) m (setL ((List.range' a q).foldl (fun b i => seedR zs left P m (T ++ [i]) (i + 1) b) b))) := by
      intro q
      induction q with
      | zero =>
        intro _
        refine ⟨⟨hb.1, hb.2.1, fun c hc hf => ?_⟩, .inl rfl⟩
        rcases hc with hc | ⟨i, h1, h2, _⟩
        · exact hb.2.2 c hc hf
        · omega
      | succ q ihq =>
        intro hq
        obtain ⟨k1, k2⟩ := ihq (by omega)
        rw [List.range'_concat, List.foldl_append]
        simp only [Nat.one_mul, List.foldl_cons, List.foldl_nil]
        generalize (List.range' a q).foldl (fun b i => seedR zs left P m (T ++ [i]) (i + 1) b) b = b' at k1 k2
        have hTq : Things (a + q + 1) (T ++ [a + q]) := by
          refine Things.snoc ⟨hT.1, fun x hx => by have := hT.2 x hx; omega⟩ (a + q) (by omega) (fun hm => by have := hT.2 _ hm; omega)
        obtain ⟨r1, r2⟩ := ih (T ++ [a + q]) (a + q + 1) _ b' (by omega) hTq (fun c hc => by
            rcases hc with hc | ⟨i, _, _, hc⟩
            · exact hD c hc
            · exact hc.1) k1 (fun c hc => by
            rcases k2 with k2 | ⟨i, i1, i2, k2⟩
            · rw [k2]; exact hB c (ext_up _ a m c (a + q) T hT (by omega) hc)
            · exact ext_before _ a m c _ i (a + q) hz T hT i1 i2 k2 hc)
        refine ⟨⟨r1.1, r1.2.1, fun c hc hf => r1.2.2 c ?_ hf⟩, ?_⟩
        · rcases hc with hc | ⟨i, i1, i2, hc⟩
          · exact .inl (.inl hc)
          · by_cases e : i = a + q
            · subst e; exact .inr hc
            · exact .inl (.inr ⟨i, i1, by omega, hc⟩)
        · rcases r2 with r2 | r2
          · rw [r2]
            rcases k2 with k2 | ⟨i, i1, i2, k2⟩
            · exact .inl k2
            · exact .inr ⟨i, i1, by omega, k2⟩
          · exact .inr ⟨a + q, by omega, by omega, r2⟩
    obtain ⟨k1, k2⟩ := key (zs.length - a) (by omega)
    refine ⟨⟨k1.1, k1.2.1, fun c hc hf => k1.2.2 c ?_ hf⟩, ?_⟩
    · rcases hc with hc | hc
      · exact .inl hc
      · obtain ⟨i, i1, i2, i3⟩ := ext_succ _ a m c T ha hT hc
        exact .inr ⟨i, i1, by omega, i3⟩
    · rcases k2 with k2 | ⟨i, i1, i2, k2⟩
      · exact .inl k2
      · exact .inr (ext_up _ a m _ i T hT i1 k2)

/-- the best lists of one thing, of two, .. -/
def firstR (zs : List Int) (left : Int) (P : Nat → Int) : Nat → List Nat
  | 0 => []
  | q + 1 => seedR zs left P (q + 1) [] 0 (firstR zs left P q)
theorem first_list (zs : List Int) (left : Int) (P : Nat → Int) (hL : 0 ≤ left) (hz : zs.length ≤ 16) : ∀ q, Best zs left P (fun c => c < 2 ^ zs.length ∧ pc c ≤ q) (firstR zs left P q) ∧ (firstR zs left P q).length ≤ q := by
  intro q
  induction q with
  | zero =>
    refine ⟨⟨Things.nil _, fits_none zs left hL, fun c hc hf => ?_⟩, Nat.le_refl _⟩
    have hc0 : c = setL [] := ext_zero zs.length 0 c [] (Nat.zero_le _) (Things.nil 0) ⟨hc.1, by have := hc.2; simp; omega, fun x hx => absurd hx (Nat.not_lt_zero x)⟩
    subst hc0
    exact better_irrefl P 0 (by decide)
  | succ q ih =>
    obtain ⟨i1, i2⟩ := ih
    obtain ⟨r1, r2⟩ := seed_list zs left P hL hz (q + 1) [] 0 _ _ (Nat.zero_le _) (Things.nil 0) (fun c hc => hc.1) i1 (fun c hc => .inl (by
      rw [pc_setL _ _ i1.1, hc.2.1]; simp; omega))
    refine ⟨⟨r1.1, r1.2.1, fun c hc hf => r1.2.2 c ?_ hf⟩, ?_⟩
    · by_cases h : pc c ≤ q
      · exact .inl ⟨hc.1, h⟩
      · exact .inr ⟨hc.1, by have := hc.2; simp; omega, fun x hx => absurd hx (Nat.not_lt_zero x)⟩
    · rw [firstR]
      rcases r2 with r2 | r2
      · rw [r2]; omega
      · have := r2.2.1
        rw [pc_setL _ _ r1.1] at this
        rw [this]; simp
theorem better_total (P : Nat → Int) (a b : Nat) (ha : a < 65536) (hb : b < 65536) (h1 : betterB P a b = false) (h2 : betterB P b a = false) : a = b := by
  rw [Bool.eq_false_iff, ne_eq, better_iff] at h1 h2
  have hp : P a = P b := by omega
  have hc : pc a = pc b := by omega
  have n1 : ¬ aheadB a b = true := fun h => h1 (.inr ⟨hp, .inr ⟨hc, h⟩⟩)
  have n2 : ¬ aheadB b a = true := fun h => h2 (.inr ⟨hp.symm, .inr ⟨hc.symm, h⟩⟩)
  rw [ahead_iff a b ha hb] at n1
  rw [ahead_iff b a hb ha] at n2
  apply Nat.eq_of_testBit_eq
  intro i
  induction i using Nat.strongRecOn with
  | ind i ih =>
    cases h : a.testBit i with
    | true =>
      cases h3 : b.testBit i with
      | true => rfl
      | false => exact absurd ⟨i, h, h3, fun j hj => ih j hj⟩ n1
    | false =>
      cases h3 : b.testBit i with
      | false => rfl
      | true => exact absurd ⟨i, h3, h, fun j hj => (ih j hj).symm⟩ n2
/-- the document's search, and the program's -/
theorem finds_law (zs : List Int) (left : Int) (P : Nat → Int) (mk : Nat) (k : Int) (hL : 0 ≤ left) (hz : zs.length ≤ 16) (d : Nat) (hd : zs.length ≤ d) :
    setL (growR zs left P k (d + 1) (firstR zs left P mk)) = growS zs left P k (seedS zs left P mk (2 ^ zs.length)) ∧ Things zs.length (firstR zs left P mk) := by
  have h16 : 2 ^ zs.length ≤ 65536 := Nat.pow_le_pow_right (n := 2) (by omega) hz
  obtain ⟨⟨f1, f2, f3⟩, f4⟩ := first_list zs left P hL hz mk
  obtain ⟨b1, b2, b3⟩ := seed_best zs left P mk (by omega) hL (2 ^ zs.length) Nat.one_le_two_pow h16
  have b4 := seedS_lt zs left P mk (2 ^ zs.length) Nat.one_le_two_pow
  have hf := setL_lt _ _ f1.2
  have e : setL (firstR zs left P mk) = seedS zs left P mk (2 ^ zs.length) := by
    refine better_total P _ _ (by omega) (by omega) (b3 _ hf f2 (by rw [pc_setL _ _ f1]; omega)) (f3 _ ⟨b4, by omega⟩ b1)
  rw [grow_list zs left P k hL hz d _ (by omega) f1, e]
  exact ⟨rfl, f1⟩
end Go.Proofs.YteckfakabaiipaaDoor
