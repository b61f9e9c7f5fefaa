/- What a finite float is written as, in plain Lean: from its digits and where the point stands. -/
import Derived.Test.YtoafiombpokpaaaGreatDoorWrP
namespace Go.Proofs.YtoafiombpokpaaaGreatDoor

/-- an exponent's digits: two at least -/
def expD (n : Nat) : List UInt8 := if n < 10 then [48, UInt8.ofNat (48 + n)] else if n < 100 then [UInt8.ofNat (48 + n / 10), UInt8.ofNat (48 + n % 10)] else [UInt8.ofNat (48 + n / 100), UInt8.ofNat (48 + n / 10 % 10), UInt8.ofNat (48 + n % 10)]
/-- the exponent that is written -/
def expN (dp : Int) (nd : Nat) : Int := if nd = 0 then 0 else dp - 1
/-- with an exponent -/
def expL (f : Nat → UInt8) (dp : Int) (nd : Nat) : List UInt8 :=
  ((if nd = 0 then 48 else f 0) :: (if 1 < nd then 46 :: (List.range (nd - 1)).map fun i => f (i + 1) else [])) ++ (101 :: (if expN dp nd < 0 then 45 else 43) :: expD (expN dp nd).natAbs)
/-- without -/
def fixL (f : Nat → UInt8) (dp : Int) (nd : Nat) : List UInt8 :=
  (if 0 < dp then (List.range (min nd dp.toNat)).map f ++ List.replicate (dp.toNat - nd) 48 else [48]) ++ (if dp < nd then 46 :: (List.replicate (-dp).toNat 48 ++ (List.range (nd - dp.toNat)).map fun i => f (dp.toNat + i)) else [])
def fmtL (neg : Bool) (f : Nat → UInt8) (dp : Int) (nd : Nat) : List UInt8 :=
  (if neg then [45] else []) ++ (if dp - 1 < -4 ∨ 6 ≤ dp - 1 then expL f dp nd else fixL f dp nd)
def CutC (c : UInt8) : Prop := cutS.contains c = true
theorem cut_dig_fin : ∀ k : Fin 10, cutS.contains (UInt8.ofNat (48 + k.val)) = true := by decide
theorem cut_dig {k : Nat} (h : k < 10) : CutC (UInt8.ofNat (48 + k)) := cut_dig_fin ⟨k, h⟩
theorem cut_48 : CutC 48 := by unfold CutC; decide
theorem cut_45 : CutC 45 := by unfold CutC; decide
theorem expD_cut {n : Nat} (h : n < 1000) : ∀ c ∈ expD n, CutC c := by
  unfold expD
  intro c hc
  split at hc
  · simp only [List.mem_cons, List.mem_nil_iff, or_false] at hc
    rcases hc with rfl | rfl
    · exact cut_48
    · exact cut_dig (by omega)
  · split at hc
    · simp only [List.mem_cons, List.mem_nil_iff, or_false] at hc
      rcases hc with rfl | rfl <;> exact cut_dig (by omega)
    · simp only [List.mem_cons, List.mem_nil_iff, or_false] at hc
      rcases hc with rfl | rfl | rfl <;> exact cut_dig (by omega)
theorem fls_cut {l : List UInt8} (h : ∀ c ∈ l, CutC c) : FlS l :=
  ⟨fun c hc => .inl (h c hc), fun hc => absurd (h 43 hc) (by unfold CutC; decide)⟩
theorem fls_app {l m : List UInt8} (h : FlS l) (hm : FlS m) : FlS (l ++ m) := by
  refine ⟨fun c hc => ?_, fun hc => ?_⟩
  · rcases List.mem_append.1 hc with hc | hc
    · exact h.1 c hc
    · exact hm.1 c hc
  · rcases List.mem_append.1 hc with hc | hc
    · exact List.mem_append_left _ (h.2 hc)
    · exact List.mem_append_right _ (hm.2 hc)
theorem fls_dot {l : List UInt8} (h : FlS l) : FlS (46 :: l) := by
  refine ⟨fun c hc => ?_, fun hc => ?_⟩
  · rcases List.mem_cons.1 hc with rfl | hc
    · exact .inr (.inl rfl)
    · exact h.1 c hc
  · rcases List.mem_cons.1 hc with hc | hc
    · exact absurd hc (by decide)
    · exact List.mem_cons_of_mem _ (h.2 hc)
theorem fls_exp {l : List UInt8} (h : ∀ c ∈ l, CutC c) (c0 : UInt8) (h0 : c0 = 45 ∨ c0 = 43) : FlS (101 :: c0 :: l) := by
  refine ⟨fun c hc => ?_, fun _ => List.mem_cons_self ..⟩
  rcases List.mem_cons.1 hc with rfl | hc
  · exact .inr (.inr (.inl rfl))
  · rcases List.mem_cons.1 hc with rfl | hc
    · rcases h0 with rfl | rfl
      · exact .inl cut_45
      · exact .inr (.inr (.inr rfl))
    · exact .inl (h c hc)
theorem map_cut {f : Nat → UInt8} {n k : Nat} (h : ∀ t, t < k + n → CutC (f t)) : ∀ c ∈ (List.range n).map (fun i => f (k + i)), CutC c := by
  intro c hc
  obtain ⟨i, hi, rfl⟩ := List.mem_map.1 hc
  exact h _ (by have := List.mem_range.1 hi; omega)
theorem rep_cut (n : Nat) : ∀ c ∈ List.replicate n (48 : UInt8), CutC c := by
  intro c hc
  rw [List.eq_of_mem_replicate hc]
  exact cut_48
theorem fmt_class {neg : Bool} {f : Nat → UInt8} {dp : Int} {nd : Nat} (hf : ∀ t, t < nd → CutC (f t)) (he : (expN dp nd).natAbs < 1000) : FlS (fmtL neg f dp nd) := by
  unfold fmtL
  refine fls_app (fls_cut fun c hc => ?_) ?_
  · cases neg
    · cases hc
    · obtain rfl : c = 45 := by simpa using hc
      exact cut_45
  · split
    · unfold expL
      refine fls_app ?_ (fls_exp (expD_cut he) _ (by split; exact .inl rfl; exact .inr rfl))
      have h0 : CutC (if nd = 0 then 48 else f 0) := by
        split
        · exact cut_48
        · exact hf 0 (by omega)
      refine fls_app (l := [if nd = 0 then 48 else f 0]) (m := if 1 < nd then 46 :: (List.range (nd - 1)).map (fun i => f (i + 1)) else []) (fls_cut fun c hc => ?_) ?_
      · obtain rfl : c = _ := by simpa using hc
        exact h0
      · split
        · refine fls_dot (fls_cut fun c hc => ?_)
          obtain ⟨i, hi, rfl⟩ := List.mem_map.1 hc
          exact hf _ (by have := List.mem_range.1 hi; omega)
        · exact fls_cut fun c hc => (by cases hc)
    · unfold fixL
      refine fls_app (fls_cut fun c hc => ?_) ?_
      · split at hc
        · rcases List.mem_append.1 hc with hc | hc
          · obtain ⟨i, hi, rfl⟩ := List.mem_map.1 hc
            exact hf _ (by have := List.mem_range.1 hi; omega)
          · exact rep_cut _ c hc
        · obtain rfl : c = 48 := by simpa using hc
          exact cut_48
      · split
        · refine fls_dot (fls_cut fun c hc => ?_)
          rcases List.mem_append.1 hc with hc | hc
          · exact rep_cut _ c hc
          · obtain ⟨i, hi, rfl⟩ := List.mem_map.1 hc
            exact hf _ (by have := List.mem_range.1 hi; omega)
        · exact fls_cut fun c hc => (by cases hc)
/-- how many digits are left when zeros at the end are struck -/
def cutN (f : Nat → UInt8) : Nat → Nat
  | 0 => 0
  | k + 1 => if f k = 48 then cutN f k else k + 1
theorem cutN_le (f : Nat → UInt8) : ∀ n, cutN f n ≤ n
  | 0 => Nat.le_refl _
  | k + 1 => by
    unfold cutN
    split
    · exact Nat.le_succ_of_le (cutN_le f k)
    · exact Nat.le_refl _
end Go.Proofs.YtoafiombpokpaaaGreatDoor
