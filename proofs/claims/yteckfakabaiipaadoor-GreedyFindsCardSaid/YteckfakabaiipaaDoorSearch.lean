/- The walk of package greedy's Search. -/
import Derived.Test.YteckfakabaiipaaDoorSeed
import Derived.Deep.LoopGhost
import Derived.Laws.EntriesVeiled
namespace Go.Proofs.YteckfakabaiipaaDoor
open Go.RowKit

/-- what can't be searched in -/
def badArgs (n : Nat) (budget m k : Int) : Bool := decide (16 < n) || decide (m < 0) || decide (3 < m) || decide (k < 0) || decide (budget < 0)

theorem nil_nil (w : World) : (binOp .eql 32 .nilFunc .nilFunc).run Tryd.prog w = .ok (.bool true) w := by kernel_rfl
theorem func_nil (f : Fn) (b c : Array Value) (w : World) : (binOp .eql 32 (.func f b c) .nilFunc).run Tryd.prog w = .ok (.bool false) w := by kernel_rfl

/-- the call answers that its arguments may not be, and leaves the world alone -/
def RetBad (w : World) (e : Ending) (w' : World) : Prop := e = .returned (.tuple #[.int .u32 0, .int .i64 1]) ∧ w = w'

set_option maxRecDepth 100000 in
set_option maxHeartbeats 2000000 in
theorem search_bad (a : Option Addr) (n cap : Nat) (budget m k : Int) (fv : Value) (w : World) (hbad : badArgs n budget m k = true) :
    Calls Tryd.prog 9 #[.slice a n cap, .int .i64 budget, .int .i64 m, .int .i64 k, fv] w (RetBad w) := by
  unfold badArgs at hbad
  simp only [Bool.or_eq_true, decide_eq_true_eq] at hbad
  by_cases h1 : (16 : Int) < (n : Int)
  · clear hbad
    go_enter Tryd.func9, Tryd.ntmps9
    go_wp2
    go_ret2
    exact ⟨rfl, rfl⟩
  · by_cases h2 : m < 0
    · clear hbad
      go_enter Tryd.func9, Tryd.ntmps9
      go_wp2
      go_ret2
      exact ⟨rfl, rfl⟩
    · by_cases h3 : 3 < m
      · clear hbad
        go_enter Tryd.func9, Tryd.ntmps9
        go_wp2
        go_ret2
        exact ⟨rfl, rfl⟩
      · by_cases h4 : k < 0
        · clear hbad
          go_enter Tryd.func9, Tryd.ntmps9
          go_wp2
          go_ret2
          exact ⟨rfl, rfl⟩
        · have h5 : budget < 0 := by omega
          clear hbad
          go_enter Tryd.func9, Tryd.ntmps9
          go_wp2
          go_ret2
          exact ⟨rfl, rfl⟩

set_option maxRecDepth 100000 in
set_option maxHeartbeats 2000000 in
theorem search_nil (a : Option Addr) (n cap : Nat) (budget m k : Int) (w : World) :
    Calls Tryd.prog 9 #[.slice a n cap, .int .i64 budget, .int .i64 m, .int .i64 k, .nilFunc] w (RetBad w) := by
  by_cases hbad : badArgs n budget m k = true
  · exact search_bad a n cap budget m k _ w hbad
  · unfold badArgs at hbad
    simp only [Bool.or_eq_true, decide_eq_true_eq, not_or] at hbad
    obtain ⟨⟨⟨⟨h1, h2⟩, h3⟩, h4⟩, h5⟩ := hbad
    have h1' : ¬ (16 : Int) < (n : Int) := by omega
    have hn := nil_nil
    go_enter Tryd.func9, Tryd.ntmps9
    go_wp2
    go_ret2
    exact ⟨rfl, rfl⟩

/-- the best set with one thing more, of the first things -/
def addS (zs : List Int) (left : Int) (P : Nat → Int) (best : Nat) : Nat → Nat
  | 0 => best
  | i + 1 => if best ||| 2 ^ i = best then addS zs left P best i else if fitsL zs 0 left (best ||| 2 ^ i) then (if P (best ||| 2 ^ i) < P (addS zs left P best i) then best ||| 2 ^ i else addS zs left P best i) else addS zs left P best i
theorem or_ge (a b : Nat) : a ≤ a ||| b := Nat.left_le_or
theorem addS_bd (zs : List Int) (left : Int) (P : Nat → Int) (best : Nat) (hb : best < 65536) : ∀ i, i ≤ 16 → best ≤ addS zs left P best i ∧ addS zs left P best i < 65536 ∧ (addS zs left P best i = best ∨ ∃ j, j < i ∧ best ||| 2 ^ j ≠ best ∧ addS zs left P best i = best ||| 2 ^ j) := by
  intro i
  induction i with
  | zero => intro _; exact ⟨Nat.le_refl _, hb, .inl rfl⟩
  | succ i ih =>
    intro hi
    obtain ⟨h1, h2, h3⟩ := ih (by omega)
    have hp : 2 ^ i < 2 ^ 16 := Nat.pow_lt_pow_right (by omega) (by omega)
    have h4 : best ||| 2 ^ i < 65536 := Nat.or_lt_two_pow (n := 16) hb hp
    have h5 := or_ge best (2 ^ i)
    have old : best ≤ addS zs left P best i ∧ addS zs left P best i < 65536 ∧ (addS zs left P best i = best ∨ ∃ j, j < i + 1 ∧ best ||| 2 ^ j ≠ best ∧ addS zs left P best i = best ||| 2 ^ j) :=
      ⟨h1, h2, h3.imp id fun ⟨j, hj, hne, he⟩ => ⟨j, by omega, hne, he⟩⟩
    rw [addS]
    split
    · exact old
    · split
      · split
        · exact ⟨h5, h4, .inr ⟨i, by omega, by assumption, rfl⟩⟩
        · exact old
      · exact old
/-- one thing after the other -/
def growS (zs : List Int) (left : Int) (P : Nat → Int) (k : Int) (best : Nat) : Nat :=
  if _h : (pc best : Int) < k ∧ best < addS zs left P best zs.length ∧ addS zs left P best zs.length < 65536 then growS zs left P k (addS zs left P best zs.length) else best
  termination_by 65536 - best
  decreasing_by omega

/-- what is known of the world in the loops of Search: the problem's block, the best set's, and the next one's -/
def FindKept (w w' : World) (bb : Nat) (sl fv : Value) (left : Int) (s : Nat) (c : Int) : Prop :=
  w'.cell? ⟨w.heap.size, 0, none⟩ = some sl ∧ w'.cell? ⟨w.heap.size, 1, none⟩ = some (.int .i64 left) ∧ w'.cell? ⟨w.heap.size, 2, none⟩ = some fv ∧
  w'.cell? ⟨bb, 0, none⟩ = some (.int .u32 s) ∧ w'.cell? ⟨bb, 1, none⟩ = some (.int .i64 c) ∧
  (∀ o, w'.frozen? ⟨bb, o, none⟩ = false) ∧ w.heap.size < bb ∧ bb < w'.heap.size ∧ Below w.heap.size w w'

theorem FindKept.below {w w' : World} {bb : Nat} {sl fv : Value} {left : Int} {s : Nat} {c : Int} (h : FindKept w w' bb sl fv left s c) : Below w.heap.size w w' := h.2.2.2.2.2.2.2.2
theorem FindKept.call {w w' w2 : World} {bb : Nat} {sl fv : Value} {left : Int} {s : Nat} {c : Int} (h : FindKept w w' bb sl fv left s c) {B : Nat} (hB : Below B w' w2) (hlt : bb < B) : FindKept w w2 bb sl fv left s c := by
  obtain ⟨e0, e1, e2, e5, e6, f1, l0, l1, hb⟩ := h
  have hl : ∀ b o, b < B → w2.cell? ⟨b, o, none⟩ = w'.cell? ⟨b, o, none⟩ := fun b o h => hB.cell (p := ⟨b, o, none⟩) h
  have hf : ∀ b o, b < B → w2.frozen? ⟨b, o, none⟩ = w'.frozen? ⟨b, o, none⟩ := fun b o h => hB.frozen (p := ⟨b, o, none⟩) h
  have hz := hB.size
  exact ⟨(hl _ _ (by omega)).trans e0, (hl _ _ (by omega)).trans e1, (hl _ _ (by omega)).trans e2, (hl _ _ (by omega)).trans e5, (hl _ _ (by omega)).trans e6, fun o => (hf _ _ (by omega)).trans (f1 o), l0, by omega, hb.trans (hB.mono (by omega))⟩
/-- what is known besides in the inner loop: the next set's block -/
def NextKept (w w' : World) (bb nb : Nat) (sl fv : Value) (left : Int) (s : Nat) (c : Int) (t : Nat) (d : Int) : Prop :=
  FindKept w w' bb sl fv left s c ∧ w'.cell? ⟨nb, 0, none⟩ = some (.int .u32 t) ∧ w'.cell? ⟨nb, 1, none⟩ = some (.int .i64 d) ∧ (∀ o, w'.frozen? ⟨nb, o, none⟩ = false) ∧ bb < nb ∧ nb < w'.heap.size
theorem NextKept.call {w w' w2 : World} {bb nb : Nat} {sl fv : Value} {left : Int} {s : Nat} {c : Int} {t : Nat} {d : Int} (h : NextKept w w' bb nb sl fv left s c t d) (hB : Below w'.heap.size w' w2) : NextKept w w2 bb nb sl fv left s c t d := by
  obtain ⟨hF, e0, e1, f0, l0, l1⟩ := h
  have hz := hB.size
  exact ⟨hF.call hB (by omega), (hB.cell (p := ⟨nb, 0, none⟩) l1).trans e0, (hB.cell (p := ⟨nb, 1, none⟩) l1).trans e1, fun o => (hB.frozen (p := ⟨nb, o, none⟩) l1).trans (f0 o), l0, by omega⟩
theorem NextKept.drewN {w w' : World} {bb nb : Nat} {sl fv : Value} {left : Int} {s : Nat} {c : Int} {t : Nat} {d : Int} (h : NextKept w w' bb nb sl fv left s c t d) (n : Nat) : NextKept w (w'.drewN n) bb nb sl fv left s c t d := h.call (below_drewN (Below.refl _ _) n)
theorem NextKept.start {w w' : World} {bb : Nat} {sl fv : Value} {left : Int} {s : Nat} {c : Int} (h : FindKept w w' bb sl fv left s c) : NextKept w (w'.alloc (.cells #[.int .u32 s, .int .i64 c] 48)) bb w'.heap.size sl fv left s c s c := by
  have hC : Below w'.heap.size w' (w'.alloc (.cells #[.int .u32 s, .int .i64 c] 48)) := (Below.refl _ _).alloc (Nat.le_refl _) _
  have q := heap_alloc_new w' (.cells #[.int .u32 s, .int .i64 c] 48)
  have l1 := h.2.2.2.2.2.2.2.1
  refine ⟨h.call hC l1, ?_, ?_, fun o => frozen_of_row _ _ _ _ _ q, l1, by simp⟩
  · rw [cell_of_row _ _ _ _ _ _ q]; rfl
  · rw [cell_of_row _ _ _ _ _ _ q]; rfl
theorem set_two {w' : World} {b : Nat} {v0 v1 : Value} (e0 : w'.cell? ⟨b, 0, none⟩ = some v0) (e1 : w'.cell? ⟨b, 1, none⟩ = some v1) (u0 u1 : Value) :
    ((w'.setCell ⟨b, 0, none⟩ u0).setCell ⟨b, 1, none⟩ u1).cell? ⟨b, 0, none⟩ = some u0 ∧ ((w'.setCell ⟨b, 0, none⟩ u0).setCell ⟨b, 1, none⟩ u1).cell? ⟨b, 1, none⟩ = some u1 ∧ Below b w' ((w'.setCell ⟨b, 0, none⟩ u0).setCell ⟨b, 1, none⟩ u1) := by
  refine ⟨?_, ?_, ((Below.refl b w').setCell (p := ⟨b, 0, none⟩) (Nat.le_refl _) _).setCell (p := ⟨b, 1, none⟩) (Nat.le_refl _) _⟩
  · exact (World.cell?_setCell_other _ _ _ _ (fun e => by injection e with _ h2 _; cases h2)).trans (World.cell?_setCell_same _ _ _ e0)
  · exact World.cell?_setCell_same _ _ _ ((World.cell?_setCell_other _ _ _ _ (fun e => by injection e with _ h2 _; cases h2)).trans e1)
theorem NextKept.set {w w' : World} {bb nb : Nat} {sl fv : Value} {left : Int} {s : Nat} {c : Int} {t : Nat} {d : Int} (h : NextKept w w' bb nb sl fv left s c t d) (t2 : Nat) (d2 : Int) :
    NextKept w ((w'.setCell ⟨nb, 0, none⟩ (.int .u32 t2)).setCell ⟨nb, 1, none⟩ (.int .i64 d2)) bb nb sl fv left s c t2 d2 := by
  obtain ⟨hF, e0, e1, f0, l0, l1⟩ := h
  obtain ⟨g0, g1, hB⟩ := set_two e0 e1 (.int .u32 t2) (.int .i64 d2)
  exact ⟨hF.call hB l0, g0, g1, fun o => by rw [World.frozen?_setCell, World.frozen?_setCell]; exact f0 o, l0, by simpa using l1⟩
/-- the next set becomes the best one -/
theorem FindKept.set {w w' : World} {bb : Nat} {sl fv : Value} {left : Int} {s : Nat} {c : Int} (h : FindKept w w' bb sl fv left s c) (t : Nat) (d : Int) :
    FindKept w ((w'.setCell ⟨bb, 0, none⟩ (.int .u32 t)).setCell ⟨bb, 1, none⟩ (.int .i64 d)) bb sl fv left t d := by
  obtain ⟨e0, e1, e2, e5, e6, f1, l0, l1, hb⟩ := h
  obtain ⟨g0, g1, hB⟩ := set_two e5 e6 (.int .u32 t) (.int .i64 d)
  have hl : ∀ b o, b < bb → ((w'.setCell ⟨bb, 0, none⟩ (.int .u32 t)).setCell ⟨bb, 1, none⟩ (.int .i64 d)).cell? ⟨b, o, none⟩ = w'.cell? ⟨b, o, none⟩ := fun b o h => hB.cell (p := ⟨b, o, none⟩) h
  exact ⟨(hl _ _ (by omega)).trans e0, (hl _ _ (by omega)).trans e1, (hl _ _ (by omega)).trans e2, g0, g1, fun o => by rw [World.frozen?_setCell, World.frozen?_setCell]; exact f1 o, l0, by simpa using l1, hb.trans (hB.mono (by omega))⟩
theorem FindKept.start {w w1 : World} {sl fv : Value} {left : Int} (s : Nat) (c : Int) (hB : Below (w.alloc (.cells #[sl, .int .i64 left, fv] 46)).heap.size (w.alloc (.cells #[sl, .int .i64 left, fv] 46)) w1) :
    FindKept w (w1.alloc (.cells #[.int .u32 s, .int .i64 c] 48)) w1.heap.size sl fv left s c := by
  have hz := hB.size
  have hs : (w.alloc (.cells #[sl, .int .i64 left, fv] 46)).heap.size = w.heap.size + 1 := by simp
  have hC : Below w1.heap.size w1 (w1.alloc (.cells #[.int .u32 s, .int .i64 c] 48)) := (Below.refl _ _).alloc (Nat.le_refl _) _
  have q0 := ((hC.block w.heap.size (by omega)).trans (hB.block w.heap.size (by omega))).trans (heap_alloc_new w _)
  have q2 := heap_alloc_new w1 (.cells #[.int .u32 s, .int .i64 c] 48)
  have hb0 : Below w.heap.size w (w.alloc (.cells #[sl, .int .i64 left, fv] 46)) := by go_grown
  refine ⟨?_, ?_, ?_, ?_, ?_, fun o => frozen_of_row _ _ _ _ _ q2, by omega, by simp, (hb0.trans (hB.mono (by omega))).trans (hC.mono (by omega))⟩
  · rw [cell_of_row _ _ _ _ _ _ q0]; rfl
  · rw [cell_of_row _ _ _ _ _ _ q0]; rfl
  · rw [cell_of_row _ _ _ _ _ _ q0]; rfl
  · rw [cell_of_row _ _ _ _ _ _ q2]; rfl
  · rw [cell_of_row _ _ _ _ _ _ q2]; rfl

theorem found_eq (t s : Int) (c d : Int) (w : World) : (binOp .eql 48 (.agg #[.int .u32 t, .int .i64 c]) (.agg #[.int .u32 s, .int .i64 d])).run Tryd.prog w = .ok (.bool (t == s && c == d)) w := by
  simp [go_sem]
  by_cases h1 : t = s <;> by_cases h2 : c = d <;> simp [h1, h2]
/-- the set that a cell holds, for the measure -/
def setIn (w : World) (b : Nat) : Nat := match w.cell? ⟨b, 0, none⟩ with | some (.int _ n) => n.toNat | _ => 0
theorem setIn_of {w : World} {b s : Nat} (h : w.cell? ⟨b, 0, none⟩ = some (.int .u32 s)) : setIn w b = s := by
  unfold setIn; rw [h]; simp
theorem ret_found {a b : Nat} (h : a = b) : Ending.returned (.tuple #[.int .u32 a, .int .i64 0]) = .returned (.tuple #[.int .u32 b, .int .i64 0]) := by rw [h]
theorem ones_v (x : Nat) (w : World) (hx : x < 4294967296) : Calls Tryd.prog 19 #[.int .u32 x] w (RetV (.int .i64 (pc x)) w) :=
  (ones_any x w hx).mono fun _ _ ⟨he, n, hn⟩ => ⟨he, by rw [hn]; exact below_drewN (Below.refl _ _) n⟩

set_option maxRecDepth 100000 in
set_option maxHeartbeats 2000000 in
theorem search_ok (a : Option Addr) (cap : Nat) (zs : List Int) (left : Int) (F : FuncId) (B : Array Value) (P : Nat → Int) (m k : Int) (w0 w : World) (hl : zs.length ≤ 16) (h0 : 0 ≤ left) (h1 : left ≤ 9223372036854775807) (hz : IntsAt w a zs) (hT : TabIn w)
    (hP : Prices w0 F B P) (hw : Below w0.heap.size w0 w) (hs0 : w0.heap.size ≤ w.heap.size) (hm0 : 0 ≤ m) (hm3 : m ≤ 3) (hk0 : 0 ≤ k) (hmk : k < m) :
    Calls Tryd.prog 9 #[.slice a zs.length cap, .int .i64 left, .int .i64 m, .int .i64 k, .func (.func F) B #[]] w (RetV (.tuple #[.int .u32 (growS zs left P k (seedS zs left P k (2 ^ zs.length))), .int .i64 0]) w) := by
  have hcf := hP.1
  have hsl : seedS zs left P k (2 ^ zs.length) < 65536 := by
    have h1 := seedS_lt zs left P k (2 ^ zs.length) Nat.one_le_two_pow
    have h2 : 2 ^ zs.length ≤ 65536 := Nat.pow_le_pow_right (n := 2) (by omega) hl
    omega
  have c18 := fun W h2 h3 h4 h5 => seed_any a cap zs left F B P k w0 W hl h0 h1 h2 h3 hP h4 h5
  generalize seedS zs left P k (2 ^ zs.length) = s0 at hsl c18 ⊢
  have HP := Lib.hid hP.2
  clear hP
  have C18 := Lib.hid c18
  clear c18
  have hfn := func_nil
  have hl' : ¬ (16 : Int) < (zs.length : Int) := by omega
  go_enter Tryd.func9, Tryd.ntmps9
  have hw2 : Below w.heap.size w (w.alloc (.cells #[.slice a zs.length cap, .int .i64 left, .func (.func F) B #[]] 46)) := (Below.refl _ _).alloc (Nat.le_refl _) _
  go_wp2_with (first
    | (go_at_call 18; (with_reducible refine (C18.out _ ?_ ?_ ?_ ?_).mono ?_); exact hz.keep hw2; exact hT.keep hw2; exact hw.trans (hw2.mono hs0); (simp; omega); rintro e w1 ⟨rfl, hB⟩))
  have HF := FindKept.start s0 (P s0) hB
  clear hB hw2
  go_loopw [14] (fun _ wr => ∃ s : Nat, s < 65536 ∧ FindKept w wr w1.heap.size (.slice a zs.length cap) (.func (.func F) B #[]) left s (P s) ∧ Hid (growS zs left P k s = growS zs left P k s0)) (fun _ wr => 65536 - setIn wr w1.heap.size)
  case atStart => exact ⟨s0, hsl, HF, Lib.hid rfl⟩
  case round =>
    obtain ⟨s, hs, HK, HG⟩ := hrel
    have FK := HK
    obtain ⟨e0, e1, e2, e5, e6, f1, l0, l1, hbb⟩ := HK
    have HM := Lib.hid (setIn_of e5)
    by_cases hk : (pc s : Int) < k
    · go_wp2_with (first
        | (go_at_call 19; (with_reducible refine (ones_v _ _ (by omega)).mono ?_); rintro e w2 ⟨rfl, hB⟩; have FK := FK.call hB l1; clear hB; have SKc := FK; obtain ⟨e0, e1, e2, e5, e6, f1, l0, l1, hbb⟩ := SKc))
      have NK := NextKept.start FK
      go_loopw [58] (fun i wx => ∃ j : Nat, j ≤ zs.length ∧ i = .int .i64 j ∧ NextKept w wx w1.heap.size w2.heap.size (.slice a zs.length cap) (.func (.func F) B #[]) left s (P s) (addS zs left P s j) (P (addS zs left P s j))) (fun i _ => zs.length - (intOf i).toNat)
      case atStart => exact ⟨0, Nat.zero_le _, rfl, NK⟩
      case round =>
        clear NK
        obtain ⟨j, hj, rfl, NK⟩ := hrel
        obtain ⟨ha1, ha2, ha3⟩ := addS_bd zs left P s hs j (by omega)
        have HA := Lib.hid (show addS zs left P s (j + 1) = if s ||| 2 ^ j = s then addS zs left P s j else if fitsL zs 0 left (s ||| 2 ^ j) then (if P (s ||| 2 ^ j) < P (addS zs left P s j) then s ||| 2 ^ j else addS zs left P s j) else addS zs left P s j from rfl)
        obtain ⟨t, htd⟩ : ∃ t, t = addS zs left P s j := ⟨_, rfl⟩
        rw [← htd] at NK ha2
        have HTD := Lib.hid htd
        clear htd ha1 ha3
        clear e0 e1 e2 e5 e6 f1 l0 l1 hbb
        have NKc := NK
        obtain ⟨⟨e0, e1, e2, e5, e6, f1, l0, l1, hbb⟩, g0, g1, g2, l2, l3⟩ := NKc
        by_cases hlt : j < zs.length
        · have hpj : 2 ^ j < 2 ^ 16 := Nat.pow_lt_pow_right (by omega) (by omega)
          obtain ⟨T, hTd⟩ : ∃ T, T = s ||| 2 ^ j := ⟨_, rfl⟩
          have hT65 : T < 65536 := by rw [hTd]; exact Nat.or_lt_two_pow (n := 16) hs hpj
          have hor : bits .or .u32 (s : Int) ((2 : Int) ^ j % 4294967296) = (T : Int) := by
            have e : (2 : Int) ^ j % 4294967296 = ((2 ^ j : Nat) : Int) := by
              have e2 : (2 : Int) ^ j = ((2 ^ j : Nat) : Int) := by simp
              rw [e2]
              generalize 2 ^ j = q at hpj
              omega
            rw [e, u32_or_nat s (2 ^ j) (by omega) (by generalize 2 ^ j = q at hpj; omega), hTd]
          have HA2 := HA.out
          rw [← hTd] at HA2
          have HA := Lib.hid HA2
          clear HA2
          clear hpj
          have HTD2 := Lib.hid hTd
          clear hTd
          by_cases c1 : T = s
          · have c1b : (((T : Nat) : Int) == ((s : Nat) : Int)) = true := by rw [c1]; exact beq_self_eq_true _
            have C1 := Lib.hid c1
            clear c1
            have HE := Lib.hid (show addS zs left P s (j + 1) = t by rw [HA.out, if_pos C1.out]; exact HTD.out.symm)
            go_wp2_with fail
            go_quiet (fail)
            have NK := NK.drewN nq
            go_wp2_with (first
            | (go_at_call 20; (with_reducible refine (fits_all _ _ _ _ _ _ _ hl (by omega) h0 h1 ?_).mono ?_); exact hz.keep NK.1.below; rintro e w3 ⟨rfl, hB⟩; have NK := NK.call hB; clear hB; have NKc := NK; obtain ⟨⟨e0, e1, e2, e5, e6, f1, l0, l1, hbb⟩, g0, g1, g2, l2, l3⟩ := NKc)
            | ((with_reducible refine Calls.mono (HP.out T _ (by omega) ?_) ?_); exact hw.trans (NK.1.below.mono hs0); rintro e w3 ⟨rfl, hB⟩; have NK := NK.call hB; clear hB; have NKc := NK; obtain ⟨⟨e0, e1, e2, e5, e6, f1, l0, l1, hbb⟩, g0, g1, g2, l2, l3⟩ := NKc))
            go_roundw
            case rel => exact ⟨j + 1, by omega, by go_num, by rw [HE.out]; exact NK⟩
            case measure => simp [intOf]; omega
          · have c1b : (((T : Nat) : Int) == ((s : Nat) : Int)) = false := by rw [beq_eq_false_iff_ne]; omega
            by_cases hf : fitsL zs 0 left T = true
            · by_cases c2 : P T < P t
              · have HE := Lib.hid (show addS zs left P s (j + 1) = T by rw [HA.out, if_neg c1, if_pos hf, ← HTD.out, if_pos c2])
                go_wp2_with fail
                go_quiet (fail)
                have NK := NK.drewN nq
                go_wp2_with (first
            | (go_at_call 20; (with_reducible refine (fits_all _ _ _ _ _ _ _ hl (by omega) h0 h1 ?_).mono ?_); exact hz.keep NK.1.below; rintro e w3 ⟨rfl, hB⟩; have NK := NK.call hB; clear hB; have NKc := NK; obtain ⟨⟨e0, e1, e2, e5, e6, f1, l0, l1, hbb⟩, g0, g1, g2, l2, l3⟩ := NKc)
            | ((with_reducible refine Calls.mono (HP.out T _ (by omega) ?_) ?_); exact hw.trans (NK.1.below.mono hs0); rintro e w3 ⟨rfl, hB⟩; have NK := NK.call hB; clear hB; have NKc := NK; obtain ⟨⟨e0, e1, e2, e5, e6, f1, l0, l1, hbb⟩, g0, g1, g2, l2, l3⟩ := NKc))
                go_roundw
                case rel => exact ⟨j + 1, by omega, by go_num, by rw [HE.out]; exact NK.set _ _⟩
                case measure => simp [intOf]; omega
              · have HE := Lib.hid (show addS zs left P s (j + 1) = t by rw [HA.out, if_neg c1, if_pos hf, ← HTD.out, if_neg c2])
                go_wp2_with fail
                go_quiet (fail)
                have NK := NK.drewN nq
                go_wp2_with (first
            | (go_at_call 20; (with_reducible refine (fits_all _ _ _ _ _ _ _ hl (by omega) h0 h1 ?_).mono ?_); exact hz.keep NK.1.below; rintro e w3 ⟨rfl, hB⟩; have NK := NK.call hB; clear hB; have NKc := NK; obtain ⟨⟨e0, e1, e2, e5, e6, f1, l0, l1, hbb⟩, g0, g1, g2, l2, l3⟩ := NKc)
            | ((with_reducible refine Calls.mono (HP.out T _ (by omega) ?_) ?_); exact hw.trans (NK.1.below.mono hs0); rintro e w3 ⟨rfl, hB⟩; have NK := NK.call hB; clear hB; have NKc := NK; obtain ⟨⟨e0, e1, e2, e5, e6, f1, l0, l1, hbb⟩, g0, g1, g2, l2, l3⟩ := NKc))
                go_roundw
                case rel => exact ⟨j + 1, by omega, by go_num, by rw [HE.out]; exact NK⟩
                case measure => simp [intOf]; omega
            · have hf' : fitsL zs 0 left T = false := by simpa using hf
              clear hf
              have HE := Lib.hid (show addS zs left P s (j + 1) = t by rw [HA.out, if_neg c1, if_neg (by simp [hf'])]; exact HTD.out.symm)
              go_wp2_with fail
              go_quiet (fail)
              have NK := NK.drewN nq
              go_wp2_with (first
            | (go_at_call 20; (with_reducible refine (fits_all _ _ _ _ _ _ _ hl (by omega) h0 h1 ?_).mono ?_); exact hz.keep NK.1.below; rintro e w3 ⟨rfl, hB⟩; have NK := NK.call hB; clear hB; have NKc := NK; obtain ⟨⟨e0, e1, e2, e5, e6, f1, l0, l1, hbb⟩, g0, g1, g2, l2, l3⟩ := NKc)
            | ((with_reducible refine Calls.mono (HP.out T _ (by omega) ?_) ?_); exact hw.trans (NK.1.below.mono hs0); rintro e w3 ⟨rfl, hB⟩; have NK := NK.call hB; clear hB; have NKc := NK; obtain ⟨⟨e0, e1, e2, e5, e6, f1, l0, l1, hbb⟩, g0, g1, g2, l2, l3⟩ := NKc))
              go_roundw
              case rel => exact ⟨j + 1, by omega, by go_num, by rw [HE.out]; exact NK⟩
              case measure => simp [intOf]; omega
        · have HA3 := Lib.hid (show addS zs left P s zs.length = t by rw [HTD.out]; congr 1; omega)
          clear HA HTD
          by_cases c1 : t = s
          · have HR := Lib.hid (show growS zs left P k s0 = s by
              rw [← HG.out, growS, dif_neg]
              rw [HA3.out]; omega)
            subst c1
            go_wp2
            go_ret2
            exact ⟨ret_found HR.out.symm, NK.1.below⟩
          · have hne : ¬ ((t : Int) = (s : Int)) := by omega
            have HR := Lib.hid (show s < t ∧ growS zs left P k t = growS zs left P k s0 by
              have hb := addS_bd zs left P s hs zs.length hl
              rw [HA3.out] at hb
              have hlt2 : s < t := by omega
              refine ⟨hlt2, ?_⟩
              rw [← HG.out]
              conv => rhs; rw [growS, dif_pos (by rw [HA3.out]; exact ⟨hk, hlt2, ha2⟩), HA3.out])
            go_wp2
            go_roundw
            case rel => exact ⟨t, ha2, NK.1.set t (P t), Lib.hid HR.out.2⟩
            case measure =>
              have h9 := setIn_of (NK.1.set t (P t)).2.2.2.1
              have h8 := HM.out
              have h7 := HR.out.1
              rw [h9, h8]
              omega
    · have HR := Lib.hid (show growS zs left P k s0 = s by
        rw [← HG.out, growS, dif_neg (fun h => hk h.1)])
      go_wp2_with (first
        | (go_at_call 19; (with_reducible refine (ones_v _ _ (by omega)).mono ?_); rintro e w2 ⟨rfl, hB⟩; have FK := FK.call hB l1; clear hB; have SKc := FK; obtain ⟨e0, e1, e2, e5, e6, f1, l0, l1, hbb⟩ := SKc))
      go_ret2
      exact ⟨ret_found HR.out.symm, FK.below⟩
end Go.Proofs.YteckfakabaiipaaDoor
