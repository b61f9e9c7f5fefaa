/- The walk of the statement GreedyAlone: what is known of the world in it. -/
import Derived.Test.YteckfakabaiipaaDoorFitsWalks
import Derived.Test.YteckfakabaiipaaDoorOwn

import Derived.Deep.CutBlock
import Derived.Maps.AppendAt
import Derived.Deep.AppendLies
import Derived.Deep.RegionLaw
import Derived.Deep.Draws
import Derived.Laws.OwnMore
namespace Go.Proofs.YteckfakabaiipaaDoor
open Go.RowKit

/-- the case's box, which may be written -/
def CaseSet (w w' : World) (sl so st : Value) (budget m k base : Int) : Prop := CaseKept w w' sl so st budget m k base ∧ ∀ o, w'.frozen? ⟨w.heap.size, o, none⟩ = false
theorem CaseSet.start (w : World) (sl so st : Value) (budget m k base : Int) : CaseSet w (w.alloc (.cells #[sl, .int .i64 budget, .int .i64 m, .int .i64 k, .int .i64 base, so, st] 25)) sl so st budget m k base :=
  ⟨CaseKept.start w sl so st budget m k base, fun _ => frozen_of_row _ _ _ _ _ (heap_alloc_new w _)⟩
section
variable {w w' w2 : World} {sl so st : Value} {budget m k base : Int}
theorem CaseSet.below (h : CaseSet w w' sl so st budget m k base) : Below w.heap.size w w' := h.1.below
theorem CaseSet.call (h : CaseSet w w' sl so st budget m k base) (hB : Below w'.heap.size w' w2) : CaseSet w w2 sl so st budget m k base :=
  ⟨h.1.call hB, fun o => (hB.frozen (p := ⟨w.heap.size, o, none⟩) h.1.2.2.2.2.2.2.2.1).trans (h.2 o)⟩
theorem CaseSet.drewN (h : CaseSet w w' sl so st budget m k base) (q : Nat) : CaseSet w (w'.drewN q) sl so st budget m k base := h.call (below_drewN (Below.refl _ _) q)
/-- another block is written -/
theorem CaseSet.far (h : CaseSet w w' sl so st budget m k base) {b : Nat} (hb : w.heap.size < b) (i : Nat) (u : Value) : CaseSet w (w'.setCell ⟨b, i, none⟩ u) sl so st budget m k base := by
  obtain ⟨⟨e0, e1, e2, e3, e4, e5, e6, l0, hbb⟩, hf⟩ := h
  have hB : Below b w' (w'.setCell ⟨b, i, none⟩ u) := (Below.refl b w').setCell (p := ⟨b, i, none⟩) (Nat.le_refl _) _
  have hl : ∀ o, (w'.setCell ⟨b, i, none⟩ u).cell? ⟨w.heap.size, o, none⟩ = w'.cell? ⟨w.heap.size, o, none⟩ := fun o => hB.cell (p := ⟨w.heap.size, o, none⟩) hb
  exact ⟨⟨(hl _).trans e0, (hl _).trans e1, (hl _).trans e2, (hl _).trans e3, (hl _).trans e4, (hl _).trans e5, (hl _).trans e6, by simpa using l0, hbb.trans (hB.mono (by omega))⟩, fun o => by rw [World.frozen?_setCell]; exact hf o⟩
theorem CaseSet.set0 (h : CaseSet w w' sl so st budget m k base) (u : Value) : CaseSet w (w'.setCell ⟨w.heap.size, 0, none⟩ u) u so st budget m k base := by
  obtain ⟨⟨e0, e1, e2, e3, e4, e5, e6, l0, hbb⟩, hf⟩ := h
  have hB : Below w.heap.size w' (w'.setCell ⟨w.heap.size, 0, none⟩ u) := (Below.refl _ w').setCell (p := ⟨w.heap.size, 0, none⟩) (Nat.le_refl _) _
  have hl : ∀ o, o ≠ 0 → (w'.setCell ⟨w.heap.size, 0, none⟩ u).cell? ⟨w.heap.size, o, none⟩ = w'.cell? ⟨w.heap.size, o, none⟩ := fun o ho => World.cell?_setCell_other _ _ _ _ (fun e => by injection e with _ h2 _; exact ho h2.symm)
  exact ⟨⟨World.cell?_setCell_same _ _ _ e0, (hl 1 (by omega)).trans e1, (hl 2 (by omega)).trans e2, (hl 3 (by omega)).trans e3, (hl 4 (by omega)).trans e4, (hl 5 (by omega)).trans e5, (hl 6 (by omega)).trans e6, by simpa using l0, hbb.trans hB⟩, fun o => by rw [World.frozen?_setCell]; exact hf o⟩
theorem CaseSet.set6 (h : CaseSet w w' sl so st budget m k base) (u : Value) : CaseSet w (w'.setCell ⟨w.heap.size, 6, none⟩ u) sl so u budget m k base := by
  obtain ⟨⟨e0, e1, e2, e3, e4, e5, e6, l0, hbb⟩, hf⟩ := h
  have hB : Below w.heap.size w' (w'.setCell ⟨w.heap.size, 6, none⟩ u) := (Below.refl _ w').setCell (p := ⟨w.heap.size, 6, none⟩) (Nat.le_refl _) _
  have hl : ∀ o, o ≠ 6 → (w'.setCell ⟨w.heap.size, 6, none⟩ u).cell? ⟨w.heap.size, o, none⟩ = w'.cell? ⟨w.heap.size, o, none⟩ := fun o ho => World.cell?_setCell_other _ _ _ _ (fun e => by injection e with _ h2 _; exact ho h2.symm)
  exact ⟨⟨(hl 0 (by omega)).trans e0, (hl 1 (by omega)).trans e1, (hl 2 (by omega)).trans e2, (hl 3 (by omega)).trans e3, (hl 4 (by omega)).trans e4, (hl 5 (by omega)).trans e5, World.cell?_setCell_same _ _ _ e6, by simpa using l0, hbb.trans hB⟩, fun o => by rw [World.frozen?_setCell]; exact hf o⟩

/-- the row of sizes, filled so far -/
def FillKept (w w' : World) (bz n j : Nat) (c : Int) (sl so st : Value) (budget m k base : Int) : Prop :=
  CaseSet w w' sl so st budget m k base ∧ (∀ i, i < n → w'.cell? ⟨bz, i, none⟩ = some (.int .i64 (if i < j then c else 0))) ∧ (∀ o, w'.frozen? ⟨bz, o, none⟩ = false) ∧ w.heap.size < bz ∧ bz < w'.heap.size
theorem FillKept.start (h : CaseSet w w' sl so st budget m k base) (n : Nat) (c : Int) : FillKept w (w'.alloc (.cells (zerosA n) 2)) w'.heap.size n 0 c sl so st budget m k base := by
  have q := heap_alloc_new w' (.cells (zerosA n) 2)
  refine ⟨h.call ((Below.refl _ _).alloc (Nat.le_refl _) _), fun i hi => ?_, fun o => frozen_of_row _ _ _ _ _ q, h.1.2.2.2.2.2.2.2.1, by simp⟩
  rw [cell_of_row _ _ _ _ _ _ q]
  simp [zerosA, hi]
theorem FillKept.set {bz n j : Nat} {c : Int} (h : FillKept w w' bz n j c sl so st budget m k base) (hj : j < n) : FillKept w (w'.setCell ⟨bz, j, none⟩ (.int .i64 c)) bz n (j + 1) c sl so st budget m k base := by
  obtain ⟨h1, h2, h3, h4, h5⟩ := h
  refine ⟨h1.far h4 _ _, fun i hi => ?_, fun o => by rw [World.frozen?_setCell]; exact h3 o, h4, by simpa using h5⟩
  by_cases e : i = j
  · subst e
    rw [if_pos (by omega)]
    exact World.cell?_setCell_same _ _ _ (h2 i hi)
  · rw [World.cell?_setCell_other _ _ _ _ (fun e2 => by injection e2 with _ h2 _; exact e h2.symm), h2 i hi]
    by_cases e3 : i < j
    · rw [if_pos e3, if_pos (by omega)]
    · rw [if_neg e3, if_neg (by omega)]
theorem FillKept.ints {bz n : Nat} {c : Int} (h : FillKept w w' bz n n c sl so st budget m k base) : IntsAt w' (some ⟨bz, 0, none⟩) (List.replicate n c) :=
  .inr ⟨bz, 0, rfl, fun j hj => by
    have hj' : j < n := by simpa using hj
    rw [Nat.zero_add, h.2.1 j hj', if_pos hj', rep_get n c j hj']⟩
end

/-- what holds of the world behind the filling, when the sizes are the row's -/
def AloneKept (w w' : World) (bz n : Nat) (c : Int) (so : Value) (budget m k base : Int) : Prop :=
  CaseSet w w' (.slice (some ⟨bz, 0, none⟩) n n) so (.slice none 0 0) budget m k base ∧ IntsAt w' (some ⟨bz, 0, none⟩) (List.replicate n c)
theorem AloneKept.call {w w' w2 : World} {bz n : Nat} {c : Int} {so : Value} {budget m k base : Int} (h : AloneKept w w' bz n c so budget m k base) (hB : Below w'.heap.size w' w2) : AloneKept w w2 bz n c so budget m k base :=
  ⟨h.1.call hB, h.2.keep hB⟩
theorem AloneKept.start {w w' : World} {bz n : Nat} {c : Int} {sl so : Value} {budget m k base : Int} (h : FillKept w w' bz n n c sl so (.slice none 0 0) budget m k base) : AloneKept w (w'.setCell ⟨w.heap.size, 0, none⟩ (.slice (some ⟨bz, 0, none⟩) n n)) bz n c so budget m k base := by
  refine ⟨h.1.set0 _, ?_⟩
  have hi := h.ints
  rcases hi with hi | ⟨b, off, hb, hc⟩
  · exact .inl hi
  · injection hb with hb
    injection hb with h1 h2 _
    subst h1 h2
    refine .inr ⟨bz, 0, rfl, fun j hj => ?_⟩
    rw [World.cell?_setCell_other _ _ _ _ (fun e => by injection e with h3 _ _; have := h.2.2.2.1; omega)]
    exact hc j hj

/-- how many things there is room for -/
def roomS (c budget k : Int) : Int := if 0 < c then min k (budget / c) else k
theorem room_law (c budget k : Int) (p : Nat) (hc : 0 ≤ c) (h1 : c * (p : Int) ≤ budget) (h2 : (p : Int) ≤ k) (Q : Prop) (h3 : (p : Int) = k ∨ budget < c * ((p : Int) + 1) ∨ Q) : (p : Int) ≤ roomS c budget k ∧ ((p : Int) = roomS c budget k ∨ Q) := by
  unfold roomS
  by_cases h : 0 < c
  · rw [if_pos h]
    have a1 : (p : Int) ≤ budget / c := by rw [Int.le_ediv_iff_mul_le h, Int.mul_comm]; exact h1
    refine ⟨by omega, ?_⟩
    rcases h3 with h3 | h3 | h3
    · exact .inl (by omega)
    · have a2 : budget / c < (p : Int) + 1 := by rw [Int.ediv_lt_iff_lt_mul h, Int.mul_comm]; exact h3
      exact .inl (by omega)
    · exact .inr h3
  · rw [if_neg h]
    have hc0 : c = 0 := by omega
    subst hc0
    refine ⟨h2, ?_⟩
    rcases h3 with h3 | h3 | h3
    · exact .inl h3
    · rw [Int.zero_mul] at h1 h3; omega
    · exact .inr h3
theorem alone_plain (n : Nat) (c left base : Int) (off : List Int) (m k : Int) (hn : n ≤ 16) (hc : 0 ≤ c) (hL : 0 ≤ left) (hm : 0 ≤ m) (hk : 0 ≤ k) (r : Nat)
    (hr : r = growS (List.replicate n c) left (fun s => priceA base off [] s n) k (seedS (List.replicate n c) left (fun s => priceA base off [] s n) (min m k) (2 ^ n))) :
    r < 2 ^ n ∧ priceA base off [] r n = priceA base off [] 0 n - wantS (ordD ((List.range n).map fun j => off.getD j 0)) (roomS c left k) n := by
  obtain ⟨h1, h2, h3, h4, h5⟩ := alone_law n c left base off m k hn hc hL hm hk r hr
  obtain ⟨g1, g2⟩ := room_law c left k (pc r) hc h3 h4 _ h5
  have := top_want (fun j => off.getD j 0) n r (roomS c left k) h1 h2 g1 g2
  refine ⟨h1, ?_⟩
  rw [priceA_alone, priceA_alone, this, wsum_zero]
  omega
/-- what the first things take off, in order -/
def offL (off : List Int) (j : Nat) : List Int := ordD ((List.range j).map fun i => off.getD i 0)
theorem offL_succ (off : List Int) (j : Nat) : offL off (j + 1) = insD (offL off j) (off.getD j 0) := by
  unfold offL ordD
  rw [List.range_succ, List.map_append, List.foldl_append]; rfl
theorem offL_length (off : List Int) (j : Nat) : (offL off j).length = j := by
  unfold offL
  rw [(ordD_perm _).length_eq]; simp
theorem offL_bd (off : List Int) (h : ∀ j, j < off.length → -32768 ≤ off.getD j 0 ∧ off.getD j 0 ≤ 32767) (j : Nat) : ∀ x ∈ offL off j, -32768 ≤ x ∧ x ≤ 32767 := by
  intro x hx
  unfold offL at hx
  rw [(ordD_perm _).mem_iff, List.mem_map] at hx
  obtain ⟨i, _, rfl⟩ := hx
  by_cases hi : i < off.length
  · exact h i hi
  · have : off.getD i 0 = 0 := by rw [List.getD_eq_getElem?_getD, List.getElem?_eq_none (by omega)]; rfl
    omega
theorem wantS_bd (l : List Int) (room : Int) (h : ∀ x ∈ l, -32768 ≤ x ∧ x ≤ 32767) : ∀ i : Nat, 0 ≤ wantS l room i ∧ wantS l room i ≤ 32768 * (i : Int) := by
  intro i
  induction i with
  | zero => simp [wantS]
  | succ i ih =>
    rw [wantS]
    split
    · rename_i hc
      by_cases hi : i < l.length
      · have hm : l.getD i 0 ∈ l := by rw [getD_of_lt l i hi]; exact List.getElem_mem _
        have := h _ hm
        omega
      · have : l.getD i 0 = 0 := by rw [List.getD_eq_getElem?_getD, List.getElem?_eq_none (by omega)]; rfl
        omega
    · omega

theorem shorts_none (w : World) : ShortsAt w none 0 [] := ⟨rfl, fun j hj => absurd hj (Nat.not_lt_zero j), .inl rfl⟩
/-- the case with one size, searched -/
theorem alone_search (ao : Option Addr) (n no co bz : Nat) (budget m k base sz : Int) (off : List Int) (w W : World) (hn10 : n ≤ 10) (hno : no ≤ 20)
    (hm0 : 0 ≤ m) (hm3 : m ≤ 3) (hk0 : 0 ≤ k) (hb0 : 0 ≤ budget) (hbud : budget ≤ 9223372036854775807)
    (ho : ShortsAt w ao no off) (hT : TabIn w) (hA : AloneKept w W bz n sz (.slice ao no co) budget m k base) (r : Nat)
    (hr : r = growS (List.replicate n sz) budget (fun s => priceA base off [] s n) k (seedS (List.replicate n sz) budget (fun s => priceA base off [] s n) (min m k) (2 ^ n))) :
    Calls Tryd.prog 9 #[.slice (some ⟨bz, 0, none⟩) n n, .int .i64 budget, .int .i64 m, .int .i64 k, .func (.func 10) #[.agg #[.slice (some ⟨bz, 0, none⟩) n n, .int .i64 budget, .int .i64 m, .int .i64 k, .int .i64 base, .slice ao no co, .slice none 0 0]] #[]] W (RetV (.tuple #[.int .u32 r, .int .i64 0]) W) := by
  have hB := hA.1.below
  have hP : Prices W 10 #[.agg #[.slice (some ⟨bz, 0, none⟩) n n, .int .i64 budget, .int .i64 m, .int .i64 k, .int .i64 base, .slice ao no co, .slice none 0 0]] (fun s => priceA base off [] s n) :=
    ⟨Go.Proofs.enters_of Tryd.func10 (by kernel_rfl) rfl, fun s W2 hs hB2 => price_case (some ⟨bz, 0, none⟩) ao none n n no co 0 0 budget m k base off [] s W2 hn10 hno (by omega) hs ((ho.keep hB (Nat.le_refl _)).keep hB2 (Nat.le_refl _)) (shorts_none _)⟩
  have := search_all (some ⟨bz, 0, none⟩) n (List.replicate n sz) budget 10 _ _ m k W W (by rw [List.length_replicate]; omega) hb0 hbud hA.2 (hT.keep hB) hP (Below.refl _ _) (Nat.le_refl _) hm0 hm3 hk0
  rw [List.length_replicate, ← hr] at this
  exact this

set_option maxRecDepth 100000 in
set_option maxHeartbeats 4000000 in
theorem alone_main (a ao at2 : Option Addr) (n c no co nt ct : Nat) (budget m k base sz : Int) (off : List Int) (w : World) (hn10 : n ≤ 10) (hno : no ≤ 20) (hs : smallB n no nt = true) (hw : wrongB budget m k = false)
    (hm0 : 0 ≤ m) (hm3 : m ≤ 3) (hk0 : 0 ≤ k) (_hk1 : k ≤ 9223372036854775807) (hb0 : 0 ≤ budget) (hbud : budget ≤ 9223372036854775807) (hsz : 0 ≤ sz ∧ sz ≤ 255)
    (ho : ShortsAt w ao no off) (hT : TabIn w) :
    Calls Tryd.prog 5 #[caseV a ao at2 n c no co nt ct budget m k base, .int .u8 sz] w (RetV (.bool true) w) := by
  have KK := CaseSet.start w (.slice a n c) (.slice ao no co) (.slice at2 nt ct) budget m k base
  have hmk := make_zeros n (by omega)
  obtain ⟨r, hr⟩ : ∃ r, r = growS (List.replicate n sz) budget (fun s => priceA base off [] s n) k (seedS (List.replicate n sz) budget (fun s => priceA base off [] s n) (min m k) (2 ^ n)) := ⟨_, rfl⟩
  have HP := Lib.hid (alone_plain n sz budget base off m k (by omega) hsz.1 hb0 hm0 hk0 r hr)
  have HR := Lib.hid hr
  clear hr
  obtain ⟨hsz0, hsz1⟩ := hsz
  go_enter Tryd.func5, Tryd.ntmps5
  have hf6 := KK.2
  have KKc := KK.1
  obtain ⟨e0, e1, e2, e3, e4, e5, e6, l0, hbb⟩ := KKc
  go_wp2_with (first
      | (go_at_call 7; (with_reducible refine (lives_any _ ?_).mono ?_); exact hT.keep KK.below; rintro e w1 ⟨rfl, hB⟩; have KK := KK.call hB; clear hB; (try clear hf6 e0 e1 e2 e3 e4 e5 e6 l0 hbb); have hf6 := KK.2; have KKc := KK.1; obtain ⟨e0, e1, e2, e3, e4, e5, e6, l0, hbb⟩ := KKc)
      | (go_at_call 8; (with_reducible refine (fits_case a ao at2 n c no co nt ct budget m k base _).mono ?_); rintro e w1 ⟨rfl, hB⟩; have KK := KK.call hB; clear hB; (try clear hf6 e0 e1 e2 e3 e4 e5 e6 l0 hbb); have hf6 := KK.2; have KKc := KK.1; obtain ⟨e0, e1, e2, e3, e4, e5, e6, l0, hbb⟩ := KKc)
      | (go_at_call 11; (with_reducible refine (wrong_any a ao at2 n c no co nt ct budget m k base _).mono ?_); rintro e w1 ⟨rfl, hB⟩; have KK := KK.call hB; clear hB; (try clear hf6 e0 e1 e2 e3 e4 e5 e6 l0 hbb); have hf6 := KK.2; have KKc := KK.1; obtain ⟨e0, e1, e2, e3, e4, e5, e6, l0, hbb⟩ := KKc))
  have HF := FillKept.start (KK.set6 (.slice none 0 0)) n sz
  rw [World.size_setCell] at HF
  clear hf6 e0 e1 e2 e3 e4 e5 e6 l0 hbb KK hmk
  go_loopw [36] (fun i wr => ∃ j : Nat, j ≤ n ∧ i = .int .i64 j ∧ FillKept w wr w1.heap.size n j sz (.slice a n c) (.slice ao no co) (.slice none 0 0) budget m k base) (fun i _ => n - (intOf i).toNat)
  case atStart => exact ⟨0, Nat.zero_le _, rfl, HF⟩
  case round =>
    clear HF
    obtain ⟨j, hj, rfl, HF⟩ := hrel
    by_cases hlt : j < n
    · have hcell := HF.2.1 j hlt
      have hfz := HF.2.2.1
      rw [if_neg (Nat.lt_irrefl j)] at hcell
      go_wp2
      go_roundw
      case rel => exact ⟨j + 1, by omega, by go_num, HF.set hlt⟩
      case measure => simp [intOf]; omega
    · obtain rfl : n = j := by omega
      clear hlt hj
      have e0 := HF.1.1.1
      have hf6 := HF.1.2
      have HA := AloneKept.start HF
      have HAc := HA.1.1
      obtain ⟨e0', e1, e2, e3, e4, e5, e6, l0, hbb⟩ := HAc
      go_upto_if 66 with (first
        | (go_at_call 9; (with_reducible refine Calls.mono (alone_search ao n no co w1.heap.size budget m k base sz off w _ hn10 hno hm0 hm3 hk0 hb0 hbud ho hT HA r HR.out) ?_); rintro e w2 ⟨rfl, hB⟩; have HA := HA.call hB; clear hB e0 hf6 e0' e1 e2 e3 e4 e5 e6 l0 hbb HF; have HAc := HA.1.1; obtain ⟨e0, e1, e2, e3, e4, e5, e6, l0, hbb⟩ := HAc))
      go_cut [9] (fun s9 wc => s9 = .int .i64 (roomS sz budget k) ∧ AloneKept w wc w1.heap.size n sz (.slice ao no co) budget m k base)
      case first =>
        by_cases h0 : 0 < sz
        · by_cases hq : budget / sz < k
          · have HQ := Lib.hid (show roomS sz budget k = budget / sz by unfold roomS; rw [if_pos h0]; omega)
            have hq1 : (budget / sz < k) = True := eq_true hq
            go_wp2_with fail
            go_quiet (fail)
            go_wp2_with fail
            go_meet
            exact ⟨by rw [HQ.out], HA.call (below_drewN (Below.refl _ _) nq)⟩
          · have HQ := Lib.hid (show roomS sz budget k = k by unfold roomS; rw [if_pos h0]; omega)
            have hq1 : (budget / sz < k) = False := eq_false hq
            go_wp2_with fail
            go_quiet (fail)
            go_wp2_with fail
            go_meet
            exact ⟨by rw [HQ.out], HA.call (below_drewN (Below.refl _ _) nq)⟩
        · have HQ := Lib.hid (show roomS sz budget k = k by unfold roomS; rw [if_neg h0])
          go_wp2_with fail
          go_meet
          exact ⟨by rw [HQ.out], HA⟩
      clear HA e0 e1 e2 e3 e4 e5 e6 l0 hbb
      obtain ⟨rfl, HA⟩ := hcut
      obtain ⟨w3, rfl⟩ : ∃ w3 : World, w3 = wc := ⟨_, rfl⟩
      have HAc := HA.1.1
      obtain ⟨e0, e1, e2, e3, e4, e5, e6, l0, hbb⟩ := HAc
      go_wp2
      clear e0 e1 e2 e3 e4 e5 e6 l0 hbb
      go_loopw [10, 78] (fun v i wr => ∃ j A cap, j ≤ n ∧ i = .int .i64 j ∧ v = .slice A j cap ∧ wr.ownsRow w3.heap.size 2 1 (.slice A j cap) j ((offL off j).map (Value.int .i64)) ∧ w3.heap.size ≤ wr.heap.size ∧ AloneKept w wr w1.heap.size n sz (.slice ao no co) budget m k base) (fun _ i _ => n - (intOf i).toNat)
      case atStart => exact ⟨0, none, 0, Nat.zero_le _, rfl, rfl, ⟨by simp [offL_length], .inl ⟨rfl, rfl⟩⟩, Nat.le_refl _, HA⟩
      case round =>
        clear HA
        obtain ⟨j, A, cap, hj, rfl, rfl, hown, hge, HA⟩ := hrel
        obtain ⟨wo, rfl⟩ : ∃ wo : World, wo = wr := ⟨_, rfl⟩
        by_cases hlt : j < n
        · have HAc := HA.1.1
          obtain ⟨e0, e1, e2, e3, e4, e5, e6, l0, hbb⟩ := HAc
          have hsh := ho.keep hbb (Nat.le_refl _)
          go_upto_if 85 with (fail)
          go_cut [12] (fun s12 wd => s12 = .int .i64 (off.getD j 0) ∧ wd = wo)
          case first =>
            by_cases hjo : j < no
            · obtain ⟨b, o, rfl, hc⟩ := hsh.2.2.resolve_left (by omega)
              have hcell := hc j hjo
              have hr := hsh.2.1 j hjo
              have hjo' : (j : Int) < (no : Int) := by omega
              obtain ⟨x, hx⟩ : ∃ x, x = off.getD j 0 := ⟨_, rfl⟩
              rw [← hx] at hcell hr
              have HX := Lib.hid hx
              clear hc hsh hx
              go_wp2_with fail
              go_meet
              exact ⟨by rw [HX.out], rfl⟩
            · have HX := Lib.hid (show off.getD j 0 = 0 by rw [List.getD_eq_getElem?_getD, List.getElem?_eq_none (by have := hsh.1; omega)]; rfl)
              have hjo' : ¬ (j : Int) < (no : Int) := by omega
              clear hsh
              go_wp2_with fail
              go_meet
              exact ⟨by rw [HX.out], rfl⟩
          obtain ⟨rfl, hwd⟩ := hcut
          obtain rfl : wo = wc := hwd.symm
          clear hsh
          obtain ⟨x, hx⟩ : ∃ x, x = off.getD j 0 := ⟨_, rfl⟩
          rw [← hx]
          have HX := Lib.hid hx
          clear hx
          go_upto_block 4 with (fail)
          go_cut [13] (fun s13 we => s13 = .int .i64 (posD (offL off j) x j) ∧ we = wo)
          case first =>
            by_cases hj0 : j = 0
            · subst hj0
              go_wp2_with fail
              refine wp_loop_rounds 1 ?_
              rw [rounds_succ]
              go_wp2_with fail
              go_meet
              exact ⟨rfl, rfl⟩
            · obtain ⟨hlen, hform⟩ := hown
              have hownc : wo.ownsRow w3.heap.size 2 1 (.slice A j cap) j ((offL off j).map (Value.int .i64)) := ⟨hlen, hform⟩
              obtain ⟨g, cap', cur, hv, hbg, hh, hnc, hcm, hcs, hct⟩ := hform.resolve_left (fun h => hj0 h.2)
              injection hv with hA1 _ hA2
              subst hA1 hA2
              have HC := Lib.hid (fun q (hq : q < j) => (World.ownsRow.cellAt hownc q (by rw [Nat.mul_one]; exact hq)).trans (show ((offL off j).map (Value.int .i64))[q]? = some (.int .i64 ((offL off j).getD q 0)) by
                rw [List.getElem?_map, List.getElem?_eq_getElem (by rw [offL_length]; exact hq), getD_of_lt _ q (by rw [offL_length]; exact hq)]; rfl))
              have hcap : cap ≤ 9223372036854775807 := by unfold maxLen at hcm; omega
              clear hownc hlen hh hct hcs hform hcm
              go_wp2_with fail
              go_loop [13] (fun s13 => ∃ p : Nat, p ≤ j ∧ s13 = .int .i64 p ∧ Hid (posD (offL off j) x p = posD (offL off j) x j)) (fun s13 => (intOf s13).toNat)
              case atStart => exact ⟨j, Nat.le_refl _, rfl, Lib.hid rfl⟩
              case round =>
                obtain ⟨p, hp, rfl, HI⟩ := hrel
                by_cases hp0 : 0 < p
                · obtain ⟨q, rfl⟩ : ∃ q, p = q + 1 := ⟨p - 1, by omega⟩
                  have hcell := HC.out q (by omega)
                  obtain ⟨y, hy⟩ : ∃ y, y = (offL off j).getD q 0 := ⟨_, rfl⟩
                  rw [← hy] at hcell
                  have HY := Lib.hid hy
                  clear hy
                  by_cases hyx : y < x
                  · have HE := Lib.hid (show posD (offL off j) x q = posD (offL off j) x j by rw [← HI.out, posD, if_pos (by rw [← HY.out]; exact hyx)])
                    go_wp2_with fail
                    go_round
                    case rel => exact ⟨q, by omega, rfl, HE⟩
                    case measure => first | (simp [intOf]; done) | (simp [intOf]; omega)
                  · have HE := Lib.hid (show posD (offL off j) x j = q + 1 by rw [← HI.out, posD, if_neg (by rw [← HY.out]; exact hyx)])
                    go_wp2_with fail
                    go_meet
                    exact ⟨by rw [HE.out]; go_num, rfl⟩
                · obtain rfl : p = 0 := by omega
                  have HE := Lib.hid (show posD (offL off j) x j = 0 by rw [← HI.out]; rfl)
                  go_wp2_with fail
                  go_meet
                  exact ⟨by rw [HE.out]; rfl, rfl⟩
          obtain ⟨rfl, hwd⟩ := hcut
          obtain rfl : wo = wc := hwd.symm
          have hS := Src.of_own hown
          have hSr := hS.room
          have hcap : cap ≤ 9223372036854775807 := by
            rcases hown.2 with ⟨h1, _⟩ | ⟨_, _, _, h1, _, _, _, h2, _⟩
            · injection h1 with _ _ h1; omega
            · injection h1 with _ _ h1; unfold maxLen at h2; omega
          obtain ⟨p, hp⟩ : ∃ p, p = posD (offL off j) x j := ⟨_, rfl⟩
          have hpj : p ≤ j := by rw [hp]; exact posD_le _ _ _
          rw [← hp]
          have HPD := Lib.hid hp
          clear hp
          have hpc : p ≤ cap := by omega
          have hpjN : p ≤ j := hpj
          obtain ⟨i0, hi0, hz0, hz1, hz2⟩ := info_parts info2
          have hLl : (offL off j).length = j := offL_length off j
          have HLL := Lib.hid hLl
          clear hLl
          have hm47 : j + 1 ≤ maxLen ∧ (j + 1) * 8 ≤ 140737488355328 := by unfold maxLen; omega
          have H47 := Lib.hid hm47
          clear hm47
          have HS := Lib.hid hS
          clear hS
          go_wp2
          go_region_law ((first
            | (refine step_append _ (by rfl) (.tmp 107) (.tmp 110) 22 (by rfl) wo.heap.size 2 i0 (.int .i64 0) 8 Tryd.underlying22 hi0 hz0 hz1 hz2 (by rfl) (.slice (some ⟨wo.heap.size, 0, none⟩) 0 0) 0 [] (by rfl) ?_ wo.heap.size A p cap _ (by rfl) ((HS.out.keep ?_).front p hpj) ?_ ?_ ?_ ?_ ?_
               · first
                   | exact World.ownsRow_lit wo #[] 0 (Nat.le_refl _) (Nat.zero_le _) rfl
                   | exact (World.ownsRow_lit wo #[] 0 (Nat.le_refl _) (Nat.zero_le _) rfl).alloc _
               · go_grown
               · intro u hu; obtain ⟨y, _, rfl⟩ := List.mem_map.1 (List.mem_of_mem_take hu); rfl
               · have := H47.out.1; omega
               · have := H47.out.2; omega
               · simp <;> omega
               intro v1 w1 hown1 hg1 hat1
               have hb1 : Below wo.heap.size wo w1 := Below.grown (by go_grown) hg1 (by simp <;> omega) (fun k hk => slice_ge (by first | exact Nat.le_refl _ | exact Nat.le_succ _ | simp) hk)
               clear hat1)
            | (refine step_append _ (by rfl) (.tmp 107) (.tmp 110) 22 (by rfl) wo.heap.size 2 i0 (.int .i64 0) 8 Tryd.underlying22 hi0 hz0 hz1 hz2 (by rfl) (.slice (some ⟨wo.heap.size + 1, 0, none⟩) 0 0) 0 [] (by rfl) ?_ wo.heap.size A p cap _ (by rfl) ((HS.out.keep ?_).front p hpj) ?_ ?_ ?_ ?_ ?_
               · (have h := World.ownsRow_lit (e := 2) (size := 1) (base := wo.heap.size) (wo.alloc (.cells #[.int .i64 x] 2)) #[] 0 (by simp) (Nat.zero_le _) rfl; rw [World.size_alloc] at h; exact h)
               · go_grown
               · intro u hu; obtain ⟨y, _, rfl⟩ := List.mem_map.1 (List.mem_of_mem_take hu); rfl
               · have := H47.out.1; omega
               · have := H47.out.2; omega
               · simp <;> omega
               intro v1 w1 hown1 hg1 hat1
               have hb1 : Below wo.heap.size wo w1 := Below.grown (by go_grown) hg1 (by simp <;> omega) (fun k hk => slice_ge (by first | exact Nat.le_refl _ | exact Nat.le_succ _ | simp) hk)
               clear hat1)
            | (refine step_append _ (by rfl) (.tmp 111) (.tmp 113) 22 (by rfl) wo.heap.size 2 i0 (.int .i64 0) 8 Tryd.underlying22 hi0 hz0 hz1 hz2 (by rfl) v1 (0 + p) ([] ++ ((offL off j).map (Value.int .i64)).take p) (by rfl) ?_ (wo.heap.size + w1.heap.size + 2) _ 1 1 [.int .i64 x] (by rfl) ?_ ?_ ?_ ?_ ?_ ?_
               · first
                   | exact hown1
                   | exact hown1.alloc _
               · first
                   | exact (Src.new w1 _ _).more (by omega)
                   | exact src_ex hg1 (by have := hg1.size; simp at this; omega)
                   | exact src_xe hg1 (by have := hg1.size; simp at this; omega)
               · intro u hu; obtain rfl := List.mem_singleton.1 hu; rfl
               · have := H47.out.1; omega
               · have := H47.out.2; omega
               · first
                   | exact hb1.size
                   | exact (hb1.alloc hb1.size _).size
               intro v2 w2 hown2 hg2 hat2
               have hb2 : Below wo.heap.size wo w2 := by
                 first
                   | exact hb1.grown hg2 hb1.size (fun k hk => (hown1.lt k hk).1)
                   | exact (hb1.alloc hb1.size _).grown hg2 (hb1.alloc hb1.size _).size (fun k hk => (hown1.lt k hk).1)
               clear hat2)
            | (refine step_append _ (by rfl) (.tmp 114) (.tmp 117) 22 (by rfl) wo.heap.size 2 i0 (.int .i64 0) 8 Tryd.underlying22 hi0 hz0 hz1 hz2 (by rfl) v2 _ _ (by rfl) hown2 wo.heap.size _ _ _ _ (by rfl) ((HS.out.keep hb2).back p hpj) ?_ ?_ ?_ hb2.size ?_
               · intro u hu; obtain ⟨y, _, rfl⟩ := List.mem_map.1 (List.mem_of_mem_drop hu); rfl
               · have := H47.out.1; omega
               · have := H47.out.2; omega
               intro v3 w4 hown3 hg3 hat3
               have hb3 : Below wo.heap.size wo w4 := hb2.grown hg3 hb2.size (fun k hk => (hown2.lt k hk).1)
               clear hat3)
            | fail))
          all_goals
            have hown4 : w4.ownsRow w3.heap.size 2 1 v3 (j + 1) ((offL off (j + 1)).map (Value.int .i64)) := by
              have h := owns_base hown3 hge
              rw [show 0 + p + 1 + (j - p) = j + 1 by omega] at h
              rw [offL_succ, ← HX.out, insD, HLL.out, ← HPD.out]
              simpa using h
            clear hown1 hown2 hown3
            obtain ⟨A', c', rfl⟩ := owns_slice hown4
            go_wp2_with fail
            go_roundw
            case rel => exact ⟨j + 1, A', c', by omega, by go_num, rfl, hown4, by have := hb3.size; omega, HA.call hb3⟩
            case measure => simp [intOf]; omega
        · obtain rfl : n = j := by omega
          clear hj hlt
          have HS := Lib.hid (Src.of_own hown)
          have hcap : cap ≤ 9223372036854775807 := by
            rcases hown.2 with ⟨h1, _⟩ | ⟨_, _, _, h1, _, _, _, h2, _⟩
            · injection h1 with _ _ h1; omega
            · injection h1 with _ _ h1; unfold maxLen at h2; omega
          clear hown
          have CP := Lib.hid (fun s W (h1 : s < 65536) (h2 : Below w.heap.size w W) => price_case (some ⟨w1.heap.size, 0, none⟩) ao none n n no co 0 0 budget m k base off [] s W hn10 hno (by omega) h1 (ho.keep h2 (Nat.le_refl _)) (shorts_none _))
          have hP0 := priceA_bd base off [] 0 (by rw [ho.1]; exact ho.2.1) (fun j hj => absurd hj (Nat.not_lt_zero j)) n (by omega)
          obtain ⟨P0, hP0d⟩ : ∃ P0, P0 = priceA base off [] 0 n := ⟨_, rfl⟩
          rw [← hP0d] at hP0
          have HP0 := Lib.hid hP0d
          clear hP0d
          have HAc := HA.1.1
          obtain ⟨e0, e1, e2, e3, e4, e5, e6, l0, hbb⟩ := HAc
          have c0 := CP.out 0 wo (by omega) HA.1.below
          rw [← HP0.out] at c0
          have C0 := Lib.hid c0
          clear c0
          go_wp2_with (first
            | (go_at_call 10; (with_reducible refine Calls.mono C0.out ?_); rintro e w5 ⟨rfl, hB5⟩))
          have HA := HA.call hB5
          have HS := Lib.hid (HS.out.keep hB5)
          clear hB5 e0 e1 e2 e3 e4 e5 e6 l0 hbb C0
          have HW := Lib.hid (wantS_bd (offL off n) (roomS sz budget k) (offL_bd off (by rw [ho.1]; exact ho.2.1) n))
          obtain ⟨room, hroom⟩ : ∃ room, room = roomS sz budget k := ⟨_, rfl⟩
          rw [← hroom] at HW ⊢
          have HRM := Lib.hid hroom
          clear hroom
          go_loop [14, 124] (fun t i => ∃ j : Nat, j ≤ n ∧ i = .int .i64 j ∧ t = .int .i64 (P0 - wantS (offL off n) room j)) (fun _ i => n - (intOf i).toNat)
          case atStart => exact ⟨0, Nat.zero_le _, rfl, by simp [wantS]⟩
          case round =>
            obtain ⟨j, hj, rfl, rfl⟩ := hrel
            have hwb := HW.out j
            have HWS := Lib.hid (show wantS (offL off n) room (j + 1) = _ from rfl)
            obtain ⟨t, ht⟩ : ∃ t, t = wantS (offL off n) room j := ⟨_, rfl⟩
            rw [← ht] at hwb ⊢
            have HTD := Lib.hid ht
            clear ht
            by_cases hlt : j < n
            · have hlen : (offL off n).length = n := offL_length off n
              have hLb := offL_bd off (by rw [ho.1]; exact ho.2.1) n ((offL off n).getD j 0) (by rw [getD_of_lt _ j (by omega)]; exact List.getElem_mem _)
              obtain ⟨y, hy⟩ : ∃ y, y = (offL off n).getD j 0 := ⟨_, rfl⟩
              rw [← hy] at hLb
              have hsrc := HS.out
              rcases hsrc with ⟨_, hn0, _⟩ | ⟨ad, rfl, _, _, _, hcs⟩
              · omega
              · have hcell := hcs j (.int .i64 y) (by rw [List.getElem?_map, List.getElem?_eq_getElem (by omega), hy, getD_of_lt _ j (by omega)]; rfl)
                have HY := Lib.hid hy
                clear hcs hy hlen
                by_cases h1 : (j : Int) < room
                · by_cases h2 : 0 < y
                  · have HE := Lib.hid (show wantS (offL off n) room (j + 1) = t + y by rw [wantS, ← HY.out, if_pos ⟨h1, h2⟩, HTD.out])
                    go_wp2
                    go_round
                    case rel => exact ⟨j + 1, by omega, by go_num, by rw [HE.out]; exact congrArg _ (by omega)⟩
                    case measure => simp [intOf]; omega
                  · have HE := Lib.hid (show wantS (offL off n) room (j + 1) = t by rw [wantS, ← HY.out, if_neg (fun h => h2 h.2), HTD.out]; omega)
                    have h2' : decide (0 < y) = false := by simpa using h2
                    go_wp2
                    go_round
                    case rel => exact ⟨j + 1, by omega, by go_num, by rw [HE.out]⟩
                    case measure => simp [intOf]; omega
                · have HE := Lib.hid (show wantS (offL off n) room (j + 1) = t by rw [wantS, if_neg (fun h => h1 h.1), HTD.out]; omega)
                  have h1' : decide ((j : Int) < room) = false := by simpa using h1
                  go_wp2
                  go_round
                  case rel => exact ⟨j + 1, by omega, by go_num, by rw [HE.out]⟩
                  case measure => simp [intOf]; omega
            · obtain rfl : n = j := by omega
              have hr65 : r < 65536 := by
                have h1 := HP.out.1
                have h2 : 2 ^ n ≤ 2 ^ 16 := Nat.pow_le_pow_right (by omega) (by omega)
                omega
              have HAc := HA.1.1
              obtain ⟨e0, e1, e2, e3, e4, e5, e6, l0, hbb⟩ := HAc
              have hPR : priceA base off [] r n = P0 - t := by
                have h := HP.out.2
                rw [← HP0.out, ← HRM.out] at h
                rw [h, HTD.out]; rfl
              have c1 := CP.out r w5 hr65 HA.1.below
              rw [hPR] at c1
              have C1 := Lib.hid c1
              have heq : (P0 - t == P0 - t) = true := beq_self_eq_true _
              clear c1 hPR
              go_wp2_with (first
                | (go_at_call 10; (with_reducible refine Calls.mono C1.out ?_); rintro e w6 ⟨rfl, hB6⟩))
              go_ret
              exact ⟨rfl, (HA.call hB6).1.below⟩
end Go.Proofs.YteckfakabaiipaaDoor
