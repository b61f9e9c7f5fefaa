/- The walk of package greedy's seed: the best set of at most so many things. -/
import Derived.Test.YteckfakabaiipaaDoorFits
import Derived.Deep.DeepCutAuto
import Derived.WalkSmall
namespace Go.Proofs.YteckfakabaiipaaDoor
open Go.RowKit

/-- a function value that prices sets: called in any world that is as w0 was below w0's end, it returns P of the set, and nothing of what was there turns -/
def Prices (w0 : World) (F : FuncId) (B : Array Value) (P : Nat → Int) : Prop :=
  (∀ (args : Array Value) (w : World), (callFunc F args).run Tryd.prog w = .ok (.enter F args) w) ∧ ∀ (s : Nat) (W : World), s < 65536 → Below w0.heap.size w0 W → Calls Tryd.prog F (B.push (.int .u32 s)) W (RetV (.int .i64 (P s)) W)

/-- does a set with this price come ahead of the best one? -/
def betterB (P : Nat → Int) (set s : Nat) : Bool := decide (P set < P s) || decide (P set = P s) && (decide (pc set < pc s) || decide (pc set = pc s) && aheadB set s)
/-- the best set of those below a number -/
def seedS (zs : List Int) (left : Int) (P : Nat → Int) (m : Int) : Nat → Nat
  | 0 => 0
  | 1 => 0
  | set + 1 => if m < pc set then seedS zs left P m set else if fitsL zs 0 left set then (if betterB P set (seedS zs left P m set) then set else seedS zs left P m set) else seedS zs left P m set

theorem seedS_step (zs : List Int) (left : Int) (P : Nat → Int) (m : Int) (set : Nat) (h : 1 ≤ set) :
    seedS zs left P m (set + 1) = if m < pc set then seedS zs left P m set else if fitsL zs 0 left set then (if betterB P set (seedS zs left P m set) then set else seedS zs left P m set) else seedS zs left P m set := by
  cases set with
  | zero => omega
  | succ n => rw [seedS]; omega
theorem seedS_lt (zs : List Int) (left : Int) (P : Nat → Int) (m : Int) : ∀ set, 1 ≤ set → seedS zs left P m set < set := by
  intro set
  induction set with
  | zero => intro h; omega
  | succ n ih =>
    intro _
    by_cases h : 1 ≤ n
    · rw [seedS_step _ _ _ _ n h]
      have := ih h
      split
      · omega
      · split
        · split <;> omega
        · omega
    · have : n = 0 := by omega
      subst this
      simp [seedS]

/-- what is known of the world in and behind the loop of seed -/
def SeedKept (w w' : World) (bb : Nat) (sl fv : Value) (left : Int) (s : Nat) (c : Int) : Prop :=
  w'.cell? ⟨w.heap.size, 0, none⟩ = some sl ∧ w'.cell? ⟨w.heap.size, 1, none⟩ = some (.int .i64 left) ∧ w'.cell? ⟨w.heap.size, 2, none⟩ = some fv ∧
  w'.cell? ⟨w.heap.size + 1, 0, none⟩ = some (.int .u32 0) ∧ w'.cell? ⟨w.heap.size + 1, 1, none⟩ = some (.int .i64 0) ∧
  w'.cell? ⟨bb, 0, none⟩ = some (.int .u32 s) ∧ w'.cell? ⟨bb, 1, none⟩ = some (.int .i64 c) ∧
  (∀ o, w'.frozen? ⟨w.heap.size + 1, o, none⟩ = false) ∧ (∀ o, w'.frozen? ⟨bb, o, none⟩ = false) ∧
  w.heap.size + 1 < bb ∧ bb < w'.heap.size ∧ Below w.heap.size w w'

theorem SeedKept.below {w w' : World} {bb : Nat} {sl fv : Value} {left : Int} {s : Nat} {c : Int} (h : SeedKept w w' bb sl fv left s c) : Below w.heap.size w w' := h.2.2.2.2.2.2.2.2.2.2.2

theorem SeedKept.call {w w' w2 : World} {bb : Nat} {sl fv : Value} {left : Int} {s : Nat} {c : Int} (h : SeedKept w w' bb sl fv left s c) (hB : Below w'.heap.size w' w2) : SeedKept w w2 bb sl fv left s c := by
  obtain ⟨e0, e1, e2, e3, e4, e5, e6, f0, f1, l0, l1, hb⟩ := h
  have hl : ∀ b o, b < w'.heap.size → w2.cell? ⟨b, o, none⟩ = w'.cell? ⟨b, o, none⟩ := fun b o h => hB.cell (p := ⟨b, o, none⟩) h
  have hf : ∀ b o, b < w'.heap.size → w2.frozen? ⟨b, o, none⟩ = w'.frozen? ⟨b, o, none⟩ := fun b o h => hB.frozen (p := ⟨b, o, none⟩) h
  have hz := hB.size
  exact ⟨(hl _ _ (by omega)).trans e0, (hl _ _ (by omega)).trans e1, (hl _ _ (by omega)).trans e2, (hl _ _ (by omega)).trans e3, (hl _ _ (by omega)).trans e4, (hl _ _ (by omega)).trans e5, (hl _ _ (by omega)).trans e6, fun o => (hf _ _ (by omega)).trans (f0 o), fun o => (hf _ _ (by omega)).trans (f1 o), l0, by omega, hb.trans (hB.mono (by omega))⟩
theorem SeedKept.drewN {w w' : World} {bb : Nat} {sl fv : Value} {left : Int} {s : Nat} {c : Int} (h : SeedKept w w' bb sl fv left s c) (n : Nat) : SeedKept w (w'.drewN n) bb sl fv left s c := h.call (below_drewN (Below.refl _ _) n)
/-- a new best set -/
theorem SeedKept.set {w w' : World} {bb : Nat} {sl fv : Value} {left : Int} {s : Nat} {c : Int} (h : SeedKept w w' bb sl fv left s c) (s2 : Nat) (c2 : Int) : SeedKept w ((w'.setCell ⟨bb, 0, none⟩ (.int .u32 s2)).setCell ⟨bb, 1, none⟩ (.int .i64 c2)) bb sl fv left s2 c2 := by
  obtain ⟨e0, e1, e2, e3, e4, e5, e6, f0, f1, l0, l1, hb⟩ := h
  have hB : Below bb w' ((w'.setCell ⟨bb, 0, none⟩ (.int .u32 s2)).setCell ⟨bb, 1, none⟩ (.int .i64 c2)) := ((Below.refl bb w').setCell (p := ⟨bb, 0, none⟩) (Nat.le_refl _) _).setCell (p := ⟨bb, 1, none⟩) (Nat.le_refl _) _
  have hl : ∀ b o, b < bb → ((w'.setCell ⟨bb, 0, none⟩ (.int .u32 s2)).setCell ⟨bb, 1, none⟩ (.int .i64 c2)).cell? ⟨b, o, none⟩ = w'.cell? ⟨b, o, none⟩ := fun b o h => hB.cell (p := ⟨b, o, none⟩) h
  refine ⟨(hl _ _ (by omega)).trans e0, (hl _ _ (by omega)).trans e1, (hl _ _ (by omega)).trans e2, (hl _ _ (by omega)).trans e3, (hl _ _ (by omega)).trans e4, ?_, ?_, fun o => by rw [World.frozen?_setCell, World.frozen?_setCell]; exact f0 o, fun o => by rw [World.frozen?_setCell, World.frozen?_setCell]; exact f1 o, l0, by simpa using l1, hb.trans (hB.mono (by omega))⟩
  · exact (World.cell?_setCell_other _ _ _ _ (fun e => by injection e with _ h2 _; cases h2)).trans (World.cell?_setCell_same _ _ _ e5)
  · exact World.cell?_setCell_same _ _ _ ((World.cell?_setCell_other _ _ _ _ (fun e => by injection e with _ h2 _; cases h2)).trans e6)

theorem SeedKept.start {w w1 : World} {sl fv : Value} {left : Int} (p : Int) (hB : Below ((w.alloc (.cells #[sl, .int .i64 left, fv] 46)).alloc (.cells #[.int .u32 0, .int .i64 0] 48)).heap.size ((w.alloc (.cells #[sl, .int .i64 left, fv] 46)).alloc (.cells #[.int .u32 0, .int .i64 0] 48)) w1) :
    SeedKept w (w1.alloc (.cells #[.int .u32 0, .int .i64 p] 48)) w1.heap.size sl fv left 0 p := by
  have hz := hB.size
  have hs : ((w.alloc (.cells #[sl, .int .i64 left, fv] 46)).alloc (.cells #[.int .u32 0, .int .i64 0] 48)).heap.size = w.heap.size + 2 := by simp
  have hC : Below w1.heap.size w1 (w1.alloc (.cells #[.int .u32 0, .int .i64 p] 48)) := (Below.refl _ _).alloc (Nat.le_refl _) _
  have q0 := ((hC.block w.heap.size (by omega)).trans (hB.block w.heap.size (by omega))).trans (heap_alloc2_old w _ _)
  have q1 := ((hC.block (w.heap.size + 1) (by omega)).trans (hB.block (w.heap.size + 1) (by omega))).trans (heap_alloc2_new w _ _)
  have q2 := heap_alloc_new w1 (.cells #[.int .u32 0, .int .i64 p] 48)
  have hb0 : Below w.heap.size w ((w.alloc (.cells #[sl, .int .i64 left, fv] 46)).alloc (.cells #[.int .u32 0, .int .i64 0] 48)) := by go_grown
  refine ⟨?_, ?_, ?_, ?_, ?_, ?_, ?_, fun o => frozen_of_row _ _ _ _ _ q1, fun o => frozen_of_row _ _ _ _ _ q2, by omega, by simp, (hb0.trans (hB.mono (by omega))).trans (hC.mono (by omega))⟩
  · rw [cell_of_row _ _ _ _ _ _ q0]; rfl
  · rw [cell_of_row _ _ _ _ _ _ q0]; rfl
  · rw [cell_of_row _ _ _ _ _ _ q0]; rfl
  · rw [cell_of_row _ _ _ _ _ _ q1]; rfl
  · rw [cell_of_row _ _ _ _ _ _ q1]; rfl
  · rw [cell_of_row _ _ _ _ _ _ q2]; rfl
  · rw [cell_of_row _ _ _ _ _ _ q2]; rfl

theorem IntsAt.keep {w w' : World} {a : Option Addr} {zs : List Int} (h : IntsAt w a zs) (hB : Below w.heap.size w w') : IntsAt w' a zs := by
  rcases h with h | ⟨b, off, ha, hc⟩
  · exact .inl h
  · refine .inr ⟨b, off, ha, fun j hj => ?_⟩
    have hlt := World.block_lt_of_cell? w _ (hc j hj)
    exact (hB.cell (p := ⟨b, off + j, none⟩) hlt).trans (hc j hj)
theorem TabIn.keep {w w' : World} (h : TabIn w) (hB : Below w.heap.size w w') : TabIn w' := by
  intro j hj
  have hlt := World.block_lt_of_cell? w _ (h j hj)
  exact (hB.cell (p := ⟨0, j, none⟩) hlt).trans (h j hj)

set_option maxRecDepth 100000 in
set_option maxHeartbeats 8000000 in
theorem seed_any (a : Option Addr) (cap : Nat) (zs : List Int) (left : Int) (F : FuncId) (B : Array Value) (P : Nat → Int) (m : Int) (w0 w : World) (hl : zs.length ≤ 16) (h0 : 0 ≤ left) (h1 : left ≤ 9223372036854775807) (hz : IntsAt w a zs) (hT : TabIn w)
    (hP : Prices w0 F B P) (hw : Below w0.heap.size w0 w) (hs0 : w0.heap.size ≤ w.heap.size) :
    Calls Tryd.prog 18 #[.agg #[.slice a zs.length cap, .int .i64 left, .func (.func F) B #[]], .int .i64 m] w (RetV (.agg #[.int .u32 (seedS zs left P m (2 ^ zs.length)), .int .i64 (P (seedS zs left P m (2 ^ zs.length)))]) w) := by
  have hcf := hP.1
  have HP := Lib.hid hP.2
  clear hP
  have hb0 : Below w0.heap.size w0 (w.alloc (.cells #[.slice a zs.length cap, .int .i64 left, .func (.func F) B #[]] 46)) := by have := hw.size; exact hw.alloc this _
  have hb1 : Below w0.heap.size w0 ((w.alloc (.cells #[.slice a zs.length cap, .int .i64 left, .func (.func F) B #[]] 46)).alloc (.cells #[.int .u32 0, .int .i64 0] 48)) := by have := hb0.size; exact hb0.alloc this _
  have c0 := Lib.hid (HP.out 0 _ (by omega) hb1)
  go_enter Tryd.func18, Tryd.ntmps18
  go_wp2_with (first
    | ((with_reducible refine Calls.mono c0.out ?_); rintro e w1 ⟨rfl, hB⟩))
  have HS := SeedKept.start (P 0) hB
  clear hB
  go_loopw [6] (fun i wr => ∃ set : Nat, 1 ≤ set ∧ set ≤ 2 ^ zs.length ∧ i = .int .u32 set ∧ SeedKept w wr w1.heap.size (.slice a zs.length cap) (.func (.func F) B #[]) left (seedS zs left P m set) (P (seedS zs left P m set))) (fun i _ => 2 ^ zs.length - (intOf i).toNat)
  case atStart => exact ⟨1, by omega, Nat.one_le_two_pow, rfl, HS⟩
  case round =>
    obtain ⟨set, hs1, hs2, rfl, HK⟩ := hrel
    have hpow : 2 ^ zs.length ≤ 65536 := Nat.pow_le_pow_right (n := 2) (by omega) hl
    obtain ⟨s, hsd⟩ : ∃ s, s = seedS zs left P m set := ⟨_, rfl⟩
    have hslt : s < 65536 := by rw [hsd]; have := seedS_lt zs left P m set hs1; omega
    rw [← hsd] at HK
    have HSD := Lib.hid hsd
    clear hsd
    have SK := HK
    obtain ⟨e0, e1, e2, e3, e4, e5, e6, f0, f1, l0, l1, hbb⟩ := HK
    by_cases hlt : set < 2 ^ zs.length
    · have hg : (set : Int) < 2 ^ zs.length % 4294967296 := by
        have e : (2 : Int) ^ zs.length = ((2 ^ zs.length : Nat) : Int) := by simp
        rw [e]; omega
      have HT := Lib.hid (seedS_step zs left P m set hs1)
      have hset : set < 65536 := by omega
      have HL := Lib.hid hlt
      by_cases hm : m < (pc set : Int)
      · clear hpow hlt
        have HE := Lib.hid (show seedS zs left P m (set + 1) = s by rw [HT.out, if_pos hm]; exact HSD.out.symm)
        go_wp2_with (first
        | (go_at_call 19; (with_reducible refine (ones_any _ _ (by omega)).mono ?_); rintro e w2 ⟨rfl, q, rfl⟩; have SK := SK.drewN q)
        | (go_at_call 20; (with_reducible refine (fits_all _ _ _ _ _ _ _ hl (by omega) h0 h1 ?_).mono ?_); exact hz.keep SK.below; rintro e w2 ⟨rfl, hB⟩; have SK := SK.call hB; clear hB; have SKc := SK; obtain ⟨e0, e1, e2, e3, e4, e5, e6, f0, f1, l0, l1, hbb⟩ := SKc)
        | (go_at_call 24; (with_reducible refine (ahead_any _ _ _ (by omega) (by omega) ?_).mono ?_); exact hT.keep SK.below; rintro e w2 ⟨rfl, rfl⟩)
        | ((with_reducible refine Calls.mono (HP.out set _ (by omega) ?_) ?_); exact hw.trans (SK.below.mono hs0); rintro e w2 ⟨rfl, hB⟩; have SK := SK.call hB; clear hB; have SKc := SK; obtain ⟨e0, e1, e2, e3, e4, e5, e6, f0, f1, l0, l1, hbb⟩ := SKc))
        go_roundw
        case rel => exact ⟨set + 1, by omega, by have := HL.out; omega, by go_num, by rw [HE.out]; exact SK⟩
        case measure => have := HL.out; simp [intOf]; omega
      · by_cases hf : fitsL zs 0 left set = true
        · by_cases c1 : P set < P s
          · clear hpow hlt
            have HE := Lib.hid (show seedS zs left P m (set + 1) = set by rw [HT.out, if_neg hm, if_pos hf, ← HSD.out, if_pos (by unfold betterB; simp [c1])])
            go_wp2_with (first
        | (go_at_call 19; (with_reducible refine (ones_any _ _ (by omega)).mono ?_); rintro e w2 ⟨rfl, q, rfl⟩; have SK := SK.drewN q)
        | (go_at_call 20; (with_reducible refine (fits_all _ _ _ _ _ _ _ hl (by omega) h0 h1 ?_).mono ?_); exact hz.keep SK.below; rintro e w2 ⟨rfl, hB⟩; have SK := SK.call hB; clear hB; have SKc := SK; obtain ⟨e0, e1, e2, e3, e4, e5, e6, f0, f1, l0, l1, hbb⟩ := SKc)
        | (go_at_call 24; (with_reducible refine (ahead_any _ _ _ (by omega) (by omega) ?_).mono ?_); exact hT.keep SK.below; rintro e w2 ⟨rfl, rfl⟩)
        | ((with_reducible refine Calls.mono (HP.out set _ (by omega) ?_) ?_); exact hw.trans (SK.below.mono hs0); rintro e w2 ⟨rfl, hB⟩; have SK := SK.call hB; clear hB; have SKc := SK; obtain ⟨e0, e1, e2, e3, e4, e5, e6, f0, f1, l0, l1, hbb⟩ := SKc))
            go_roundw
            case rel => exact ⟨set + 1, by omega, by have := HL.out; omega, by go_num, by rw [HE.out]; exact SK.set _ _⟩
            case measure => have := HL.out; simp [intOf]; omega
          · by_cases c2 : P set = P s
            · have c2b : (P set == P s) = true := by simpa using c2
              have C2 := Lib.hid c2
              clear c2
              by_cases c3 : pc set < pc s
              · clear hpow hlt
                have HE := Lib.hid (show seedS zs left P m (set + 1) = set by rw [HT.out, if_neg hm, if_pos hf, ← HSD.out, if_pos (by unfold betterB; simp [C2.out, c3])])
                go_wp2_with (first
        | (go_at_call 19; (with_reducible refine (ones_any _ _ (by omega)).mono ?_); rintro e w2 ⟨rfl, q, rfl⟩; have SK := SK.drewN q)
        | (go_at_call 20; (with_reducible refine (fits_all _ _ _ _ _ _ _ hl (by omega) h0 h1 ?_).mono ?_); exact hz.keep SK.below; rintro e w2 ⟨rfl, hB⟩; have SK := SK.call hB; clear hB; have SKc := SK; obtain ⟨e0, e1, e2, e3, e4, e5, e6, f0, f1, l0, l1, hbb⟩ := SKc)
        | (go_at_call 24; (with_reducible refine (ahead_any _ _ _ (by omega) (by omega) ?_).mono ?_); exact hT.keep SK.below; rintro e w2 ⟨rfl, rfl⟩)
        | ((with_reducible refine Calls.mono (HP.out set _ (by omega) ?_) ?_); exact hw.trans (SK.below.mono hs0); rintro e w2 ⟨rfl, hB⟩; have SK := SK.call hB; clear hB; have SKc := SK; obtain ⟨e0, e1, e2, e3, e4, e5, e6, f0, f1, l0, l1, hbb⟩ := SKc))
                go_roundw
                case rel => exact ⟨set + 1, by omega, by have := HL.out; omega, by go_num, by rw [HE.out]; exact SK.set _ _⟩
                case measure => have := HL.out; simp [intOf]; omega
              · by_cases c4 : pc set = pc s
                · have c4b : (((pc set : Nat) : Int) == ((pc s : Nat) : Int)) = true := by rw [c4]; exact beq_self_eq_true _
                  have C4 := Lib.hid c4
                  clear c4
                  by_cases c5 : aheadB set s = true
                  · clear hpow hlt
                    have HE := Lib.hid (show seedS zs left P m (set + 1) = set by rw [HT.out, if_neg hm, if_pos hf, ← HSD.out, if_pos (by unfold betterB; simp [C2.out, C4.out, c5])])
                    go_wp2_with (first
        | (go_at_call 19; (with_reducible refine (ones_any _ _ (by omega)).mono ?_); rintro e w2 ⟨rfl, q, rfl⟩; have SK := SK.drewN q)
        | (go_at_call 20; (with_reducible refine (fits_all _ _ _ _ _ _ _ hl (by omega) h0 h1 ?_).mono ?_); exact hz.keep SK.below; rintro e w2 ⟨rfl, hB⟩; have SK := SK.call hB; clear hB; have SKc := SK; obtain ⟨e0, e1, e2, e3, e4, e5, e6, f0, f1, l0, l1, hbb⟩ := SKc)
        | (go_at_call 24; (with_reducible refine (ahead_any _ _ _ (by omega) (by omega) ?_).mono ?_); exact hT.keep SK.below; rintro e w2 ⟨rfl, rfl⟩)
        | ((with_reducible refine Calls.mono (HP.out set _ (by omega) ?_) ?_); exact hw.trans (SK.below.mono hs0); rintro e w2 ⟨rfl, hB⟩; have SK := SK.call hB; clear hB; have SKc := SK; obtain ⟨e0, e1, e2, e3, e4, e5, e6, f0, f1, l0, l1, hbb⟩ := SKc))
                    go_roundw
                    case rel => exact ⟨set + 1, by omega, by have := HL.out; omega, by go_num, by rw [HE.out]; exact SK.set _ _⟩
                    case measure => have := HL.out; simp [intOf]; omega
                  · clear hpow hlt
                    have HE := Lib.hid (show seedS zs left P m (set + 1) = s by rw [HT.out, if_neg hm, if_pos hf, ← HSD.out, if_neg (by unfold betterB; simp [C2.out, C4.out, c5])])
                    go_wp2_with (first
        | (go_at_call 19; (with_reducible refine (ones_any _ _ (by omega)).mono ?_); rintro e w2 ⟨rfl, q, rfl⟩; have SK := SK.drewN q)
        | (go_at_call 20; (with_reducible refine (fits_all _ _ _ _ _ _ _ hl (by omega) h0 h1 ?_).mono ?_); exact hz.keep SK.below; rintro e w2 ⟨rfl, hB⟩; have SK := SK.call hB; clear hB; have SKc := SK; obtain ⟨e0, e1, e2, e3, e4, e5, e6, f0, f1, l0, l1, hbb⟩ := SKc)
        | (go_at_call 24; (with_reducible refine (ahead_any _ _ _ (by omega) (by omega) ?_).mono ?_); exact hT.keep SK.below; rintro e w2 ⟨rfl, rfl⟩)
        | ((with_reducible refine Calls.mono (HP.out set _ (by omega) ?_) ?_); exact hw.trans (SK.below.mono hs0); rintro e w2 ⟨rfl, hB⟩; have SK := SK.call hB; clear hB; have SKc := SK; obtain ⟨e0, e1, e2, e3, e4, e5, e6, f0, f1, l0, l1, hbb⟩ := SKc))
                    go_roundw
                    case rel => exact ⟨set + 1, by omega, by have := HL.out; omega, by go_num, by rw [HE.out]; exact SK⟩
                    case measure => have := HL.out; simp [intOf]; omega
                · have c4b : (((pc set : Nat) : Int) == ((pc s : Nat) : Int)) = false := by rw [beq_eq_false_iff_ne]; omega
                  clear hpow hlt
                  have HE := Lib.hid (show seedS zs left P m (set + 1) = s by rw [HT.out, if_neg hm, if_pos hf, ← HSD.out, if_neg (by unfold betterB; simp [C2.out, c3, c4])])
                  go_wp2_with (first
        | (go_at_call 19; (with_reducible refine (ones_any _ _ (by omega)).mono ?_); rintro e w2 ⟨rfl, q, rfl⟩; have SK := SK.drewN q)
        | (go_at_call 20; (with_reducible refine (fits_all _ _ _ _ _ _ _ hl (by omega) h0 h1 ?_).mono ?_); exact hz.keep SK.below; rintro e w2 ⟨rfl, hB⟩; have SK := SK.call hB; clear hB; have SKc := SK; obtain ⟨e0, e1, e2, e3, e4, e5, e6, f0, f1, l0, l1, hbb⟩ := SKc)
        | (go_at_call 24; (with_reducible refine (ahead_any _ _ _ (by omega) (by omega) ?_).mono ?_); exact hT.keep SK.below; rintro e w2 ⟨rfl, rfl⟩)
        | ((with_reducible refine Calls.mono (HP.out set _ (by omega) ?_) ?_); exact hw.trans (SK.below.mono hs0); rintro e w2 ⟨rfl, hB⟩; have SK := SK.call hB; clear hB; have SKc := SK; obtain ⟨e0, e1, e2, e3, e4, e5, e6, f0, f1, l0, l1, hbb⟩ := SKc))
                  go_roundw
                  case rel => exact ⟨set + 1, by omega, by have := HL.out; omega, by go_num, by rw [HE.out]; exact SK⟩
                  case measure => have := HL.out; simp [intOf]; omega
            · have c2b : (P set == P s) = false := by simpa using c2
              clear hpow hlt
              have HE := Lib.hid (show seedS zs left P m (set + 1) = s by rw [HT.out, if_neg hm, if_pos hf, ← HSD.out, if_neg (by unfold betterB; simp [c1, c2])])
              go_wp2_with (first
        | (go_at_call 19; (with_reducible refine (ones_any _ _ (by omega)).mono ?_); rintro e w2 ⟨rfl, q, rfl⟩; have SK := SK.drewN q)
        | (go_at_call 20; (with_reducible refine (fits_all _ _ _ _ _ _ _ hl (by omega) h0 h1 ?_).mono ?_); exact hz.keep SK.below; rintro e w2 ⟨rfl, hB⟩; have SK := SK.call hB; clear hB; have SKc := SK; obtain ⟨e0, e1, e2, e3, e4, e5, e6, f0, f1, l0, l1, hbb⟩ := SKc)
        | (go_at_call 24; (with_reducible refine (ahead_any _ _ _ (by omega) (by omega) ?_).mono ?_); exact hT.keep SK.below; rintro e w2 ⟨rfl, rfl⟩)
        | ((with_reducible refine Calls.mono (HP.out set _ (by omega) ?_) ?_); exact hw.trans (SK.below.mono hs0); rintro e w2 ⟨rfl, hB⟩; have SK := SK.call hB; clear hB; have SKc := SK; obtain ⟨e0, e1, e2, e3, e4, e5, e6, f0, f1, l0, l1, hbb⟩ := SKc))
              go_roundw
              case rel => exact ⟨set + 1, by omega, by have := HL.out; omega, by go_num, by rw [HE.out]; exact SK⟩
              case measure => have := HL.out; simp [intOf]; omega
        · have hf' : fitsL zs 0 left set = false := by simpa using hf
          clear hpow hlt hf
          have HE := Lib.hid (show seedS zs left P m (set + 1) = s by rw [HT.out, if_neg hm, if_neg (by simp [hf'])]; exact HSD.out.symm)
          go_wp2_with (first
        | (go_at_call 19; (with_reducible refine (ones_any _ _ (by omega)).mono ?_); rintro e w2 ⟨rfl, q, rfl⟩; have SK := SK.drewN q)
        | (go_at_call 20; (with_reducible refine (fits_all _ _ _ _ _ _ _ hl (by omega) h0 h1 ?_).mono ?_); exact hz.keep SK.below; rintro e w2 ⟨rfl, hB⟩; have SK := SK.call hB; clear hB; have SKc := SK; obtain ⟨e0, e1, e2, e3, e4, e5, e6, f0, f1, l0, l1, hbb⟩ := SKc)
        | (go_at_call 24; (with_reducible refine (ahead_any _ _ _ (by omega) (by omega) ?_).mono ?_); exact hT.keep SK.below; rintro e w2 ⟨rfl, rfl⟩)
        | ((with_reducible refine Calls.mono (HP.out set _ (by omega) ?_) ?_); exact hw.trans (SK.below.mono hs0); rintro e w2 ⟨rfl, hB⟩; have SK := SK.call hB; clear hB; have SKc := SK; obtain ⟨e0, e1, e2, e3, e4, e5, e6, f0, f1, l0, l1, hbb⟩ := SKc))
          go_roundw
          case rel => exact ⟨set + 1, by omega, by have := HL.out; omega, by go_num, by rw [HE.out]; exact SK⟩
          case measure => have := HL.out; simp [intOf]; omega
    · have hg : (2 : Int) ^ zs.length % 4294967296 ≤ set := by
        have e : (2 : Int) ^ zs.length = ((2 ^ zs.length : Nat) : Int) := by simp
        rw [e]; omega
      have HL := Lib.hid (show seedS zs left P m (2 ^ zs.length) = s by rw [HSD.out]; congr 1; omega)
      clear hpow hlt hs2
      go_wp2
      exact bodyPost_ret (v := .agg #[.int .u32 s, .int .i64 (P s)]) (by simp [results, Tryd.results18, go_sem, e3, e4]) rfl ⟨by rw [HL.out], by go_grown⟩
end Go.Proofs.YteckfakabaiipaaDoor
