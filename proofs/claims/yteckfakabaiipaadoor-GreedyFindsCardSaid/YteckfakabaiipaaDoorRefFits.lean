/- The walk of the document's Fits. -/
import Derived.Test.YteckfakabaiipaaDoorRef
namespace Go.Proofs.YteckfakabaiipaaDoor
open Go.RowKit

/-- what is known of the world behind the problem's box -/
def ProbKept (w w' : World) (sl pl : Value) (budget : Int) : Prop :=
  w'.cell? ⟨w.heap.size, 0, none⟩ = some sl ∧ w'.cell? ⟨w.heap.size, 1, none⟩ = some (.int .i64 budget) ∧ w'.cell? ⟨w.heap.size, 2, none⟩ = some pl ∧ w.heap.size < w'.heap.size ∧ Below w.heap.size w w'
theorem ProbKept.below {w w' : World} {sl pl : Value} {budget : Int} (h : ProbKept w w' sl pl budget) : Below w.heap.size w w' := h.2.2.2.2
theorem ProbKept.call {w w' w2 : World} {sl pl : Value} {budget : Int} (h : ProbKept w w' sl pl budget) (hB : Below w'.heap.size w' w2) : ProbKept w w2 sl pl budget := by
  obtain ⟨e0, e1, e2, l0, hb⟩ := h
  have hl : ∀ o, w2.cell? ⟨w.heap.size, o, none⟩ = w'.cell? ⟨w.heap.size, o, none⟩ := fun o => hB.cell (p := ⟨w.heap.size, o, none⟩) l0
  have hz := hB.size
  exact ⟨(hl _).trans e0, (hl _).trans e1, (hl _).trans e2, by omega, hb.trans (hB.mono (by omega))⟩
theorem ProbKept.drewN {w w' : World} {sl pl : Value} {budget : Int} (h : ProbKept w w' sl pl budget) (q : Nat) : ProbKept w (w'.drewN q) sl pl budget := h.call (below_drewN (Below.refl _ _) q)
theorem ProbKept.start (w : World) (sl pl : Value) (budget : Int) : ProbKept w (w.alloc (.cells #[sl, .int .i64 budget, pl] 37)) sl pl budget := by
  have q := heap_alloc_new w (.cells #[sl, .int .i64 budget, pl] 37)
  refine ⟨?_, ?_, ?_, by simp, (Below.refl _ _).alloc (Nat.le_refl _) _⟩
  all_goals (rw [cell_of_row _ _ _ _ _ _ q]; rfl)

theorem fitsR_at (zs : List Int) (l : List Nat) (j : Nat) (L : Int) (h : j < l.length) : fitsR zs (l.drop j) L = if zs.getD l[j] 0 < 0 ∨ L < zs.getD l[j] 0 then false else fitsR zs (l.drop (j + 1)) (L - zs.getD l[j] 0) := by
  rw [List.drop_eq_getElem_cons h]; rfl

set_option maxHeartbeats 2000000 in
theorem fitsr_any (sa A : Option Addr) (n c m c2 B : Nat) (zs : List Int) (l : List Nat) (budget : Int) (pl : Value) (w : World) (hz : IntsAt w sa zs) (hzn : Hid (zs.length = n)) (hs : Src w B A m c2 (thingsV l)) (hB : B ≤ w.heap.size)
    (hl : ∀ x ∈ l, x < n) (hm16 : m ≤ 16) (_hn16 : n ≤ 16) (h0 : 0 ≤ budget) (h1 : budget ≤ 9223372036854775807) :
    Calls Tryd.prog 23 #[.agg #[.slice sa n c, .int .i64 budget, pl], .slice A m c2] w (RetV (.bool (fitsR zs l budget)) w) := by
  have KK := ProbKept.start w (.slice sa n c) pl budget
  have HM := Lib.hid (show l.length = m by rw [← thingsV_length]; exact hs.length)
  have HS := Lib.hid (fun w' (h : Below w.heap.size w w') => hs.keep (h.mono hB))
  have HL := Lib.hid hl
  clear hs hl
  go_enter Tryd.func23, Tryd.ntmps23
  have KKc := KK
  obtain ⟨e0, e1, e2, l0, hbb⟩ := KKc
  go_wp2
  clear e0 e1 e2 l0 hbb
  go_loopw [5, 6] (fun t i wr => ∃ (j : Nat) (L : Int), j ≤ m ∧ i = .int .i64 j ∧ t = .int .i64 L ∧ 0 ≤ L ∧ L ≤ 9223372036854775807 ∧ Hid (fitsR zs (l.drop j) L = fitsR zs l budget) ∧ ProbKept w wr (.slice sa n c) pl budget) (fun _ i _ => m - (intOf i).toNat)
  case atStart => exact ⟨0, budget, Nat.zero_le _, rfl, rfl, h0, h1, Lib.hid rfl, KK⟩
  case round =>
    clear KK
    obtain ⟨j, L, hj, rfl, rfl, hL0, hL1, HI, KK⟩ := hrel
    have KKc := KK
    obtain ⟨e0, e1, e2, l0, hbb⟩ := KKc
    by_cases hlt : j < m
    · have hjl : j < l.length := by rw [HM.out]; exact hlt
      rcases HS.out wr hbb with ⟨_, h0, _⟩ | ⟨ad, rfl, _, _, _, hcs⟩
      · omega
      · have hcell := hcs j _ (thingsV_get l j hjl)
        have hx : l[j] < n := HL.out _ (List.getElem_mem _)
        have HT0 := fitsR_at zs l j L hjl
        obtain ⟨x, hxd⟩ : ∃ x, x = l[j] := ⟨_, rfl⟩
        rw [← hxd] at hcell hx HT0
        rcases hz.keep hbb with hz0 | ⟨b, off, rfl, hcz⟩
        · have := hzn.out; rw [hz0] at this; simp at this; omega
        · have hcell2 := hcz x (by rw [hzn.out]; exact hx)
          obtain ⟨z, hzd⟩ : ∃ z, z = zs.getD x 0 := ⟨_, rfl⟩
          rw [← hzd] at hcell2 HT0
          have HT := Lib.hid HT0
          clear HT0 hcs hxd hzd hcz hjl
          go_wp2_with fail
          go_quiet (fail)
          have KK := KK.drewN nq
          by_cases hneg : z < 0
          · have HF := Lib.hid (show fitsR zs l budget = false by rw [← HI.out, HT.out, if_pos (.inl hneg)])
            go_wp2_with fail
            go_ret
            exact ⟨ret_bool HF.out.symm, KK.below⟩
          · by_cases hbig : L < z
            · have HF := Lib.hid (show fitsR zs l budget = false by rw [← HI.out, HT.out, if_pos (.inr hbig)])
              go_wp2_with fail
              go_ret
              exact ⟨ret_bool HF.out.symm, KK.below⟩
            · go_wp2_with fail
              go_roundw
              case rel => exact ⟨j + 1, L - z, by omega, by go_num, rfl, by omega, by omega, Lib.hid (by rw [← HI.out, HT.out, if_neg (by omega)]), KK⟩
              case measure => simp [intOf]; omega
    · have HF := Lib.hid (show fitsR zs l budget = true by rw [← HI.out, List.drop_eq_nil_of_le (by rw [HM.out]; omega)]; rfl)
      go_wp2
      go_ret
      exact ⟨ret_bool HF.out.symm, KK.below⟩

/-- a price for each set, as it stands in memory -/
def PriceRow (w : World) (pb n : Nat) (P : Nat → Int) : Prop := ∀ s, s < 2 ^ n → w.cell? ⟨pb, s, none⟩ = some (.int .i64 (P s))
theorem PriceRow.keep {w w' : World} {pb n : Nat} {P : Nat → Int} (h : PriceRow w pb n P) (hB : Below w.heap.size w w') : PriceRow w' pb n P := fun s hs => by
  have hlt := World.block_lt_of_cell? w _ (h s hs)
  exact (hB.cell (p := ⟨pb, s, none⟩) hlt).trans (h s hs)
/-- the call returns a list of things, as a slice; of what was there nothing turns -/
def RetL (l : List Nat) (w : World) (e : Ending) (w' : World) : Prop := ∃ A c, e = .returned (.slice A l.length c) ∧ Src w' w'.heap.size A l.length c (thingsV l) ∧ Below w.heap.size w w'
end Go.Proofs.YteckfakabaiipaaDoor
