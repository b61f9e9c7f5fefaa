/- The walks of Places, the program's and the document's. The walk of the document's Places. The walk of cloneIndex; a row of indexes of the call's own. The second loop of Clone: what holds in it. -/
import Derived.Test.YtcgpflkaejbkhaaGreatDoorJQ
import Derived.Deep.QuietTactic
import Derived.BigQuiet
namespace Go.Proofs.YtcgpflkaejbkhaaGreatDoor
open Go.RowKit

/-- numbers that a slice reads as -/
def IntsAt (w : World) (A : Option Addr) (l : List Int) : Prop := l.length ≤ maxLen ∧ (l = [] ∨ ∃ b off, A = some ⟨b, off, none⟩ ∧ b < w.heap.size ∧ ∀ (j : Nat) (z : Int), l[j]? = some z → w.cell? ⟨b, off + j, none⟩ = some (.int .i64 z))
theorem IntsAt.keep {w w' : World} (hB : Below w.heap.size w w') {A : Option Addr} {l : List Int} (h : IntsAt w A l) : IntsAt w' A l :=
  ⟨h.1, h.2.imp id fun ⟨b, off, h1, h2, h3⟩ => ⟨b, off, h1, Nat.lt_of_lt_of_le h2 hB.size, fun j z hz => (hB.cell (p := ⟨b, off + j, none⟩) h2).trans (h3 j z hz)⟩⟩
/-- why places may not be an index's, from one on -/
def placesErr (nc : Int) (l : List Int) : Nat → Nat → Int
  | 0, _ => 0
  | f + 1, k => match l[k]? with
    | none => 0
    | some z => if z < 0 ∨ nc ≤ z then 131 else if (l.take k).contains z then 8 else placesErr nc l f (k + 1)
def placesR (nc : Int) (l : List Int) : Int := if l = [] then 7 else if 3 < l.length then 11 else placesErr nc l (l.length + 1) 0
set_option maxRecDepth 100000 in
set_option maxHeartbeats 8000000 in
theorem places_any (tn : ByteArray) (ca : Option Addr) (cn cc : Nat) (tr tx tw : Int) (A : Option Addr) (c : Nat) (l : List Int) (w : World) (h : IntsAt w A l) (hc : l.length ≤ c) : Calls Tryz.prog 22 #[.agg #[.string tn, .slice ca cn cc, .int .i64 tr, .int .i64 tx, .int .i64 tw], .slice A l.length c] w (RetV (.int .i64 (placesR cn l)) w) := by
  have HA := Lib.hid h
  have hlen := h.1
  unfold maxLen at hlen
  clear h
  have hbel := below1 w (.cells #[.string tn, .slice ca cn cc, .int .i64 tr, .int .i64 tx, .int .i64 tw] 25)
  have HB := Lib.hid hbel
  clear hbel
  by_cases h0 : l.length = 0
  · have HE := Lib.hid (show placesR cn l = 7 by unfold placesR; rw [if_pos (List.length_eq_zero_iff.1 h0)])
    generalize placesR cn l = R at HE ⊢
    have hl : ((l.length : Nat) : Int) = 0 := by omega
    go_enter Tryz.func22, Tryz.ntmps22
    go_wp2_with fail
    go_ret
    exact ⟨by rw [HE.out]; rfl, HB.out⟩
  · have hl : (((l.length : Nat) : Int) == 0) = false := by rw [beq_eq_false_iff_ne]; omega
    by_cases h3 : 3 < l.length
    · have HE := Lib.hid (show placesR cn l = 11 by unfold placesR; rw [if_neg (fun h => h0 (by rw [h]; rfl)), if_pos h3])
      generalize placesR cn l = R at HE ⊢
      go_enter Tryz.func22, Tryz.ntmps22
      go_wp2_with fail
      go_ret
      exact ⟨by rw [HE.out]; rfl, HB.out⟩
    · have HE := Lib.hid (show placesR cn l = placesErr cn l (l.length + 1) 0 by unfold placesR; rw [if_neg (fun h => h0 (by rw [h]; rfl)), if_neg h3])
      generalize placesR cn l = R at HE ⊢
      obtain ⟨n, hn⟩ : ∃ n, n = l.length := ⟨_, rfl⟩
      have HN := Lib.hid hn
      rw [← hn] at HE hl hlen h0 h3 hc ⊢
      clear hn
      go_enter Tryz.func22, Tryz.ntmps22
      go_wp2_with fail
      go_loop [15] (fun i => ∃ k : Nat, k ≤ n ∧ i = .int .i64 k ∧ Hid (R = placesErr cn l (n + 1 - k) k)) (fun i => n - (intOf i).toNat)
      case atStart => exact ⟨0, Nat.zero_le _, rfl, HE⟩
      case round =>
        obtain ⟨k, hk, rfl, HR⟩ := hrel
        by_cases hlt : k < n
        · obtain ⟨z, hz⟩ : ∃ z, l[k]? = some z := ⟨_, List.getElem?_eq_getElem (by have := HN.out; omega)⟩
          rcases HA.out.2 with h0' | ⟨b, off, rfl, hbl, hcells⟩
          · exfalso; subst h0'; simp at hz
          · have hcell := (HB.out.cell (p := ⟨b, off + k, none⟩) hbl).trans (hcells k z hz)
            have HST := Lib.hid (show R = if z < 0 ∨ (cn : Int) ≤ z then 131 else if (l.take k).contains z then 8 else placesErr cn l (n + 1 - (k + 1)) (k + 1) by
              rw [HR.out, show n + 1 - k = (n - k) + 1 by omega]
              conv => lhs; unfold placesErr
              rw [hz, show n + 1 - (k + 1) = n - k by omega])
            have HCT := Lib.hid (show Calls Tryz.prog 48 #[.slice (some ⟨b, off, none⟩) k c, .int .i64 z] (w.alloc (.cells #[.string tn, .slice ca cn cc, .int .i64 tr, .int .i64 tx, .int .i64 tw] 25)) (SameV (.bool ((l.take k).contains z)) (w.alloc (.cells #[.string tn, .slice ca cn cc, .int .i64 tr, .int .i64 tx, .int .i64 tw] 25))) from
              (Tryz.slices_Contains_int b off k c l z _ (by have := HN.out; omega) (by omega) (fun j hj => by
                have hj2 := List.getElem?_eq_getElem hj
                rw [List.getD_eq_getElem?_getD, hj2]
                exact (HB.out.cell (p := ⟨b, off + j, none⟩) hbl).trans (hcells j _ hj2))).mono (fun e w' h => ⟨h.1, h.2.symm⟩))
            obtain ⟨cb, hcb⟩ : ∃ cb, cb = (l.take k).contains z := ⟨_, rfl⟩
            rw [← hcb] at HST HCT
            have hkc : k ≤ c := by omega
            clear hz hcells hcb
            by_cases hneg : z < 0
            · have HE0 := Lib.hid (show R = 131 by rw [HST.out, if_pos (Or.inl hneg)])
              have hz1 : (z < 0) = True := eq_true hneg
              go_wp2_with fail
              go_ret
              exact ⟨by rw [HE0.out]; rfl, HB.out⟩
            · have hz1 : (z < 0) = False := eq_false hneg
              by_cases hbig : (cn : Int) ≤ z
              · have HE0 := Lib.hid (show R = 131 by rw [HST.out, if_pos (Or.inr hbig)])
                have hz2 : ((cn : Int) ≤ z) = True := eq_true hbig
                go_wp2_with fail
                go_ret
                exact ⟨by rw [HE0.out]; rfl, HB.out⟩
              · have hz2 : ((cn : Int) ≤ z) = False := eq_false hbig
                cases cb with
                | true =>
                  have HE0 := Lib.hid (show R = 8 by rw [HST.out, if_neg (fun h => h.elim hneg hbig), if_pos rfl])
                  go_wp2_with (first
                    | (go_at_call 48; (with_reducible refine HCT.out.mono ?_); rintro e w5 ⟨rfl, rfl⟩)
                    | fail)
                  go_ret
                  exact ⟨by rw [HE0.out]; rfl, HB.out⟩
                | false =>
                  have HE0 := Lib.hid (show R = placesErr cn l (n + 1 - (k + 1)) (k + 1) by rw [HST.out, if_neg (fun h => h.elim hneg hbig), if_neg (by decide)])
                  go_wp2_with (first
                    | (go_at_call 48; (with_reducible refine HCT.out.mono ?_); rintro e w5 ⟨rfl, rfl⟩)
                    | fail)
                  go_round
                  case rel => exact ⟨k + 1, by omega, by go_num, HE0⟩
                  case measure => simp [intOf] <;> omega
        · have HE0 := Lib.hid (show R = 0 by
            rw [HR.out, show n + 1 - k = (n - k) + 1 by omega]
            unfold placesErr
            rw [List.getElem?_eq_none (by have := HN.out; omega)])
          go_wp2_with fail
          go_ret
          exact ⟨by rw [HE0.out]; rfl, HB.out⟩
end Go.Proofs.YtcgpflkaejbkhaaGreatDoor
namespace Go.Proofs.YtcgpflkaejbkhaaGreatDoor
open Go.RowKit

theorem below_drewN {B : Nat} {a w : World} (h : Below B a w) (n : Nat) : Below B a (w.drewN n) := by
  induction n with
  | zero => exact h
  | succ n ih => exact ih.drew
set_option maxRecDepth 100000 in
set_option maxHeartbeats 8000000 in
theorem rplaces_any (tn : ByteArray) (ca : Option Addr) (cn cc : Nat) (tr tx tw : Int) (A : Option Addr) (c : Nat) (l : List Int) (w : World) (h : IntsAt w A l) : Calls Tryz.prog 23 #[.agg #[.string tn, .slice ca cn cc, .int .i64 tr, .int .i64 tx, .int .i64 tw], .slice A l.length c] w (RetV (.int .i64 (placesR cn l)) w) := by
  have HA := Lib.hid h
  have hlen := h.1
  unfold maxLen at hlen
  clear h
  have hbel := below1 w (.cells #[.string tn, .slice ca cn cc, .int .i64 tr, .int .i64 tx, .int .i64 tw] 25)
  have HB0 := Lib.hid hbel
  have HQ0 := Lib.hid (heap_alloc_new w (.cells #[.string tn, .slice ca cn cc, .int .i64 tr, .int .i64 tx, .int .i64 tw] 25))
  clear hbel
  by_cases h0 : l.length = 0
  · have HE := Lib.hid (show placesR cn l = 7 by unfold placesR; rw [if_pos (List.length_eq_zero_iff.1 h0)])
    generalize placesR cn l = R at HE ⊢
    have hl : ((l.length : Nat) : Int) = 0 := by omega
    go_enter Tryz.func23, Tryz.ntmps23
    go_wp2_with fail
    go_ret
    exact ⟨by rw [HE.out]; rfl, HB0.out⟩
  · have hl : (((l.length : Nat) : Int) == 0) = false := by rw [beq_eq_false_iff_ne]; omega
    by_cases h3 : 3 < l.length
    · have HE := Lib.hid (show placesR cn l = 11 by unfold placesR; rw [if_neg (fun h => h0 (by rw [h]; rfl)), if_pos h3])
      generalize placesR cn l = R at HE ⊢
      go_enter Tryz.func23, Tryz.ntmps23
      go_wp2_with fail
      go_ret
      exact ⟨by rw [HE.out]; rfl, HB0.out⟩
    · have HE := Lib.hid (show placesR cn l = placesErr cn l (l.length + 1) 0 by unfold placesR; rw [if_neg (fun h => h0 (by rw [h]; rfl)), if_neg h3])
      generalize placesR cn l = R at HE ⊢
      obtain ⟨n, hn⟩ : ∃ n, n = l.length := ⟨_, rfl⟩
      have HN := Lib.hid hn
      rw [← hn] at HE hl hlen h0 h3 ⊢
      clear hn
      go_enter Tryz.func23, Tryz.ntmps23
      go_wp2_with fail
      go_loopw [5] (fun i wr => ∃ k : Nat, k ≤ n ∧ i = .int .i64 k ∧ Hid (Below (w.heap.size + 1) (w.alloc (.cells #[.string tn, .slice ca cn cc, .int .i64 tr, .int .i64 tx, .int .i64 tw] 25)) wr) ∧ Hid (R = placesErr cn l (n + 1 - k) k)) (fun i _ => n - (intOf i).toNat)
      case atStart => exact ⟨0, Nat.zero_le _, rfl, Lib.hid (Below.refl _ _), HE⟩
      case round =>
        obtain ⟨k, hk, rfl, HB, HR⟩ := hrel
        obtain ⟨wo, rfl⟩ : ∃ wo : World, wo = wr := ⟨_, rfl⟩
        have HBW := Lib.hid (HB0.out.trans (HB.out.mono (Nat.le_succ _)))
        have hq0 := (HB.out.block w.heap.size (Nat.lt_succ_self _)).trans HQ0.out
        have q1 := cell_of_row _ _ 1 _ _ _ hq0
        clear hq0
        by_cases hlt : k < n
        · obtain ⟨z, hz⟩ : ∃ z, l[k]? = some z := ⟨_, List.getElem?_eq_getElem (by have := HN.out; omega)⟩
          rcases HA.out.2 with h0' | ⟨b, off, rfl, hbl, hcells⟩
          · exfalso; subst h0'; simp at hz
          · have hcell := (HBW.out.cell (p := ⟨b, off + k, none⟩) hbl).trans (hcells k z hz)
            have HST := Lib.hid (show R = if z < 0 ∨ (cn : Int) ≤ z then 131 else if (l.take k).contains z then 8 else placesErr cn l (n + 1 - (k + 1)) (k + 1) by
              rw [HR.out, show n + 1 - k = (n - k) + 1 by omega]
              conv => lhs; unfold placesErr
              rw [hz, show n + 1 - (k + 1) = n - k by omega])
            have HCE := Lib.hid hcells
            have hlk : ((k : Int) < (n : Int)) := by omega
            by_cases hneg : z < 0
            · have HE0 := Lib.hid (show R = 131 by rw [HST.out, if_pos (Or.inl hneg)])
              have hz1 : decide (z < 0) = true := decide_eq_true hneg
              clear hz hcells
              go_wp2_with fail
              go_quiet ((fail))
              go_wp2_with fail
              go_ret
              exact ⟨by rw [HE0.out]; rfl, HBW.out.trans (below_drewN ((Below.refl _ _).mono HBW.out.size) nq)⟩
            · have hz1 : decide (z < 0) = false := decide_eq_false hneg
              by_cases hbig : (cn : Int) ≤ z
              · have HE0 := Lib.hid (show R = 131 by rw [HST.out, if_pos (Or.inr hbig)])
                have hz2 : decide ((cn : Int) ≤ z) = true := decide_eq_true hbig
                clear hz hcells
                go_wp2_with fail
                go_quiet ((fail))
                go_wp2_with fail
                go_ret
                exact ⟨by rw [HE0.out]; rfl, HBW.out.trans (below_drewN ((Below.refl _ _).mono HBW.out.size) nq)⟩
              · have hz2 : decide ((cn : Int) ≤ z) = false := decide_eq_false hbig
                have HST := Lib.hid (show R = if (l.take k).contains z then 8 else placesErr cn l (n + 1 - (k + 1)) (k + 1) by rw [HST.out, if_neg (fun h => h.elim hneg hbig)])
                have HZ := Lib.hid hz
                clear hz hcells
                go_wp2_with fail
                go_quiet ((fail))
                go_wp2_with fail
                go_loopw [6] (fun i wr => ∃ j : Nat, j ≤ k ∧ i = .int .i64 j ∧ Hid (Below (w.heap.size + 1) (w.alloc (.cells #[.string tn, .slice ca cn cc, .int .i64 tr, .int .i64 tx, .int .i64 tw] 25)) wr) ∧ Hid (∀ i, i < j → l[i]? ≠ some z)) (fun i _ => k - (intOf i).toNat)
                case atStart => exact ⟨0, Nat.zero_le _, rfl, Lib.hid (HB.out.trans (below_drewN (Below.refl _ _) nq)), Lib.hid (fun i hi => absurd hi (Nat.not_lt_zero _))⟩
                case round =>
                  obtain ⟨j, hj, rfl, HBJ, HNO⟩ := hrel
                  obtain ⟨wi, rfl⟩ : ∃ wi : World, wi = wr := ⟨_, rfl⟩
                  have HBJW := Lib.hid (HB0.out.trans (HBJ.out.mono (Nat.le_succ _)))
                  by_cases hjk : j < k
                  · obtain ⟨y, hy⟩ : ∃ y, l[j]? = some y := ⟨_, List.getElem?_eq_getElem (by have := HN.out; omega)⟩
                    have hcy := (HBJW.out.cell (p := ⟨b, off + j, none⟩) hbl).trans (HCE.out j y hy)
                    have hcz := (HBJW.out.cell (p := ⟨b, off + k, none⟩) hbl).trans (HCE.out k z HZ.out)
                    have hjn : ((j : Int) < (n : Int)) := by omega
                    have hjk2 : ((j : Int) < (k : Int)) = True := eq_true (by omega)
                    clear q1 hcell
                    cases hyz : (y == z) with
                    | true =>
                      have HE0 := Lib.hid (show R = 8 by
                        rw [HST.out, if_pos]
                        rw [List.contains_iff_mem, List.mem_take_iff_getElem]
                        have e : y = z := by simpa using hyz
                        refine ⟨j, by have := HN.out; omega, ?_⟩
                        have := (List.getElem?_eq_some_iff.1 hy).2
                        rw [this, e])
                      clear hy
                      go_wp2_with fail
                      go_quiet ((fail))
                      go_wp2_with fail
                      go_ret
                      exact ⟨by rw [HE0.out]; rfl, HBJW.out.trans (below_drewN ((Below.refl _ _).mono HBJW.out.size) nq)⟩
                    | false =>
                      have HD := Lib.hid (show ∀ i, i < j + 1 → l[i]? ≠ some z from fun i hi => by
                        by_cases e : i = j
                        · rw [e, hy]
                          intro h
                          have : y = z := Option.some.inj h
                          rw [this] at hyz
                          simp at hyz
                        · exact HNO.out i (by omega))
                      clear hy
                      go_wp2_with fail
                      go_quiet ((fail))
                      go_wp2_with fail
                      go_roundw
                      case rel => exact ⟨j + 1, by omega, by go_num, Lib.hid (HBJ.out.trans (below_drewN (Below.refl _ _) nq)), HD⟩
                      case measure => simp [intOf] <;> omega
                  · have HE0 := Lib.hid (show R = placesErr cn l (n + 1 - (k + 1)) (k + 1) by
                      rw [HST.out, if_neg]
                      intro h
                      rw [List.contains_iff_mem, List.mem_take_iff_getElem] at h
                      obtain ⟨i, hi, e⟩ := h
                      exact HNO.out i (by omega) (by rw [List.getElem?_eq_getElem (by omega), e]))
                    go_wp2_with fail
                    go_roundw
                    case rel => exact ⟨k + 1, by omega, by go_num, HBJ, HE0⟩
                    case measure => simp [intOf] <;> omega
        · have HE0 := Lib.hid (show R = 0 by
            rw [HR.out, show n + 1 - k = (n - k) + 1 by omega]
            unfold placesErr
            rw [List.getElem?_eq_none (by have := HN.out; omega)])
          go_wp2_with fail
          go_ret
          exact ⟨by rw [HE0.out]; rfl, HBW.out⟩
end Go.Proofs.YtcgpflkaejbkhaaGreatDoor
namespace Go.Proofs.YtcgpflkaejbkhaaGreatDoor
open Go.RowKit

theorem info28 : (Tryz.prog.info? 28).map (fun i => (i.zero, i.size, i.bytes)) = some (some (.agg #[.string ⟨#[]⟩, .string ⟨#[]⟩, .slice none 0 0, .int .i64 0, .int .i64 0, .int .i64 0]), 6, 80) := by kernel_rfl
theorem idx_one (t : Idx) : ∀ u ∈ idxL t, u.oneCell' = true := by
  intro u hu
  unfold idxL at hu
  simp only [List.mem_cons, List.mem_nil_iff, or_false] at hu
  rcases hu with rfl | rfl | rfl | rfl | rfl | rfl <;> rfl
theorem idx_len (l : List Idx) : ∀ x ∈ l.map idxL, x.length = 6 := by
  intro x hx
  obtain ⟨c, _, rfl⟩ := List.mem_map.1 hx
  rfl
theorem IntsAt.setFar {w : World} {A : Option Addr} {l : List Int} (h : IntsAt w A l) (b j : Nat) (v : Value) (hb : ∀ a, A = some a → a.block ≠ b) : IntsAt (w.setCell ⟨b, j, none⟩ v) A l := by
  refine ⟨h.1, h.2.imp id fun ⟨g, off, h1, h2, h3⟩ => ⟨g, off, h1, by simp only [World.setCell, Array.size_modify]; exact h2, fun i z hz => ?_⟩⟩
  have hg : g ≠ b := hb ⟨g, off, none⟩ h1
  refine Eq.trans ?_ (h3 i z hz)
  unfold World.cell?
  rw [heap_setFar v hg]
theorem IntsAt.grown {w w' : World} {A : Option Addr} {l : List Int} (h : IntsAt w A l) {r : Option Nat} (hg : w.grownBy w' r) (hr : ∀ a, A = some a → r ≠ some a.block) : IntsAt w' A l := by
  refine ⟨h.1, h.2.imp id fun ⟨g, off, h1, h2, h3⟩ => ⟨g, off, h1, Nat.lt_of_lt_of_le h2 hg.size, fun i z hz => ?_⟩⟩
  refine Eq.trans ?_ (h3 i z hz)
  unfold World.cell?
  rw [hg.block g h2 (fun e => hr ⟨g, off, none⟩ h1 e.symm)]
/-- a row of the call's own of numbers reads as them -/
theorem own_ints {w : World} {base n : Nat} {v : Value} {l : List Int} (h : w.ownsRow base 3 1 v n (l.map (Value.int .i64))) (hn : n = l.length) : ∃ A c, v = .slice A n c ∧ n ≤ c ∧ IntsAt w A l ∧ (∀ a, A = some a → base ≤ a.block ∧ a.block < w.heap.size) ∧ (A = none → c = 0 ∧ l = []) := by
  rcases h.2 with ⟨rfl, h0⟩ | ⟨g, cap, cur, rfl, hb, hh, hnc, hcm, _, ht⟩
  · have : l = [] := List.length_eq_zero_iff.1 (by omega)
    subst this
    exact ⟨none, 0, by rw [h0], by omega, ⟨Nat.zero_le _, Or.inl rfl⟩, (fun a h => by cases h), fun _ => ⟨rfl, rfl⟩⟩
  · refine ⟨some ⟨g, 0, none⟩, cap, rfl, hnc, ⟨by rw [← hn]; omega, Or.inr ⟨g, 0, rfl, heap_lt hh, fun j z hz => ?_⟩⟩, (fun a h => by cases h; exact ⟨hb, heap_lt hh⟩), fun h => by cases h⟩
    have e : (l.map (Value.int .i64))[j]? = some (.int .i64 z) := by rw [List.getElem?_map, hz]; rfl
    rw [← ht] at e
    rw [cell_of_row w g _ _ _ _ hh]
    have hlt := (List.getElem?_eq_some_iff.1 e).1
    rw [List.length_take] at hlt
    rw [List.getElem?_take_of_lt (by omega)] at e
    rw [Nat.zero_add]
    simpa using e
/-- places in a row of the call's own -/
def IntsU (w : World) (A : Option Addr) (l : List Int) : Prop := IntsAt w A l ∧ Unf w A
theorem IntsU.keep {w w' : World} {A : Option Addr} {l : List Int} (hB : Below w.heap.size w w') (h : IntsU w A l) : IntsU w' A l := ⟨IntsAt.keep hB h.1, h.2.keep hB⟩
theorem IntsU.setFar {w : World} {A : Option Addr} {l : List Int} (h : IntsU w A l) (b j : Nat) (v : Value) (hb : ∀ a, A = some a → a.block ≠ b) : IntsU (w.setCell ⟨b, j, none⟩ v) A l := ⟨IntsAt.setFar h.1 b j v hb, h.2.set b j v⟩
theorem IntsU.grown {w w' : World} {A : Option Addr} {l : List Int} (h : IntsU w A l) {r : Option Nat} (hg : w.grownBy w' r) (hr : ∀ a, A = some a → r ≠ some a.block) : IntsU w' A l := ⟨IntsAt.grown h.1 hg hr, h.2.grown hg hr⟩
/-- what a clone of places answers -/
def ClonedI (w : World) (A : Option Addr) (l : List Int) (v : Value) (w' : World) : Prop := ∃ A' c', v = .slice A' l.length c' ∧ l.length ≤ c' ∧ IntsU w' A' l ∧ (∀ a, A' = some a → w.heap.size ≤ a.block ∧ a.block < w'.heap.size) ∧ (A' = none → c' = 0) ∧ (A' = none ↔ A = none)
theorem clone_ints (A : Option Addr) (c : Nat) (l : List Int) (w : World) (h : IntsAt w A l) (hA : A = none → l = [] ∧ c = 0) (hn : l.length ≤ 2000) : Calls Tryz.prog 69 #[.slice A l.length c] w fun e w' => ∃ v, e = .returned v ∧ Below w.heap.size w w' ∧ ClonedI w A l v w' := by
  cases A with
  | none =>
    obtain ⟨rfl, rfl⟩ := hA rfl
    refine (Tryz.slices_Clone_int_nil 0 0 w).mono fun e w' ⟨h1, h2⟩ => ?_
    subst h2
    exact ⟨_, h1, Below.refl _ _, none, 0, rfl, Nat.le_refl _, ⟨⟨Nat.zero_le _, Or.inl rfl⟩, Unf.nil _⟩, (fun a h => by cases h), fun _ => rfl, Iff.rfl⟩
  | some ad =>
    have fin : ∀ (v' : Value) (w' : World), w'.ownsRow w.heap.size 3 1 v' l.length (l.map (Value.int .i64)) → v' ≠ .slice none 0 0 → ClonedI w (some ad) l v' w' := fun v' w' h1 h2 => by
      obtain ⟨A', c', rfl, q1, q2, q3, q4⟩ := own_ints h1 rfl
      refine ⟨A', c', rfl, q1, ⟨q2, own_unf h1⟩, q3, fun h => (q4 h).1, ?_⟩
      constructor
      · intro h
        obtain ⟨e1, e2⟩ := q4 h
        subst h e1 e2
        exact absurd rfl h2
      · intro h; cases h
    rcases h.2 with h0 | ⟨b, off, h1, h2, h3⟩
    · subst h0
      exact (Tryz.slices_Clone_int_zero ad c w).mono fun e w' ⟨v', g1, g2, g3, g4⟩ => ⟨v', g1, g4, fin v' w' g2 g3⟩
    · cases h1
      refine (Tryz.slices_Clone_int b off l.length c l w (Nat.le_refl _) (by omega) (fun j hj => ?_)).mono fun e w' ⟨v', g1, g2, g3, g4⟩ => ⟨v', g1, g4, fin v' w' (by rw [List.take_length] at g2; exact g2) g3⟩
      have e := List.getElem?_eq_getElem hj
      rw [List.getD_eq_getElem?_getD, e]
      exact h3 j _ e
/-- an index whose places are a fresh copy -/
def IdxCopy (w : World) (t : Idx) (l : List Int) (t' : Idx) (w' : World) : Prop := t'.name = t.name ∧ t'.table = t.table ∧ t'.state = t.state ∧ t'.root = t.root ∧ t'.cursor = t.cursor ∧ t'.pn = l.length ∧ l.length ≤ t'.pc ∧ IntsU w' t'.pa l ∧ (∀ a, t'.pa = some a → w.heap.size ≤ a.block ∧ a.block < w'.heap.size) ∧ (t'.pa = none → t'.pc = 0) ∧ (t'.pa = none ↔ t.pa = none)
def FarI (w : World) (B : Nat) (A : Option Addr) (l : List Int) (W : World) : Prop := Below w.heap.size w W ∧ IntsU W A l ∧ (∀ a, A = some a → B ≤ a.block ∧ a.block < W.heap.size)
theorem FarI.set {w W : World} {B : Nat} {A : Option Addr} {l : List Int} (h : FarI w B A l W) (b j : Nat) (v : Value) (h1 : w.heap.size ≤ b) (h2 : b < B) : FarI w B A l (W.setCell ⟨b, j, none⟩ v) :=
  ⟨h.1.setCell (p := ⟨b, j, none⟩) h1 _, IntsU.setFar h.2.1 b j v (fun a ha => by have := h.2.2 a ha; omega), fun a ha => by simp only [World.setCell, Array.size_modify]; exact h.2.2 a ha⟩
set_option maxRecDepth 100000 in
set_option maxHeartbeats 4000000 in
theorem clone_idx (t : Idx) (l : List Int) (w : World) (h : IntsAt w t.pa l) (hl : t.pn = l.length) (hA : t.pa = none → l = [] ∧ t.pc = 0) (hn : l.length ≤ 2000) : Calls Tryz.prog 37 #[.agg (idxL t).toArray] w fun e w' => ∃ t', e = .returned (.agg (idxL t').toArray) ∧ Below w.heap.size w w' ∧ IdxCopy w t l t' w' := by
  obtain ⟨tn, tt, ta, tl, tc, tr, tx, ts⟩ := t
  obtain rfl : tl = l.length := hl
  show Calls Tryz.prog 37 #[.agg #[.string tn, .string tt, .slice ta l.length tc, .int .i64 tr, .int .i64 tx, .int .i64 ts]] w _
  have HC := Lib.hid (show ∀ W, Below w.heap.size w W → Calls Tryz.prog 69 #[.slice ta l.length tc] W fun e w' => ∃ v, e = .returned v ∧ Below W.heap.size W w' ∧ ClonedI W ta l v w' from fun W hB => clone_ints ta tc l W (IntsAt.keep hB h) hA hn)
  have HW := Lib.hid (show Below w.heap.size w ((w.alloc (.cells #[.string tn, .string tt, .slice ta l.length tc, .int .i64 tr, .int .i64 tx, .int .i64 ts] 28)).alloc (.cells #[.string ⟨#[]⟩, .string ⟨#[]⟩, .slice none 0 0, .int .i64 0, .int .i64 0, .int .i64 0] 28)) from (below1 w _).alloc (by simp) _)
  have h0 := heap_alloc_new (w.alloc (.cells #[.string tn, .string tt, .slice ta l.length tc, .int .i64 tr, .int .i64 tx, .int .i64 ts] 28)) (.cells #[.string ⟨#[]⟩, .string ⟨#[]⟩, .slice none 0 0, .int .i64 0, .int .i64 0, .int .i64 0] 28)
  rw [World.size_alloc] at h0
  have HQ1 := Lib.hid h0
  have HQ0 := Lib.hid (show ((w.alloc (.cells #[.string tn, .string tt, .slice ta l.length tc, .int .i64 tr, .int .i64 tx, .int .i64 ts] 28)).alloc (.cells #[.string ⟨#[]⟩, .string ⟨#[]⟩, .slice none 0 0, .int .i64 0, .int .i64 0, .int .i64 0] 28)).heap[w.heap.size]? = some (.cells #[.string tn, .string tt, .slice ta l.length tc, .int .i64 tr, .int .i64 tx, .int .i64 ts] 28) by rw [heap_alloc_old _ _ (by simp)]; exact heap_alloc_new w _)
  clear h hA h0
  go_enter Tryz.func37, Tryz.ntmps37
  go_wp2_with (first
    | (go_at_call 69; (with_reducible refine (HC.out _ HW.out).mono ?_); rintro e w2 ⟨v, rfl, hB, A', c', rfl, hq⟩
       have hq0 := (hB.block w.heap.size (by simp; omega)).trans HQ0.out
       have hq1 := (hB.block (w.heap.size + 1) (by simp)).trans HQ1.out
       have HB := Lib.hid (HW.out.trans (hB.mono HW.out.size))
       have HP := Lib.hid hq
       have r0 := cell_of_row _ _ 0 _ _ _ hq0
       have r1 := cell_of_row _ _ 1 _ _ _ hq0
       have r2 := cell_of_row _ _ 2 _ _ _ hq0
       have r3 := cell_of_row _ _ 3 _ _ _ hq0
       have r4 := cell_of_row _ _ 4 _ _ _ hq0
       have r5 := cell_of_row _ _ 5 _ _ _ hq0
       have g2 := frozen_of_row _ _ 2 _ _ hq0
       have s0 := cell_of_row _ _ 0 _ _ _ hq1
       have s1 := cell_of_row _ _ 1 _ _ _ hq1
       have s2 := cell_of_row _ _ 2 _ _ _ hq1
       have s3 := cell_of_row _ _ 3 _ _ _ hq1
       have s4 := cell_of_row _ _ 4 _ _ _ hq1
       have s5 := cell_of_row _ _ 5 _ _ _ hq1
       have f0 := frozen_of_row _ _ 0 _ _ hq1
       have f1 := frozen_of_row _ _ 1 _ _ hq1
       have f2 := frozen_of_row _ _ 2 _ _ hq1
       have f3 := frozen_of_row _ _ 3 _ _ hq1
       have f4 := frozen_of_row _ _ 4 _ _ hq1
       have f5 := frozen_of_row _ _ 5 _ _ hq1
       clear hB hq hq0 hq1)
    | fail)
  refine bodyPost_ret (v := .agg #[.string tn, .string tt, .slice A' l.length c', .int .i64 tr, .int .i64 tx, .int .i64 ts]) (by simp [results, Tryz.results37, go_sem, s0, s1, s2, s3, s4, s5]) rfl ?_
  obtain ⟨p1, p2, p3, p4, p5⟩ := HP.out
  have hF : FarI w (w.heap.size + 2) A' l w2 := ⟨HB.out, p2, fun a ha => by have := p3 a ha; simp at this; omega⟩
  have hG := (((((((hF.set w.heap.size 2 (.slice A' l.length c') (Nat.le_refl _) (by omega)).set (w.heap.size + 1) 0 (.string tn) (by omega) (by omega)).set (w.heap.size + 1) 1 (.string tt) (by omega) (by omega)).set (w.heap.size + 1) 2 (.slice A' l.length c') (by omega) (by omega)).set (w.heap.size + 1) 3 (.int .i64 tr) (by omega) (by omega)).set (w.heap.size + 1) 4 (.int .i64 tx) (by omega) (by omega)).set (w.heap.size + 1) 5 (.int .i64 ts) (by omega) (by omega))
  exact ⟨⟨tn, tt, A', l.length, c', tr, tx, ts⟩, rfl, hG.1, rfl, rfl, rfl, rfl, rfl, rfl, p1, hG.2.1, fun a ha => by have := hG.2.2 a ha; omega, p4, p5⟩
end Go.Proofs.YtcgpflkaejbkhaaGreatDoor
namespace Go.Proofs.YtcgpflkaejbkhaaGreatDoor
open Go.RowKit

/-- one index more, as a step of a region that draws its order -/
theorem step_idx (w : World) {ops : Array Oper} {o : Oper} {a : Act} {K : Act → World → Prop} {Q : Exit → Act → World → Prop} {E : Prop} (hgd : o.guard = none) (s x : Operand)
    (ho : o.op = .call { callee := .builtin .append, args := #[s, x], argTypes := #[34, 34] }) (base : Nat) (v : Value) (n : Nat) (xs : List Value) (hv : a.eval s = v) (hown : w.ownsRow base 28 6 v n xs)
    (b c : Nat) (t : Idx) (hx : a.eval x = .slice (some ⟨b, 0, none⟩) 1 c) (hq : w.heap[b]? = some (.cells (idxL t).toArray 28)) (hl : n ≤ 2000) (hbase : base ≤ w.heap.size)
    (h : ∀ v' w', w'.ownsRow base 28 6 v' (n + 1) (xs ++ idxL t) → w.grownBy w' v.ownBlock → (v'.ownBlock = v.ownBlock ∨ v'.ownBlock = some w.heap.size) → K (a.put o.dst v') w') :
    if Region.wanted o (yielded ops a.tmps) = true then Oper.wp Tryz.prog o a w K Q else E := by
  have hw : Region.wanted o (yielded ops a.tmps) = true := by simp [Region.wanted, hgd]
  rw [if_pos hw]
  obtain ⟨i0, hi0, hz0, hz1, hz2⟩ := info_parts info28
  obtain ⟨v', w', hrun, g2, g3, _, g5⟩ := run_append_own_at (P := Tryz.prog) w base 34 o.type 28 i0 _ 6 80 Tryz.underlying34 hi0 hz0 hz1 hz2 rfl (by omega) v n xs hown ⟨b, 0, none⟩ 1 c (idxL t) rfl
    (fun j u hj => by
      rw [Addr.add_lit, Nat.zero_add, cell_of_row w b j _ _ _ hq]
      simpa using hj)
    (idx_one t) (by unfold maxLen; omega) (by omega) hbase
  unfold Oper.wp
  simp only [execOp, ho, resolve, invoke, builtin, Sem.run_bind, Sem.run_pure, Result.andThen_ok, List.map_toArray, List.map_cons, List.map_nil, hv, hx, hrun]
  exact h v' w' g2 g3 g5
/-- an index whose places are a copy of the call's own, apart from a row's block -/
def ICopyAt (base : Nat) (v : Value) (t : Idx) (l : List Int) (t' : Idx) (W : World) : Prop := t'.name = t.name ∧ t'.table = t.table ∧ t'.state = t.state ∧ t'.root = t.root ∧ t'.cursor = t.cursor ∧ t'.pn = l.length ∧ l.length ≤ t'.pc ∧ IntsU W t'.pa l ∧ (∀ a, t'.pa = some a → base ≤ a.block ∧ a.block < W.heap.size ∧ v.ownBlock ≠ some a.block) ∧ (t'.pa = none → t'.pc = 0) ∧ (t'.pa = none ↔ t.pa = none)
theorem ICopyAt.keep {base : Nat} {v : Value} {t t' : Idx} {l : List Int} {W W' : World} (h : ICopyAt base v t l t' W) (hB : Below W.heap.size W W') : ICopyAt base v t l t' W' := by
  obtain ⟨h1, h2, h3, h4, h5, h6, h7, h8, h9, h10⟩ := h
  exact ⟨h1, h2, h3, h4, h5, h6, h7, IntsU.keep hB h8, fun a ha => ⟨(h9 a ha).1, Nat.lt_of_lt_of_le (h9 a ha).2.1 hB.size, (h9 a ha).2.2⟩, h10⟩
theorem ICopyAt.setCell {base : Nat} {v : Value} {t t' : Idx} {l : List Int} {W : World} (h : ICopyAt base v t l t' W) (b j : Nat) (u : Value) (hb : b < base) : ICopyAt base v t l t' (W.setCell ⟨b, j, none⟩ u) := by
  obtain ⟨h1, h2, h3, h4, h5, h6, h7, h8, h9, h10⟩ := h
  refine ⟨h1, h2, h3, h4, h5, h6, h7, IntsU.setFar h8 b j u (fun a ha => by have := (h9 a ha).1; omega), fun a ha => ?_, h10⟩
  simp only [World.setCell, Array.size_modify]
  exact h9 a ha
theorem ICopyAt.grown {base : Nat} {v v' : Value} {t t' : Idx} {l : List Int} {W W' : World} (h : ICopyAt base v t l t' W) (hg : W.grownBy W' v.ownBlock) (hv : v'.ownBlock = v.ownBlock ∨ v'.ownBlock = some W.heap.size) : ICopyAt base v' t l t' W' := by
  obtain ⟨h1, h2, h3, h4, h5, h6, h7, h8, h9, h10⟩ := h
  refine ⟨h1, h2, h3, h4, h5, h6, h7, h8.grown hg (fun a ha => (h9 a ha).2.2), fun a ha => ⟨(h9 a ha).1, Nat.lt_of_lt_of_le (h9 a ha).2.1 hg.size, ?_⟩, h10⟩
  rcases hv with e | e
  · rw [e]; exact (h9 a ha).2.2
  · rw [e]
    intro e2
    have := (h9 a ha).2.1
    have := Option.some.inj e2
    omega
/-- the copies of the indexes so far, seen from the world at the second loop's start -/
structure ClInd (w W0 : World) (va : Option Addr) (n vc : Nat) (xs : List (Idx × List Int)) (W : World) (k : Nat) (ua : Option Addr) (uc : Nat) (outs : List Idx) : Prop where
  grown : W0.grownBy W (some (w.heap.size + 1 + 1))
  low : w.heap.size + 1 + 1 < W0.heap.size
  out : W.heap[w.heap.size + 1 + 1]? = some (.cells #[.slice va n vc, .slice ua k uc] 36)
  own : W.ownsRow W0.heap.size 28 6 (.slice ua k uc) k (outs.map idxL).flatten
  len : outs.length = k
  copy : ∀ (j : Nat) (t : Idx) (l : List Int), xs[j]? = some (t, l) → ∀ t', outs[j]? = some t' → ICopyAt W0.heap.size (.slice ua k uc) t l t' W
theorem ClInd.keep {w W0 : World} {va : Option Addr} {n vc : Nat} {xs : List (Idx × List Int)} {W W' : World} {k : Nat} {ua : Option Addr} {uc : Nat} {outs : List Idx} (h : ClInd w W0 va n vc xs W k ua uc outs) (hB : Below W.heap.size W W') : ClInd w W0 va n vc xs W' k ua uc outs :=
  ⟨h.grown.trans ⟨hB.os, hB.tape, hB.output, hB.size, fun b hb _ => hB.block b hb⟩, h.low, (hB.block _ (heap_lt h.out)).trans h.out, own_kept h.own hB (Nat.le_refl _), h.len, fun j t l hj t' ht => (h.copy j t l hj t' ht).keep hB⟩
theorem ClInd.start {w W0 : World} {va : Option Addr} {n vc : Nat} (xs : List (Idx × List Int)) (h : W0.heap[w.heap.size + 1 + 1]? = some (.cells #[.slice va n vc, .slice none 0 0] 36)) : ClInd w W0 va n vc xs W0 0 none 0 [] :=
  ⟨World.grownBy.refl _ _, heap_lt h, h, World.ownsRow_nil _ _ _ _, rfl, fun j t l _ t' ht => by simp at ht⟩
/-- behind one index more -/
theorem ClInd.more {w W0 : World} {va : Option Addr} {n vc : Nat} {xs : List (Idx × List Int)} {w5 w6 : World} {k : Nat} {ua : Option Addr} {uc : Nat} {outs : List Idx} {t' : Idx} {O : Obj} {g cap : Nat} (h : ClInd w W0 va n vc xs w5 k ua uc outs)
    (hown : w6.ownsRow W0.heap.size 28 6 (.slice (some ⟨g, 0, none⟩) (k + 1) cap) (k + 1) ((outs.map idxL).flatten ++ idxL t')) (hg : (w5.alloc O).grownBy w6 (Value.slice ua k uc).ownBlock)
    (hat : (Value.slice (some ⟨g, 0, none⟩) (k + 1) cap).ownBlock = (Value.slice ua k uc).ownBlock ∨ (Value.slice (some ⟨g, 0, none⟩) (k + 1) cap).ownBlock = some (w5.alloc O).heap.size)
    (hnew : ∀ (t : Idx) (l : List Int), xs[k]? = some (t, l) → ICopyAt W0.heap.size (.slice ua k uc) t l t' w5) :
    ClInd w W0 va n vc xs (w6.setCell ⟨w.heap.size + 1 + 1, 1, none⟩ (.slice (some ⟨g, 0, none⟩) (k + 1) cap)) (k + 1) (some ⟨g, 0, none⟩) cap (outs ++ [t']) ∧ w6.heap[w.heap.size + 1 + 1]? = some (.cells #[.slice va n vc, .slice ua k uc] 36) := by
  have hown0 := h.own
  have hlow := h.low
  have hlt := heap_lt h.out
  have hs5 := h.grown.size
  have hB : Below w5.heap.size w5 (w5.alloc O) := below1 w5 O
  have hfar : ∀ b, b < W0.heap.size → some b ≠ (Value.slice ua k uc).ownBlock := fun b hb e => by
    have := hown0.lt b e.symm
    omega
  have hold : ∀ b, b < W0.heap.size → w6.heap[b]? = w5.heap[b]? := fun b hb => (hg.block b (by simp; omega) (hfar b hb)).trans (hB.block b (by omega))
  have hout6 := (hold (w.heap.size + 1 + 1) hlow).trans h.out
  have hgb : W0.heap.size ≤ g := (hown.lt g rfl).1
  have hg06 : W0.grownBy w6 (some (w.heap.size + 1 + 1)) := ⟨hg.os.trans (hB.os.trans h.grown.os), hg.tape.trans (hB.tape.trans h.grown.tape), hg.output.trans (hB.output.trans h.grown.output), Nat.le_trans hs5 (Nat.le_trans hB.size hg.size), fun b hb hne => (hold b hb).trans (h.grown.block b hb hne)⟩
  refine ⟨⟨hg06.trans (grown_set _ _ _ _), hlow, ?_, ?_, by rw [List.length_append, h.len]; rfl, ?_⟩, hout6⟩
  · rw [setCell_eq_setRow w6 _ 1 _ 36 _ _ hout6]
    exact setRow_heap w6 _ _ _ 36 _ hout6
  · obtain ⟨q1, q2⟩ := hown
    refine ⟨by rw [List.map_append, List.flatten_append]; simpa using q1, q2.imp id fun ⟨g', cap', cur, e1, e2, e3, e4, e5, e6, e7⟩ => ⟨g', cap', cur, e1, e2, ?_, e4, e5, e6, by rw [List.map_append, List.flatten_append]; simpa using e7⟩⟩
    rw [heap_setFar _ (by omega)]; exact e3
  · intro j t l hj t'' ht
    refine ICopyAt.setCell ?_ _ _ _ hlow
    rcases Nat.lt_or_ge j outs.length with hjl | hjl
    · rw [List.getElem?_append_left hjl] at ht
      exact ((h.copy j t l hj t'' ht).keep hB).grown hg hat
    · have hj2 : j = k := by
        have := (List.getElem?_eq_some_iff.1 ht).1
        rw [List.length_append] at this
        have := h.len
        simp at *
        omega
      subst hj2
      rw [List.getElem?_append_right hjl, h.len, Nat.sub_self] at ht
      obtain rfl : t' = t'' := by simpa using ht
      exact ((hnew t l hj).keep hB).grown hg hat
/-- what is read of the indexes of a schema: their cells, their places -/
def DeepIx (w : World) (A : Option Addr) (xs : List (Idx × List Int)) : Prop := IdxsAt w A (xs.map Prod.fst) ∧ ∀ p ∈ xs, IntsAt w p.1.pa p.2 ∧ p.1.pn = p.2.length ∧ p.2.length ≤ p.1.pc ∧ (p.1.pa = none → p.1.pc = 0)
theorem DeepIx.keep {w w' : World} {A : Option Addr} {xs : List (Idx × List Int)} (hB : Below w.heap.size w w') (h : DeepIx w A xs) : DeepIx w' A xs :=
  ⟨CellsAt.keep hB h.1, fun p hp => ⟨IntsAt.keep hB (h.2 p hp).1, (h.2 p hp).2⟩⟩
end Go.Proofs.YtcgpflkaejbkhaaGreatDoor
