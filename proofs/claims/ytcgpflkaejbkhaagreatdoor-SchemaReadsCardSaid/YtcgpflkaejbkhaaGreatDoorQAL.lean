/- The walks of Places, the program's and the document's. -/
import Derived.Test.YtcgpflkaejbkhaaGreatDoorQAJ
import Derived.Test.YtcgpflkaejbkhaaGreatDoorQAB
import Derived.Deep.QuietTactic
import Derived.BigQuiet
import Derived.Deep.RegionLaw
import Derived.Deep.RegionHeld3
namespace Go.Proofs.YtcgpflkaejbkhaaGreatDoor
open Go.RowKit

def IntsAt (w : World) (A : Option Addr) (l : List Int) : Prop := l.length ≤ maxLen ∧ (l = [] ∨ ∃ b off, A = some ⟨b, off, none⟩ ∧ b < w.heap.size ∧ ∀ (j : Nat) (z : Int), l[j]? = some z → w.cell? ⟨b, off + j, none⟩ = some (.int .i64 z))
theorem IntsAt.keep {w w' : World} (hB : Below w.heap.size w w') {A : Option Addr} {l : List Int} (h : IntsAt w A l) : IntsAt w' A l :=
 ⟨h.1, h.2.imp id fun ⟨b, off, h1, h2, h3⟩ => ⟨b, off, h1, Nat.lt_of_lt_of_le h2 hB.size, fun j z hz => (hB.cell (p := ⟨b, off + j, none⟩) h2).trans (h3 j z hz)⟩⟩
def placesErr (nc : Int) (l : List Int) : Nat → Nat → Int
 | 0, _ => 0
 | f + 1, k => match l[k]? with
   | none => 0
   | some z => if z < 0 ∨ nc ≤ z then 131 else if (l.take k).contains z then 8 else placesErr nc l f (k + 1)
def placesR (nc : Int) (l : List Int) : Int := if l = [] then 7 else if 3 < l.length then 11 else placesErr nc l (l.length + 1) 0
set_option maxRecDepth 100000 in
set_option maxHeartbeats 8000000 in
theorem places_any (tn : ByteArray) (ca : Option Addr) (cn cc : Nat) (tr tx tw : Int) (A : Option Addr) (c : Nat) (l : List Int) (w : World) (h : IntsAt w A l) (hc : l.length ≤ c) : Calls Tryz.prog 22 #[.agg #[.string tn, .slice ca cn cc, .int .i64 tr, .int .i64 tx, .int .i64 tw], .slice A l.length c] w (RetV (.int .i64 (placesR cn l)) w) := by
 have HA := Lib.hid h
 have hlen := h.1
 unfold maxLen at hlen
 clear h
 have hbel := below1 w (.cells #[.string tn, .slice ca cn cc, .int .i64 tr, .int .i64 tx, .int .i64 tw] 25)
 have HB := Lib.hid hbel
 clear hbel
 by_cases h0 : l.length = 0
 · have HE := Lib.hid (show placesR cn l = 7 by unfold placesR; rw [if_pos (List.length_eq_zero_iff.1 h0)])
   generalize placesR cn l = R at HE ⊢
   have hl : ((l.length : Nat) : Int) = 0 := by omega
   go_enter Tryz.func22, Tryz.ntmps22
   go_wp2_with fail
   go_ret
   exact ⟨by rw [HE.out]; rfl, HB.out⟩
 · have hl : (((l.length : Nat) : Int) == 0) = false := by rw [beq_eq_false_iff_ne]; omega
   by_cases h3 : 3 < l.length
   · have HE := Lib.hid (show placesR cn l = 11 by unfold placesR; rw [if_neg (fun h => h0 (by rw [h]; rfl)), if_pos h3])
     generalize placesR cn l = R at HE ⊢
     go_enter Tryz.func22, Tryz.ntmps22
     go_wp2_with fail
     go_ret
     exact ⟨by rw [HE.out]; rfl, HB.out⟩
   · have HE := Lib.hid (show placesR cn l = placesErr cn l (l.length + 1) 0 by unfold placesR; rw [if_neg (fun h => h0 (by rw [h]; rfl)), if_neg h3])
     generalize placesR cn l = R at HE ⊢
     obtain ⟨n, hn⟩ : ∃ n, n = l.length := ⟨_, rfl⟩
     have HN := Lib.hid hn
     rw [← hn] at HE hl hlen h0 h3 hc ⊢
     clear hn
     go_enter Tryz.func22, Tryz.ntmps22
     go_wp2_with fail
     go_loop [15] (fun i => ∃ k : Nat, k ≤ n ∧ i = .int .i64 k ∧ Hid (R = placesErr cn l (n + 1 - k) k)) (fun i => n - (intOf i).toNat)
     case atStart => exact ⟨0, Nat.zero_le _, rfl, HE⟩
     case round =>
       obtain ⟨k, hk, rfl, HR⟩ := hrel
       by_cases hlt : k < n
       · obtain ⟨z, hz⟩ : ∃ z, l[k]? = some z := ⟨_, List.getElem?_eq_getElem (by have := HN.out; omega)⟩
         rcases HA.out.2 with h0' | ⟨b, off, rfl, hbl, hcells⟩
         · exfalso; subst h0'; simp at hz
         · have hcell := (HB.out.cell (p := ⟨b, off + k, none⟩) hbl).trans (hcells k z hz)
           have HST := Lib.hid (show R = if z < 0 ∨ (cn : Int) ≤ z then 131 else if (l.take k).contains z then 8 else placesErr cn l (n + 1 - (k + 1)) (k + 1) by
             rw [HR.out, show n + 1 - k = (n - k) + 1 by omega]
             conv => lhs; unfold placesErr
             rw [hz, show n + 1 - (k + 1) = n - k by omega])
           have HCT := Lib.hid (show Calls Tryz.prog 48 #[.slice (some ⟨b, off, none⟩) k c, .int .i64 z] (w.alloc (.cells #[.string tn, .slice ca cn cc, .int .i64 tr, .int .i64 tx, .int .i64 tw] 25)) (SameV (.bool ((l.take k).contains z)) (w.alloc (.cells #[.string tn, .slice ca cn cc, .int .i64 tr, .int .i64 tx, .int .i64 tw] 25))) from
             (Tryz.slices_Contains_int b off k c l z _ (by have := HN.out; omega) (by omega) (fun j hj => by
               have hj2 := List.getElem?_eq_getElem hj
               rw [List.getD_eq_getElem?_getD, hj2]
               exact (HB.out.cell (p := ⟨b, off + j, none⟩) hbl).trans (hcells j _ hj2))).mono (fun e w' h => ⟨h.1, h.2.symm⟩))
           obtain ⟨cb, hcb⟩ : ∃ cb, cb = (l.take k).contains z := ⟨_, rfl⟩
           rw [← hcb] at HST HCT
           have hkc : k ≤ c := by omega
           clear hz hcells hcb
           by_cases hneg : z < 0
           · have HE0 := Lib.hid (show R = 131 by rw [HST.out, if_pos (Or.inl hneg)])
             have hz1 : (z < 0) = True := eq_true hneg
             go_wp2_with fail
             go_ret
             exact ⟨by rw [HE0.out]; rfl, HB.out⟩
           · have hz1 : (z < 0) = False := eq_false hneg
             by_cases hbig : (cn : Int) ≤ z
             · have HE0 := Lib.hid (show R = 131 by rw [HST.out, if_pos (Or.inr hbig)])
               have hz2 : ((cn : Int) ≤ z) = True := eq_true hbig
               go_wp2_with fail
               go_ret
               exact ⟨by rw [HE0.out]; rfl, HB.out⟩
             · have hz2 : ((cn : Int) ≤ z) = False := eq_false hbig
               cases cb with
               | true =>
                 have HE0 := Lib.hid (show R = 8 by rw [HST.out, if_neg (fun h => h.elim hneg hbig), if_pos rfl])
                 go_wp2_with (first
                   | (go_at_call 48; (with_reducible refine HCT.out.mono ?_); rintro e w5 ⟨rfl, rfl⟩)
                   | fail)
                 go_ret
                 exact ⟨by rw [HE0.out]; rfl, HB.out⟩
               | false =>
                 have HE0 := Lib.hid (show R = placesErr cn l (n + 1 - (k + 1)) (k + 1) by rw [HST.out, if_neg (fun h => h.elim hneg hbig), if_neg (by decide)])
                 go_wp2_with (first
                   | (go_at_call 48; (with_reducible refine HCT.out.mono ?_); rintro e w5 ⟨rfl, rfl⟩)
                   | fail)
                 go_round
                 case rel => exact ⟨k + 1, by omega, by go_num, HE0⟩
                 case measure => simp [intOf] <;> omega
       · have HE0 := Lib.hid (show R = 0 by
           rw [HR.out, show n + 1 - k = (n - k) + 1 by omega]
           unfold placesErr
           rw [List.getElem?_eq_none (by have := HN.out; omega)])
         go_wp2_with fail
         go_ret
         exact ⟨by rw [HE0.out]; rfl, HB.out⟩
end Go.Proofs.YtcgpflkaejbkhaaGreatDoor
namespace Go.Proofs.YtcgpflkaejbkhaaGreatDoor
open Go.RowKit

theorem below_drewN {B : Nat} {a w : World} (h : Below B a w) (n : Nat) : Below B a (w.drewN n) := by
 induction n with
 | zero => exact h
 | succ n ih => exact ih.drew
set_option maxRecDepth 100000 in
set_option maxHeartbeats 8000000 in
theorem rplaces_any (tn : ByteArray) (ca : Option Addr) (cn cc : Nat) (tr tx tw : Int) (A : Option Addr) (c : Nat) (l : List Int) (w : World) (h : IntsAt w A l) : Calls Tryz.prog 23 #[.agg #[.string tn, .slice ca cn cc, .int .i64 tr, .int .i64 tx, .int .i64 tw], .slice A l.length c] w (RetV (.int .i64 (placesR cn l)) w) := by
 have HA := Lib.hid h
 have hlen := h.1
 unfold maxLen at hlen
 clear h
 have hbel := below1 w (.cells #[.string tn, .slice ca cn cc, .int .i64 tr, .int .i64 tx, .int .i64 tw] 25)
 have HB0 := Lib.hid hbel
 have HQ0 := Lib.hid (heap_alloc_new w (.cells #[.string tn, .slice ca cn cc, .int .i64 tr, .int .i64 tx, .int .i64 tw] 25))
 clear hbel
 by_cases h0 : l.length = 0
 · have HE := Lib.hid (show placesR cn l = 7 by unfold placesR; rw [if_pos (List.length_eq_zero_iff.1 h0)])
   generalize placesR cn l = R at HE ⊢
   have hl : ((l.length : Nat) : Int) = 0 := by omega
   go_enter Tryz.func23, Tryz.ntmps23
   go_wp2_with fail
   go_ret
   exact ⟨by rw [HE.out]; rfl, HB0.out⟩
 · have hl : (((l.length : Nat) : Int) == 0) = false := by rw [beq_eq_false_iff_ne]; omega
   by_cases h3 : 3 < l.length
   · have HE := Lib.hid (show placesR cn l = 11 by unfold placesR; rw [if_neg (fun h => h0 (by rw [h]; rfl)), if_pos h3])
     generalize placesR cn l = R at HE ⊢
     go_enter Tryz.func23, Tryz.ntmps23
     go_wp2_with fail
     go_ret
     exact ⟨by rw [HE.out]; rfl, HB0.out⟩
   · have HE := Lib.hid (show placesR cn l = placesErr cn l (l.length + 1) 0 by unfold placesR; rw [if_neg (fun h => h0 (by rw [h]; rfl)), if_neg h3])
     generalize placesR cn l = R at HE ⊢
     obtain ⟨n, hn⟩ : ∃ n, n = l.length := ⟨_, rfl⟩
     have HN := Lib.hid hn
     rw [← hn] at HE hl hlen h0 h3 ⊢
     clear hn
     go_enter Tryz.func23, Tryz.ntmps23
     go_wp2_with fail
     go_loopw [5] (fun i wr => ∃ k : Nat, k ≤ n ∧ i = .int .i64 k ∧ Hid (Below (w.heap.size + 1) (w.alloc (.cells #[.string tn, .slice ca cn cc, .int .i64 tr, .int .i64 tx, .int .i64 tw] 25)) wr) ∧ Hid (R = placesErr cn l (n + 1 - k) k)) (fun i _ => n - (intOf i).toNat)
     case atStart => exact ⟨0, Nat.zero_le _, rfl, Lib.hid (Below.refl _ _), HE⟩
     case round =>
       obtain ⟨k, hk, rfl, HB, HR⟩ := hrel
       obtain ⟨wo, rfl⟩ : ∃ wo : World, wo = wr := ⟨_, rfl⟩
       have HBW := Lib.hid (HB0.out.trans (HB.out.mono (Nat.le_succ _)))
       have hq0 := (HB.out.block w.heap.size (Nat.lt_succ_self _)).trans HQ0.out
       have q1 := cell_of_row _ _ 1 _ _ _ hq0
       clear hq0
       by_cases hlt : k < n
       · obtain ⟨z, hz⟩ : ∃ z, l[k]? = some z := ⟨_, List.getElem?_eq_getElem (by have := HN.out; omega)⟩
         rcases HA.out.2 with h0' | ⟨b, off, rfl, hbl, hcells⟩
         · exfalso; subst h0'; simp at hz
         · have hcell := (HBW.out.cell (p := ⟨b, off + k, none⟩) hbl).trans (hcells k z hz)
           have HST := Lib.hid (show R = if z < 0 ∨ (cn : Int) ≤ z then 131 else if (l.take k).contains z then 8 else placesErr cn l (n + 1 - (k + 1)) (k + 1) by
             rw [HR.out, show n + 1 - k = (n - k) + 1 by omega]
             conv => lhs; unfold placesErr
             rw [hz, show n + 1 - (k + 1) = n - k by omega])
           have HCE := Lib.hid hcells
           have hlk : ((k : Int) < (n : Int)) := by omega
           by_cases hneg : z < 0
           · have HE0 := Lib.hid (show R = 131 by rw [HST.out, if_pos (Or.inl hneg)])
             have hz1 : decide (z < 0) = true := decide_eq_true hneg
             clear hz hcells
             go_wp2_with fail
             go_quiet ((fail))
             go_wp2_with fail
             go_ret
             exact ⟨by rw [HE0.out]; rfl, HBW.out.trans (below_drewN ((Below.refl _ _).mono HBW.out.size) nq)⟩
           · have hz1 : decide (z < 0) = false := decide_eq_false hneg
             by_cases hbig : (cn : Int) ≤ z
             · have HE0 := Lib.hid (show R = 131 by rw [HST.out, if_pos (Or.inr hbig)])
               have hz2 : decide ((cn : Int) ≤ z) = true := decide_eq_true hbig
               clear hz hcells
               go_wp2_with fail
               go_quiet ((fail))
               go_wp2_with fail
               go_ret
               exact ⟨by rw [HE0.out]; rfl, HBW.out.trans (below_drewN ((Below.refl _ _).mono HBW.out.size) nq)⟩
             · have hz2 : decide ((cn : Int) ≤ z) = false := decide_eq_false hbig
               have HST := Lib.hid (show R = if (l.take k).contains z then 8 else placesErr cn l (n + 1 - (k + 1)) (k + 1) by rw [HST.out, if_neg (fun h => h.elim hneg hbig)])
               have HZ := Lib.hid hz
               clear hz hcells
               go_wp2_with fail
               go_quiet ((fail))
               go_wp2_with fail
               go_loopw [6] (fun i wr => ∃ j : Nat, j ≤ k ∧ i = .int .i64 j ∧ Hid (Below (w.heap.size + 1) (w.alloc (.cells #[.string tn, .slice ca cn cc, .int .i64 tr, .int .i64 tx, .int .i64 tw] 25)) wr) ∧ Hid (∀ i, i < j → l[i]? ≠ some z)) (fun i _ => k - (intOf i).toNat)
               case atStart => exact ⟨0, Nat.zero_le _, rfl, Lib.hid (HB.out.trans (below_drewN (Below.refl _ _) nq)), Lib.hid (fun i hi => absurd hi (Nat.not_lt_zero _))⟩
               case round =>
                 obtain ⟨j, hj, rfl, HBJ, HNO⟩ := hrel
                 obtain ⟨wi, rfl⟩ : ∃ wi : World, wi = wr := ⟨_, rfl⟩
                 have HBJW := Lib.hid (HB0.out.trans (HBJ.out.mono (Nat.le_succ _)))
                 by_cases hjk : j < k
                 · obtain ⟨y, hy⟩ : ∃ y, l[j]? = some y := ⟨_, List.getElem?_eq_getElem (by have := HN.out; omega)⟩
                   have hcy := (HBJW.out.cell (p := ⟨b, off + j, none⟩) hbl).trans (HCE.out j y hy)
                   have hcz := (HBJW.out.cell (p := ⟨b, off + k, none⟩) hbl).trans (HCE.out k z HZ.out)
                   have hjn : ((j : Int) < (n : Int)) := by omega
                   have hjk2 : ((j : Int) < (k : Int)) = True := eq_true (by omega)
                   clear q1 hcell
                   cases hyz : (y == z) with
                   | true =>
                     have HE0 := Lib.hid (show R = 8 by
                       rw [HST.out, if_pos]
                       rw [List.contains_iff_mem, List.mem_take_iff_getElem]
                       have e : y = z := by simpa using hyz
                       refine ⟨j, by have := HN.out; omega, ?_⟩
                       have := (List.getElem?_eq_some_iff.1 hy).2
                       rw [this, e])
                     clear hy
                     go_wp2_with fail
                     go_quiet ((fail))
                     go_wp2_with fail
                     go_ret
                     exact ⟨by rw [HE0.out]; rfl, HBJW.out.trans (below_drewN ((Below.refl _ _).mono HBJW.out.size) nq)⟩
                   | false =>
                     have HD := Lib.hid (show ∀ i, i < j + 1 → l[i]? ≠ some z from fun i hi => by
                       by_cases e : i = j
                       · rw [e, hy]
                         intro h
                         have : y = z := Option.some.inj h
                         rw [this] at hyz
                         simp at hyz
                       · exact HNO.out i (by omega))
                     clear hy
                     go_wp2_with fail
                     go_quiet ((fail))
                     go_wp2_with fail
                     go_roundw
                     case rel => exact ⟨j + 1, by omega, by go_num, Lib.hid (HBJ.out.trans (below_drewN (Below.refl _ _) nq)), HD⟩
                     case measure => simp [intOf] <;> omega
                 · have HE0 := Lib.hid (show R = placesErr cn l (n + 1 - (k + 1)) (k + 1) by
                     rw [HST.out, if_neg]
                     intro h
                     rw [List.contains_iff_mem, List.mem_take_iff_getElem] at h
                     obtain ⟨i, hi, e⟩ := h
                     exact HNO.out i (by omega) (by rw [List.getElem?_eq_getElem (by omega), e]))
                   go_wp2_with fail
                   go_roundw
                   case rel => exact ⟨k + 1, by omega, by go_num, HBJ, HE0⟩
                   case measure => simp [intOf] <;> omega
       · have HE0 := Lib.hid (show R = 0 by
           rw [HR.out, show n + 1 - k = (n - k) + 1 by omega]
           unfold placesErr
           rw [List.getElem?_eq_none (by have := HN.out; omega)])
         go_wp2_with fail
         go_ret
         exact ⟨by rw [HE0.out]; rfl, HBW.out⟩
end Go.Proofs.YtcgpflkaejbkhaaGreatDoor
namespace Go.Proofs.YtcgpflkaejbkhaaGreatDoor
open Go.RowKit

theorem info28 : (Tryz.prog.info? 28).map (fun i => (i.zero, i.size, i.bytes)) = some (some (.agg #[.string ⟨#[]⟩, .string ⟨#[]⟩, .slice none 0 0, .int .i64 0, .int .i64 0, .int .i64 0]), 6, 80) := by kernel_rfl
theorem idx_one (t : Idx) : ∀ u ∈ idxL t, u.oneCell' = true := by
 intro u hu
 unfold idxL at hu
 simp only [List.mem_cons, List.mem_nil_iff, or_false] at hu
 rcases hu with rfl | rfl | rfl | rfl | rfl | rfl <;> rfl
theorem idx_len (l : List Idx) : ∀ x ∈ l.map idxL, x.length = 6 := by
 intro x hx
 obtain ⟨c, _, rfl⟩ := List.mem_map.1 hx
 rfl
theorem IntsAt.setFar {w : World} {A : Option Addr} {l : List Int} (h : IntsAt w A l) (b j : Nat) (v : Value) (hb : ∀ a, A = some a → a.block ≠ b) : IntsAt (w.setCell ⟨b, j, none⟩ v) A l := by
 refine ⟨h.1, h.2.imp id fun ⟨g, off, h1, h2, h3⟩ => ⟨g, off, h1, by simp only [World.setCell, Array.size_modify]; exact h2, fun i z hz => ?_⟩⟩
 have hg : g ≠ b := hb ⟨g, off, none⟩ h1
 refine Eq.trans ?_ (h3 i z hz)
 unfold World.cell?
 rw [heap_setFar v hg]
theorem IntsAt.grown {w w' : World} {A : Option Addr} {l : List Int} (h : IntsAt w A l) {r : Option Nat} (hg : w.grownBy w' r) (hr : ∀ a, A = some a → r ≠ some a.block) : IntsAt w' A l := by
 refine ⟨h.1, h.2.imp id fun ⟨g, off, h1, h2, h3⟩ => ⟨g, off, h1, Nat.lt_of_lt_of_le h2 hg.size, fun i z hz => ?_⟩⟩
 refine Eq.trans ?_ (h3 i z hz)
 unfold World.cell?
 rw [hg.block g h2 (fun e => hr ⟨g, off, none⟩ h1 e.symm)]
theorem own_ints {w : World} {base n : Nat} {v : Value} {l : List Int} (h : w.ownsRow base 3 1 v n (l.map (Value.int .i64))) (hn : n = l.length) : ∃ A c, v = .slice A n c ∧ n ≤ c ∧ IntsAt w A l ∧ (∀ a, A = some a → base ≤ a.block ∧ a.block < w.heap.size) ∧ (A = none → c = 0 ∧ l = []) := by
 rcases h.2 with ⟨rfl, h0⟩ | ⟨g, cap, cur, rfl, hb, hh, hnc, hcm, _, ht⟩
 · have : l = [] := List.length_eq_zero_iff.1 (by omega)
   subst this
   exact ⟨none, 0, by rw [h0], by omega, ⟨Nat.zero_le _, Or.inl rfl⟩, (fun a h => by cases h), fun _ => ⟨rfl, rfl⟩⟩
 · refine ⟨some ⟨g, 0, none⟩, cap, rfl, hnc, ⟨by rw [← hn]; omega, Or.inr ⟨g, 0, rfl, heap_lt hh, fun j z hz => ?_⟩⟩, (fun a h => by cases h; exact ⟨hb, heap_lt hh⟩), fun h => by cases h⟩
   have e : (l.map (Value.int .i64))[j]? = some (.int .i64 z) := by rw [List.getElem?_map, hz]; rfl
   rw [← ht] at e
   rw [cell_of_row w g _ _ _ _ hh]
   have hlt := (List.getElem?_eq_some_iff.1 e).1
   rw [List.length_take] at hlt
   rw [List.getElem?_take_of_lt (by omega)] at e
   rw [Nat.zero_add]
   simpa using e
def IntsU (w : World) (A : Option Addr) (l : List Int) : Prop := IntsAt w A l ∧ Unf w A
theorem IntsU.keep {w w' : World} {A : Option Addr} {l : List Int} (hB : Below w.heap.size w w') (h : IntsU w A l) : IntsU w' A l := ⟨IntsAt.keep hB h.1, h.2.keep hB⟩
theorem IntsU.setFar {w : World} {A : Option Addr} {l : List Int} (h : IntsU w A l) (b j : Nat) (v : Value) (hb : ∀ a, A = some a → a.block ≠ b) : IntsU (w.setCell ⟨b, j, none⟩ v) A l := ⟨IntsAt.setFar h.1 b j v hb, h.2.set b j v⟩
theorem IntsU.grown {w w' : World} {A : Option Addr} {l : List Int} (h : IntsU w A l) {r : Option Nat} (hg : w.grownBy w' r) (hr : ∀ a, A = some a → r ≠ some a.block) : IntsU w' A l := ⟨IntsAt.grown h.1 hg hr, h.2.grown hg hr⟩
def ClonedI (w : World) (A : Option Addr) (l : List Int) (v : Value) (w' : World) : Prop := ∃ A' c', v = .slice A' l.length c' ∧ l.length ≤ c' ∧ IntsU w' A' l ∧ (∀ a, A' = some a → w.heap.size ≤ a.block ∧ a.block < w'.heap.size) ∧ (A' = none → c' = 0) ∧ (A' = none ↔ A = none)
theorem clone_ints (A : Option Addr) (c : Nat) (l : List Int) (w : World) (h : IntsAt w A l) (hA : A = none → l = [] ∧ c = 0) (hn : l.length ≤ 2000) : Calls Tryz.prog 69 #[.slice A l.length c] w fun e w' => ∃ v, e = .returned v ∧ Below w.heap.size w w' ∧ ClonedI w A l v w' := by
 cases A with
 | none =>
   obtain ⟨rfl, rfl⟩ := hA rfl
   refine (Tryz.slices_Clone_int_nil 0 0 w).mono fun e w' ⟨h1, h2⟩ => ?_
   subst h2
   exact ⟨_, h1, Below.refl _ _, none, 0, rfl, Nat.le_refl _, ⟨⟨Nat.zero_le _, Or.inl rfl⟩, Unf.nil _⟩, (fun a h => by cases h), fun _ => rfl, Iff.rfl⟩
 | some ad =>
   have fin : ∀ (v' : Value) (w' : World), w'.ownsRow w.heap.size 3 1 v' l.length (l.map (Value.int .i64)) → v' ≠ .slice none 0 0 → ClonedI w (some ad) l v' w' := fun v' w' h1 h2 => by
     obtain ⟨A', c', rfl, q1, q2, q3, q4⟩ := own_ints h1 rfl
     refine ⟨A', c', rfl, q1, ⟨q2, own_unf h1⟩, q3, fun h => (q4 h).1, ?_⟩
     constructor
     · intro h
       obtain ⟨e1, e2⟩ := q4 h
       subst h e1 e2
       exact absurd rfl h2
     · intro h; cases h
   rcases h.2 with h0 | ⟨b, off, h1, h2, h3⟩
   · subst h0
     exact (Tryz.slices_Clone_int_zero ad c w).mono fun e w' ⟨v', g1, g2, g3, g4⟩ => ⟨v', g1, g4, fin v' w' g2 g3⟩
   · cases h1
     refine (Tryz.slices_Clone_int b off l.length c l w (Nat.le_refl _) (by omega) (fun j hj => ?_)).mono fun e w' ⟨v', g1, g2, g3, g4⟩ => ⟨v', g1, g4, fin v' w' (by rw [List.take_length] at g2; exact g2) g3⟩
     have e := List.getElem?_eq_getElem hj
     rw [List.getD_eq_getElem?_getD, e]
     exact h3 j _ e
def IdxCopy (w : World) (t : Idx) (l : List Int) (t' : Idx) (w' : World) : Prop := t'.name = t.name ∧ t'.table = t.table ∧ t'.state = t.state ∧ t'.root = t.root ∧ t'.cursor = t.cursor ∧ t'.pn = l.length ∧ l.length ≤ t'.pc ∧ IntsU w' t'.pa l ∧ (∀ a, t'.pa = some a → w.heap.size ≤ a.block ∧ a.block < w'.heap.size) ∧ (t'.pa = none → t'.pc = 0) ∧ (t'.pa = none ↔ t.pa = none)
def FarI (w : World) (B : Nat) (A : Option Addr) (l : List Int) (W : World) : Prop := Below w.heap.size w W ∧ IntsU W A l ∧ (∀ a, A = some a → B ≤ a.block ∧ a.block < W.heap.size)
theorem FarI.set {w W : World} {B : Nat} {A : Option Addr} {l : List Int} (h : FarI w B A l W) (b j : Nat) (v : Value) (h1 : w.heap.size ≤ b) (h2 : b < B) : FarI w B A l (W.setCell ⟨b, j, none⟩ v) :=
 ⟨h.1.setCell (p := ⟨b, j, none⟩) h1 _, IntsU.setFar h.2.1 b j v (fun a ha => by have := h.2.2 a ha; omega), fun a ha => by simp only [World.setCell, Array.size_modify]; exact h.2.2 a ha⟩
set_option maxRecDepth 100000 in
set_option maxHeartbeats 4000000 in
theorem clone_idx (t : Idx) (l : List Int) (w : World) (h : IntsAt w t.pa l) (hl : t.pn = l.length) (hA : t.pa = none → l = [] ∧ t.pc = 0) (hn : l.length ≤ 2000) : Calls Tryz.prog 37 #[.agg (idxL t).toArray] w fun e w' => ∃ t', e = .returned (.agg (idxL t').toArray) ∧ Below w.heap.size w w' ∧ IdxCopy w t l t' w' := by
 obtain ⟨tn, tt, ta, tl, tc, tr, tx, ts⟩ := t
 obtain rfl : tl = l.length := hl
 show Calls Tryz.prog 37 #[.agg #[.string tn, .string tt, .slice ta l.length tc, .int .i64 tr, .int .i64 tx, .int .i64 ts]] w _
 have HC := Lib.hid (show ∀ W, Below w.heap.size w W → Calls Tryz.prog 69 #[.slice ta l.length tc] W fun e w' => ∃ v, e = .returned v ∧ Below W.heap.size W w' ∧ ClonedI W ta l v w' from fun W hB => clone_ints ta tc l W (IntsAt.keep hB h) hA hn)
 have HW := Lib.hid (show Below w.heap.size w ((w.alloc (.cells #[.string tn, .string tt, .slice ta l.length tc, .int .i64 tr, .int .i64 tx, .int .i64 ts] 28)).alloc (.cells #[.string ⟨#[]⟩, .string ⟨#[]⟩, .slice none 0 0, .int .i64 0, .int .i64 0, .int .i64 0] 28)) from (below1 w _).alloc (by simp) _)
 have h0 := heap_alloc_new (w.alloc (.cells #[.string tn, .string tt, .slice ta l.length tc, .int .i64 tr, .int .i64 tx, .int .i64 ts] 28)) (.cells #[.string ⟨#[]⟩, .string ⟨#[]⟩, .slice none 0 0, .int .i64 0, .int .i64 0, .int .i64 0] 28)
 rw [World.size_alloc] at h0
 have HQ1 := Lib.hid h0
 have HQ0 := Lib.hid (show ((w.alloc (.cells #[.string tn, .string tt, .slice ta l.length tc, .int .i64 tr, .int .i64 tx, .int .i64 ts] 28)).alloc (.cells #[.string ⟨#[]⟩, .string ⟨#[]⟩, .slice none 0 0, .int .i64 0, .int .i64 0, .int .i64 0] 28)).heap[w.heap.size]? = some (.cells #[.string tn, .string tt, .slice ta l.length tc, .int .i64 tr, .int .i64 tx, .int .i64 ts] 28) by rw [heap_alloc_old _ _ (by simp)]; exact heap_alloc_new w _)
 clear h hA h0
 go_enter Tryz.func37, Tryz.ntmps37
 go_wp2_with (first
   | (go_at_call 69; (with_reducible refine (HC.out _ HW.out).mono ?_); rintro e w2 ⟨v, rfl, hB, A', c', rfl, hq⟩
      have hq0 := (hB.block w.heap.size (by simp; omega)).trans HQ0.out
      have hq1 := (hB.block (w.heap.size + 1) (by simp)).trans HQ1.out
      have HB := Lib.hid (HW.out.trans (hB.mono HW.out.size))
      have HP := Lib.hid hq
      have r0 := cell_of_row _ _ 0 _ _ _ hq0
      have r1 := cell_of_row _ _ 1 _ _ _ hq0
      have r2 := cell_of_row _ _ 2 _ _ _ hq0
      have r3 := cell_of_row _ _ 3 _ _ _ hq0
      have r4 := cell_of_row _ _ 4 _ _ _ hq0
      have r5 := cell_of_row _ _ 5 _ _ _ hq0
      have g2 := frozen_of_row _ _ 2 _ _ hq0
      have s0 := cell_of_row _ _ 0 _ _ _ hq1
      have s1 := cell_of_row _ _ 1 _ _ _ hq1
      have s2 := cell_of_row _ _ 2 _ _ _ hq1
      have s3 := cell_of_row _ _ 3 _ _ _ hq1
      have s4 := cell_of_row _ _ 4 _ _ _ hq1
      have s5 := cell_of_row _ _ 5 _ _ _ hq1
      have f0 := frozen_of_row _ _ 0 _ _ hq1
      have f1 := frozen_of_row _ _ 1 _ _ hq1
      have f2 := frozen_of_row _ _ 2 _ _ hq1
      have f3 := frozen_of_row _ _ 3 _ _ hq1
      have f4 := frozen_of_row _ _ 4 _ _ hq1
      have f5 := frozen_of_row _ _ 5 _ _ hq1
      clear hB hq hq0 hq1)
   | fail)
 refine bodyPost_ret (v := .agg #[.string tn, .string tt, .slice A' l.length c', .int .i64 tr, .int .i64 tx, .int .i64 ts]) (by simp [results, Tryz.results37, go_sem, s0, s1, s2, s3, s4, s5]) rfl ?_
 obtain ⟨p1, p2, p3, p4, p5⟩ := HP.out
 have hF : FarI w (w.heap.size + 2) A' l w2 := ⟨HB.out, p2, fun a ha => by have := p3 a ha; simp at this; omega⟩
 have hG := (((((((hF.set w.heap.size 2 (.slice A' l.length c') (Nat.le_refl _) (by omega)).set (w.heap.size + 1) 0 (.string tn) (by omega) (by omega)).set (w.heap.size + 1) 1 (.string tt) (by omega) (by omega)).set (w.heap.size + 1) 2 (.slice A' l.length c') (by omega) (by omega)).set (w.heap.size + 1) 3 (.int .i64 tr) (by omega) (by omega)).set (w.heap.size + 1) 4 (.int .i64 tx) (by omega) (by omega)).set (w.heap.size + 1) 5 (.int .i64 ts) (by omega) (by omega))
 exact ⟨⟨tn, tt, A', l.length, c', tr, tx, ts⟩, rfl, hG.1, rfl, rfl, rfl, rfl, rfl, rfl, p1, hG.2.1, fun a ha => by have := hG.2.2 a ha; omega, p4, p5⟩
end Go.Proofs.YtcgpflkaejbkhaaGreatDoor
namespace Go.Proofs.YtcgpflkaejbkhaaGreatDoor
open Go.RowKit

theorem step_idx (w : World) {ops : Array Oper} {o : Oper} {a : Act} {K : Act → World → Prop} {Q : Exit → Act → World → Prop} {E : Prop} (hgd : o.guard = none) (s x : Operand)
   (ho : o.op = .call { callee := .builtin .append, args := #[s, x], argTypes := #[34, 34] }) (base : Nat) (v : Value) (n : Nat) (xs : List Value) (hv : a.eval s = v) (hown : w.ownsRow base 28 6 v n xs)
   (b c : Nat) (t : Idx) (hx : a.eval x = .slice (some ⟨b, 0, none⟩) 1 c) (hq : w.heap[b]? = some (.cells (idxL t).toArray 28)) (hl : n ≤ 2000) (hbase : base ≤ w.heap.size)
   (h : ∀ v' w', w'.ownsRow base 28 6 v' (n + 1) (xs ++ idxL t) → w.grownBy w' v.ownBlock → (v'.ownBlock = v.ownBlock ∨ v'.ownBlock = some w.heap.size) → K (a.put o.dst v') w') :
   if Region.wanted o (yielded ops a.tmps) = true then Oper.wp Tryz.prog o a w K Q else E := by
 have hw : Region.wanted o (yielded ops a.tmps) = true := by simp [Region.wanted, hgd]
 rw [if_pos hw]
 obtain ⟨i0, hi0, hz0, hz1, hz2⟩ := info_parts info28
 obtain ⟨v', w', hrun, g2, g3, _, g5⟩ := run_append_own_at (P := Tryz.prog) w base 34 o.type 28 i0 _ 6 80 Tryz.underlying34 hi0 hz0 hz1 hz2 rfl (by omega) v n xs hown ⟨b, 0, none⟩ 1 c (idxL t) rfl
   (fun j u hj => by
     rw [Addr.add_lit, Nat.zero_add, cell_of_row w b j _ _ _ hq]
     simpa using hj)
   (idx_one t) (by unfold maxLen; omega) (by omega) hbase
 unfold Oper.wp
 simp only [execOp, ho, resolve, invoke, builtin, Sem.run_bind, Sem.run_pure, Result.andThen_ok, List.map_toArray, List.map_cons, List.map_nil, hv, hx, hrun]
 exact h v' w' g2 g3 g5
def ICopyAt (base : Nat) (v : Value) (t : Idx) (l : List Int) (t' : Idx) (W : World) : Prop := t'.name = t.name ∧ t'.table = t.table ∧ t'.state = t.state ∧ t'.root = t.root ∧ t'.cursor = t.cursor ∧ t'.pn = l.length ∧ l.length ≤ t'.pc ∧ IntsU W t'.pa l ∧ (∀ a, t'.pa = some a → base ≤ a.block ∧ a.block < W.heap.size ∧ v.ownBlock ≠ some a.block) ∧ (t'.pa = none → t'.pc = 0) ∧ (t'.pa = none ↔ t.pa = none)
theorem ICopyAt.keep {base : Nat} {v : Value} {t t' : Idx} {l : List Int} {W W' : World} (h : ICopyAt base v t l t' W) (hB : Below W.heap.size W W') : ICopyAt base v t l t' W' := by
 obtain ⟨h1, h2, h3, h4, h5, h6, h7, h8, h9, h10⟩ := h
 exact ⟨h1, h2, h3, h4, h5, h6, h7, IntsU.keep hB h8, fun a ha => ⟨(h9 a ha).1, Nat.lt_of_lt_of_le (h9 a ha).2.1 hB.size, (h9 a ha).2.2⟩, h10⟩
theorem ICopyAt.setCell {base : Nat} {v : Value} {t t' : Idx} {l : List Int} {W : World} (h : ICopyAt base v t l t' W) (b j : Nat) (u : Value) (hb : b < base) : ICopyAt base v t l t' (W.setCell ⟨b, j, none⟩ u) := by
 obtain ⟨h1, h2, h3, h4, h5, h6, h7, h8, h9, h10⟩ := h
 refine ⟨h1, h2, h3, h4, h5, h6, h7, IntsU.setFar h8 b j u (fun a ha => by have := (h9 a ha).1; omega), fun a ha => ?_, h10⟩
 simp only [World.setCell, Array.size_modify]
 exact h9 a ha
theorem ICopyAt.grown {base : Nat} {v v' : Value} {t t' : Idx} {l : List Int} {W W' : World} (h : ICopyAt base v t l t' W) (hg : W.grownBy W' v.ownBlock) (hv : v'.ownBlock = v.ownBlock ∨ v'.ownBlock = some W.heap.size) : ICopyAt base v' t l t' W' := by
 obtain ⟨h1, h2, h3, h4, h5, h6, h7, h8, h9, h10⟩ := h
 refine ⟨h1, h2, h3, h4, h5, h6, h7, h8.grown hg (fun a ha => (h9 a ha).2.2), fun a ha => ⟨(h9 a ha).1, Nat.lt_of_lt_of_le (h9 a ha).2.1 hg.size, ?_⟩, h10⟩
 rcases hv with e | e
 · rw [e]; exact (h9 a ha).2.2
 · rw [e]
   intro e2
   have := (h9 a ha).2.1
   have := Option.some.inj e2
   omega
structure ClInd (w W0 : World) (va : Option Addr) (n vc : Nat) (xs : List (Idx × List Int)) (W : World) (k : Nat) (ua : Option Addr) (uc : Nat) (outs : List Idx) : Prop where
 grown : W0.grownBy W (some (w.heap.size + 1 + 1))
 low : w.heap.size + 1 + 1 < W0.heap.size
 out : W.heap[w.heap.size + 1 + 1]? = some (.cells #[.slice va n vc, .slice ua k uc] 36)
 own : W.ownsRow W0.heap.size 28 6 (.slice ua k uc) k (outs.map idxL).flatten
 len : outs.length = k
 copy : ∀ (j : Nat) (t : Idx) (l : List Int), xs[j]? = some (t, l) → ∀ t', outs[j]? = some t' → ICopyAt W0.heap.size (.slice ua k uc) t l t' W
theorem ClInd.keep {w W0 : World} {va : Option Addr} {n vc : Nat} {xs : List (Idx × List Int)} {W W' : World} {k : Nat} {ua : Option Addr} {uc : Nat} {outs : List Idx} (h : ClInd w W0 va n vc xs W k ua uc outs) (hB : Below W.heap.size W W') : ClInd w W0 va n vc xs W' k ua uc outs :=
 ⟨h.grown.trans ⟨hB.os, hB.tape, hB.output, hB.size, fun b hb _ => hB.block b hb⟩, h.low, (hB.block _ (heap_lt h.out)).trans h.out, own_kept h.own hB (Nat.le_refl _), h.len, fun j t l hj t' ht => (h.copy j t l hj t' ht).keep hB⟩
theorem ClInd.start {w W0 : World} {va : Option Addr} {n vc : Nat} (xs : List (Idx × List Int)) (h : W0.heap[w.heap.size + 1 + 1]? = some (.cells #[.slice va n vc, .slice none 0 0] 36)) : ClInd w W0 va n vc xs W0 0 none 0 [] :=
 ⟨World.grownBy.refl _ _, heap_lt h, h, World.ownsRow_nil _ _ _ _, rfl, fun j t l _ t' ht => by simp at ht⟩
theorem ClInd.more {w W0 : World} {va : Option Addr} {n vc : Nat} {xs : List (Idx × List Int)} {w5 w6 : World} {k : Nat} {ua : Option Addr} {uc : Nat} {outs : List Idx} {t' : Idx} {O : Obj} {g cap : Nat} (h : ClInd w W0 va n vc xs w5 k ua uc outs)
   (hown : w6.ownsRow W0.heap.size 28 6 (.slice (some ⟨g, 0, none⟩) (k + 1) cap) (k + 1) ((outs.map idxL).flatten ++ idxL t')) (hg : (w5.alloc O).grownBy w6 (Value.slice ua k uc).ownBlock)
   (hat : (Value.slice (some ⟨g, 0, none⟩) (k + 1) cap).ownBlock = (Value.slice ua k uc).ownBlock ∨ (Value.slice (some ⟨g, 0, none⟩) (k + 1) cap).ownBlock = some (w5.alloc O).heap.size)
   (hnew : ∀ (t : Idx) (l : List Int), xs[k]? = some (t, l) → ICopyAt W0.heap.size (.slice ua k uc) t l t' w5) :
   ClInd w W0 va n vc xs (w6.setCell ⟨w.heap.size + 1 + 1, 1, none⟩ (.slice (some ⟨g, 0, none⟩) (k + 1) cap)) (k + 1) (some ⟨g, 0, none⟩) cap (outs ++ [t']) ∧ w6.heap[w.heap.size + 1 + 1]? = some (.cells #[.slice va n vc, .slice ua k uc] 36) := by
 have hown0 := h.own
 have hlow := h.low
 have hlt := heap_lt h.out
 have hs5 := h.grown.size
 have hB : Below w5.heap.size w5 (w5.alloc O) := below1 w5 O
 have hfar : ∀ b, b < W0.heap.size → some b ≠ (Value.slice ua k uc).ownBlock := fun b hb e => by
   have := hown0.lt b e.symm
   omega
 have hold : ∀ b, b < W0.heap.size → w6.heap[b]? = w5.heap[b]? := fun b hb => (hg.block b (by simp; omega) (hfar b hb)).trans (hB.block b (by omega))
 have hout6 := (hold (w.heap.size + 1 + 1) hlow).trans h.out
 have hgb : W0.heap.size ≤ g := (hown.lt g rfl).1
 have hg06 : W0.grownBy w6 (some (w.heap.size + 1 + 1)) := ⟨hg.os.trans (hB.os.trans h.grown.os), hg.tape.trans (hB.tape.trans h.grown.tape), hg.output.trans (hB.output.trans h.grown.output), Nat.le_trans hs5 (Nat.le_trans hB.size hg.size), fun b hb hne => (hold b hb).trans (h.grown.block b hb hne)⟩
 refine ⟨⟨hg06.trans (grown_set _ _ _ _), hlow, ?_, ?_, by rw [List.length_append, h.len]; rfl, ?_⟩, hout6⟩
 · rw [setCell_eq_setRow w6 _ 1 _ 36 _ _ hout6]
   exact setRow_heap w6 _ _ _ 36 _ hout6
 · obtain ⟨q1, q2⟩ := hown
   refine ⟨by rw [List.map_append, List.flatten_append]; simpa using q1, q2.imp id fun ⟨g', cap', cur, e1, e2, e3, e4, e5, e6, e7⟩ => ⟨g', cap', cur, e1, e2, ?_, e4, e5, e6, by rw [List.map_append, List.flatten_append]; simpa using e7⟩⟩
   rw [heap_setFar _ (by omega)]; exact e3
 · intro j t l hj t'' ht
   refine ICopyAt.setCell ?_ _ _ _ hlow
   rcases Nat.lt_or_ge j outs.length with hjl | hjl
   · rw [List.getElem?_append_left hjl] at ht
     exact ((h.copy j t l hj t'' ht).keep hB).grown hg hat
   · have hj2 : j = k := by
       have := (List.getElem?_eq_some_iff.1 ht).1
       rw [List.length_append] at this
       have := h.len
       simp at *
       omega
     subst hj2
     rw [List.getElem?_append_right hjl, h.len, Nat.sub_self] at ht
     obtain rfl : t' = t'' := by simpa using ht
     exact ((hnew t l hj).keep hB).grown hg hat
def DeepIx (w : World) (A : Option Addr) (xs : List (Idx × List Int)) : Prop := IdxsAt w A (xs.map Prod.fst) ∧ ∀ p ∈ xs, IntsAt w p.1.pa p.2 ∧ p.1.pn = p.2.length ∧ p.2.length ≤ p.1.pc ∧ (p.1.pa = none → p.1.pc = 0)
theorem DeepIx.keep {w w' : World} {A : Option Addr} {xs : List (Idx × List Int)} (hB : Below w.heap.size w w') (h : DeepIx w A xs) : DeepIx w' A xs :=
 ⟨CellsAt.keep hB h.1, fun p hp => ⟨IntsAt.keep hB (h.2 p hp).1, (h.2 p hp).2⟩⟩
end Go.Proofs.YtcgpflkaejbkhaaGreatDoor
namespace Go.Proofs.YtcgpflkaejbkhaaGreatDoor
open Go.RowKit

theorem ClInd.fin {w : World} {A : Option Addr} {n c : Nat} {ia : Option Addr} {il ic : Nat} {ts : List (Tab × List Col)} {wo wi : World} {va : Option Addr} {vc : Nat} {outs : List Tab} {xs : List (Idx × List Int)} {m : Nat} {ua : Option Addr} {uc : Nat} {outx : List Idx}
   (hI : ClInv w A n c ia il ic ts wo n va vc outs) (hC : ClInd w wo va n vc xs wi m ua uc outx) (x y : Value) :
   Below w.heap.size w ((wi.setCell ⟨w.heap.size + 1, 0, none⟩ x).setCell ⟨w.heap.size + 1, 1, none⟩ y) ∧ w.heap.size + 3 ≤ wo.heap.size ∧ wo.heap.size ≤ ((wi.setCell ⟨w.heap.size + 1, 0, none⟩ x).setCell ⟨w.heap.size + 1, 1, none⟩ y).heap.size ∧
   ((wi.setCell ⟨w.heap.size + 1, 0, none⟩ x).setCell ⟨w.heap.size + 1, 1, none⟩ y).ownsRow (w.heap.size + 3) 25 5 (.slice va n vc) n (outs.map tabL).flatten ∧ (∀ b, (Value.slice va n vc).ownBlock = some b → b < wo.heap.size) ∧
   (∀ (j : Nat) (t : Tab) (l : List Col), ts[j]? = some (t, l) → ∀ t', outs[j]? = some t' → CopyAt (w.heap.size + 3) (.slice va n vc) t l t' ((wi.setCell ⟨w.heap.size + 1, 0, none⟩ x).setCell ⟨w.heap.size + 1, 1, none⟩ y) ∧ ∀ a, t'.ca = some a → a.block < wo.heap.size) ∧
   ((wi.setCell ⟨w.heap.size + 1, 0, none⟩ x).setCell ⟨w.heap.size + 1, 1, none⟩ y).ownsRow wo.heap.size 28 6 (.slice ua m uc) m (outx.map idxL).flatten ∧
   (∀ (j : Nat) (t : Idx) (l : List Int), xs[j]? = some (t, l) → ∀ t', outx[j]? = some t' → ICopyAt wo.heap.size (.slice ua m uc) t l t' ((wi.setCell ⟨w.heap.size + 1, 0, none⟩ x).setCell ⟨w.heap.size + 1, 1, none⟩ y)) := by
 have hlow := hC.low
 have hs := hC.grown.size
 have hBW : Below w.heap.size w wi := hI.below.grown hC.grown hI.below.size (fun b hb => by cases hb; omega)
 refine ⟨(hBW.setCell (p := ⟨w.heap.size + 1, 0, none⟩) (Nat.le_succ _) _).setCell (p := ⟨w.heap.size + 1, 1, none⟩) (Nat.le_succ _) _, by omega, by simp only [World.setCell, Array.size_modify]; exact hs, ?_, fun b hb => (hI.own.lt b hb).2, fun j t l hj t' ht => ?_, ?_, fun j t l hj t' ht => ?_⟩
 · refine own_set (own_set (World.ownsRow.kept hI.own hC.grown (Or.inr (fun e => ?_))) _ _ _ (by omega)) _ _ _ (by omega)
   have := (hI.own.lt _ e).1
   omega
 · obtain ⟨h1, h2, h3, h4, h5, h6, h7, h8, h9⟩ := hI.copy j t l hj t' ht
   refine ⟨CopyAt.setCell (CopyAt.setCell ⟨h1, h2, h3, h4, h5, h6, h7.grown hC.grown (fun a ha e => by have := (h8 a ha).1; have := Option.some.inj e; omega), fun a ha => ⟨(h8 a ha).1, Nat.lt_of_lt_of_le (h8 a ha).2.1 hs, (h8 a ha).2.2⟩, h9⟩ _ _ _ (by omega)) _ _ _ (by omega), fun a ha => (h8 a ha).2.1⟩
 · exact own_set (own_set hC.own _ _ _ (by omega)) _ _ _ (by omega)
 · exact ICopyAt.setCell (ICopyAt.setCell (hC.copy j t l hj t' ht) _ _ _ (by omega)) _ _ _ (by omega)
def ClonePI (w : World) (ts : List (Tab × List Col)) (xs : List (Idx × List Int)) (e : Ending) (w' : World) : Prop := ∃ (va ua : Option Addr) (vc uc : Nat) (outs : List Tab) (outx : List Idx) (B : Nat), e = .returned (.agg #[.slice va ts.length vc, .slice ua xs.length uc]) ∧ Below w.heap.size w w' ∧ w.heap.size + 3 ≤ B ∧ B ≤ w'.heap.size ∧
 w'.ownsRow (w.heap.size + 3) 25 5 (.slice va ts.length vc) ts.length (outs.map tabL).flatten ∧ outs.length = ts.length ∧ (∀ b, (Value.slice va ts.length vc).ownBlock = some b → b < B) ∧ (∀ (j : Nat) (t : Tab) (l : List Col), ts[j]? = some (t, l) → ∀ t', outs[j]? = some t' → CopyAt (w.heap.size + 3) (.slice va ts.length vc) t l t' w' ∧ ∀ a, t'.ca = some a → a.block < B) ∧
 w'.ownsRow B 28 6 (.slice ua xs.length uc) xs.length (outx.map idxL).flatten ∧ outx.length = xs.length ∧ (∀ (j : Nat) (t : Idx) (l : List Int), xs[j]? = some (t, l) → ∀ t', outx[j]? = some t' → ICopyAt B (.slice ua xs.length uc) t l t' w')
set_option maxRecDepth 100000 in
set_option maxHeartbeats 16000000 in
theorem clones_any (A : Option Addr) (c : Nat) (ts : List (Tab × List Col)) (ia : Option Addr) (ic : Nat) (xs : List (Idx × List Int)) (w : World) (h : DeepAt w A ts) (hx0 : DeepIx w ia xs) (hn : ts.length ≤ 1000) (hm : xs.length ≤ 1000) (hl : ∀ p ∈ ts, p.2.length ≤ 1000) (hlx : ∀ p ∈ xs, p.2.length ≤ 1000) : Calls Tryz.prog 10 #[.agg #[.slice A ts.length c, .slice ia xs.length ic]] w (ClonePI w ts xs) := by
 obtain ⟨n, hnn⟩ : ∃ n, n = ts.length := ⟨_, rfl⟩
 have HN := Lib.hid hnn
 have HD := Lib.hid h
 have HL := Lib.hid hl
 have HLX := Lib.hid hlx
 have HDX := Lib.hid hx0
 obtain ⟨m, hmm⟩ : ∃ m, m = xs.length := ⟨_, rfl⟩
 have HM := Lib.hid hmm
 rw [← hnn] at hn ⊢
 rw [← hmm] at hm ⊢
 have HST := Lib.hid (show ClInv w A n c ia m ic ts (((w.alloc (.cells #[.slice A n c, .slice ia m ic] 36)).alloc (.cells #[.slice none 0 0, .slice none 0 0] 36)).alloc (.cells #[.slice none 0 0, .slice none 0 0] 36)) 0 none 0 [] from by
   refine ⟨((below1 w _).alloc (by simp) _).alloc (by simp; omega) _, ?_, ?_, ?_, World.ownsRow_nil _ _ _ _, rfl, fun j t l _ t' ht => by simp at ht⟩
   · rw [heap_alloc_old _ _ (by simp; omega), heap_alloc_old _ _ (by simp)]; exact heap_alloc_new w _
   · rw [heap_alloc_old _ _ (by simp)]
     have := heap_alloc_new (w.alloc (.cells #[.slice A n c, .slice ia m ic] 36)) (.cells #[.slice none 0 0, .slice none 0 0] 36)
     rwa [World.size_alloc] at this
   · have := heap_alloc_new ((w.alloc (.cells #[.slice A n c, .slice ia m ic] 36)).alloc (.cells #[.slice none 0 0, .slice none 0 0] 36)) (.cells #[.slice none 0 0, .slice none 0 0] 36)
     rwa [World.size_alloc, World.size_alloc] at this)
 clear h hx0 hnn hmm hl hlx
 go_enter Tryz.func10, Tryz.ntmps10
 go_wp2_with fail
 go_loopw [11] (fun i wr => ∃ k va vc outs, k ≤ n ∧ i = .int .i64 (k : Nat) ∧ Hid (ClInv w A n c ia m ic ts wr k va vc outs)) (fun i _ => n - (intOf i).toNat)
 case atStart => exact ⟨0, none, 0, [], Nat.zero_le _, rfl, HST⟩
 case round =>
   obtain ⟨k, va, vc, outs, hk, rfl, HI⟩ := hrel
   obtain ⟨wo, rfl⟩ : ∃ wo : World, wo = wr := ⟨_, rfl⟩
   have ha0 := cell_of_row _ _ 0 _ _ _ HI.out.arg
   have ha1 := cell_of_row _ _ 1 _ _ _ HI.out.arg
   by_cases hlt : k < n
   · obtain ⟨⟨t, l⟩, hx⟩ : ∃ x, ts[k]? = some x := ⟨_, List.getElem?_eq_getElem (by have := HN.out; omega)⟩
     have HX := Lib.hid hx
     obtain ⟨hcol, hcn, hcc, hnone⟩ := HD.out.2 (t, l) (List.mem_of_getElem? hx)
     have hl := HL.out (t, l) (List.mem_of_getElem? hx)
     dsimp only at hcol hcn hcc hnone hl
     obtain ⟨tn, ta, tl, tc, tr, tx, tw⟩ := t
     obtain rfl : tl = l.length := hcn
     obtain ⟨b, off, rfl, hbl, hcells⟩ : ∃ b off, A = some ⟨b, off, none⟩ ∧ b < w.heap.size ∧ ∀ (i : Nat) (u : Value), (tabL ⟨tn, ta, l.length, tc, tr, tx, tw⟩)[i]? = some u → w.cell? ⟨b, off + k * 5 + i, none⟩ = some u := by
       rcases HD.out.1.2 with h0' | ⟨b, off, h1, h2, h3⟩
       · exfalso
         have := List.map_eq_nil_iff.1 (List.map_eq_nil_iff.1 h0')
         subst this
         simp at hx
       · exact ⟨b, off, h1, h2, (h3 k _ (by rw [List.getElem?_map, List.getElem?_map, hx]; rfl)).2⟩
     have hkk : ∀ (i : Nat) (u : Value), [Value.string tn, .slice ta l.length tc, .int .i64 tr, .int .i64 tx, .int .i64 tw][i]? = some u → wo.cell? ⟨b, off + k * 5 + i, none⟩ = some u := fun i u hi => (HI.out.below.cell (p := ⟨b, off + k * 5 + i, none⟩) hbl).trans (hcells i u hi)
     have k0 : wo.cell? ⟨b, off + k * 5, none⟩ = some (.string tn) := hkk 0 _ rfl
     have k1 : wo.cell? ⟨b, off + k * 5 + 1, none⟩ = some (.slice ta l.length tc) := hkk 1 _ rfl
     have k2 : wo.cell? ⟨b, off + k * 5 + 2, none⟩ = some (.int .i64 tr) := hkk 2 _ rfl
     have k3 : wo.cell? ⟨b, off + k * 5 + 3, none⟩ = some (.int .i64 tx) := hkk 3 _ rfl
     have k4 : wo.cell? ⟨b, off + k * 5 + 4, none⟩ = some (.int .i64 tw) := hkk 4 _ rfl
     obtain ⟨w4, hw4⟩ : ∃ w4, w4 = wo.alloc (.cells #[.string tn, .slice ta l.length tc, .int .i64 tr, .int .i64 tx, .int .i64 tw] 25) := ⟨_, rfl⟩
     have hB4 : Below wo.heap.size wo w4 := by rw [hw4]; exact below1 wo _
     have HI4 := Lib.hid (HI.out.keep hB4)
     have HB4 := Lib.hid hB4
     have HCO := Lib.hid (CellsAt.keep (HI.out.below.trans (hB4.mono HI.out.below.size)) hcol)
     have HQ4 := Lib.hid (show w4.heap[wo.heap.size]? = some (.cells #[.string tn, .slice ta l.length tc, .int .i64 tr, .int .i64 tx, .int .i64 tw] 25) by rw [hw4]; exact heap_alloc_new wo _)
     have HCL := Lib.hid (show ∀ W, Below w4.heap.size w4 W → Calls Tryz.prog 36 #[.agg #[.string tn, .slice ta l.length tc, .int .i64 tr, .int .i64 tx, .int .i64 tw]] W fun e w' => ∃ (yn : ByteArray) (ya : Option Addr) (yl yc : Nat) (yr yx yw : Int), e = .returned (.agg #[.string yn, .slice ya yl yc, .int .i64 yr, .int .i64 yx, .int .i64 yw]) ∧ Below W.heap.size W w' ∧ TabCopy W ⟨tn, ta, l.length, tc, tr, tx, tw⟩ l ⟨yn, ya, yl, yc, yr, yx, yw⟩ w' from fun W hW =>
       (clone_tab ⟨tn, ta, l.length, tc, tr, tx, tw⟩ l W (CellsAt.keep hW HCO.out) rfl (fun h => by have h2 : tc = 0 := hnone h; have h3 : l.length ≤ tc := hcc; exact ⟨List.length_eq_zero_iff.1 (by omega), h2⟩) (by omega)).mono (fun e w' ⟨⟨yn, ya, yl, yc, yr, yx, yw⟩, h1, h2, h3⟩ => ⟨yn, ya, yl, yc, yr, yx, yw, h1, h2, h3⟩))
     have HNEW := Lib.hid (show ∀ (w5 : World) (yn : ByteArray) (ya : Option Addr) (yl yc : Nat) (yr yx yw : Int), TabCopy w4.drew ⟨tn, ta, l.length, tc, tr, tx, tw⟩ l ⟨yn, ya, yl, yc, yr, yx, yw⟩ w5 → ∀ (t : Tab) (l : List Col), ts[k]? = some (t, l) → CopyAt (w.heap.size + 3) (.slice va k vc) t l ⟨yn, ya, yl, yc, yr, yx, yw⟩ w5 from fun w5 yn ya yl yc yr yx yw h t l2 hj => by
       rw [HX.out] at hj
       obtain ⟨rfl, rfl⟩ := Prod.mk.inj (Option.some.inj hj)
       obtain ⟨h1, h2, h3, h4, h5, h6, h7, h8, h9⟩ := h
       refine ⟨h1, h2, h3, h4, h5, h6, h7, fun a ha => ?_, h9⟩
       have hz := h8 a ha
       have hlt := heap_lt HI4.out.out
       have hd : w4.drew.heap.size = w4.heap.size := rfl
       refine ⟨by omega, hz.2, fun e => ?_⟩
       have := (HI4.out.own.lt _ e).2
       omega)
     have hW0 : Below w4.heap.size w4 w4.drew := (Below.refl _ _).drew
     have z0 : w4.drew.cell? ⟨w.heap.size + 1 + 1, 0, none⟩ = some (.slice va k vc) := cell_of_row w4.drew _ 0 _ _ _ HI4.out.out
     have j0 : w4.drew.cell? ⟨wo.heap.size, 0, none⟩ = some (.string tn) := cell_of_row w4.drew _ 0 _ _ _ HQ4.out
     have j1 : w4.drew.cell? ⟨wo.heap.size, 1, none⟩ = some (.slice ta l.length tc) := cell_of_row w4.drew _ 1 _ _ _ HQ4.out
     have j2 : w4.drew.cell? ⟨wo.heap.size, 2, none⟩ = some (.int .i64 tr) := cell_of_row w4.drew _ 2 _ _ _ HQ4.out
     have j3 : w4.drew.cell? ⟨wo.heap.size, 3, none⟩ = some (.int .i64 tx) := cell_of_row w4.drew _ 3 _ _ _ HQ4.out
     have j4 : w4.drew.cell? ⟨wo.heap.size, 4, none⟩ = some (.int .i64 tw) := cell_of_row w4.drew _ 4 _ _ _ HQ4.out
     clear hx hcells hkk hB4 hcol hnone
     go_wp2_with fail
     rw [← hw4]
     clear hw4 k0 k1 k2 k3 k4
     go_region_law (first
       | (go_simp; go_at_call 36; (with_reducible refine (HCL.out _ hW0).mono ?_); rintro e w5 ⟨yn, ya, yl, yc, yr, yx, yw, rfl, hB5, hP⟩
          have HB5 := Lib.hid hB5
          have HP := Lib.hid hP
          have HI5 := Lib.hid (HI4.out.keep (hW0.trans (hB5.mono hW0.size)))
          have z5 : w5.cell? ⟨w.heap.size + 1 + 1, 0, none⟩ = some (.slice va k vc) := cell_of_row w5 _ 0 _ _ _ HI5.out.out
          have z5b : ∀ O, (w5.alloc O).cell? ⟨w.heap.size + 1 + 1, 0, none⟩ = some (.slice va k vc) := fun O => cell_kept z5 (below1 w5 O)
          clear hB5 hP)
       | (refine step_tab _ (by rfl) (.tmp 16) (.tmp 19) (by rfl) (w.heap.size + 3) (.slice va k vc) k (outs.map tabL).flatten (by rfl) (own_kept HI5.out.own (below1 w5 _) (Nat.le_refl _)) w5.heap.size 1 ⟨yn, ya, yl, yc, yr, yx, yw⟩ (by rfl) (heap_alloc_new w5 _) (by omega) (by have := heap_lt HI5.out.out; simp; omega) ?_
          intro v6 w6 hown hgr hat
          obtain ⟨g, cap, rfl⟩ := own_slice hown
          have HM := Lib.hid (HI5.out.more hown hgr hat (HNEW.out _ _ _ _ _ _ _ _ HP.out))
          have z6 := cell_of_row _ _ 0 _ _ _ HM.out.2
          have g6 := frozen_of_row _ _ 0 _ _ HM.out.2
          clear hown hgr hat)
       | fail)
     all_goals
       go_wp2_with fail
       go_roundw
       case rel => exact ⟨k + 1, _, _, _, by omega, by go_num, Lib.hid HM.out.1⟩
       case measure => simp [intOf] <;> omega
   · obtain rfl : k = n := by omega
     have o0 : wo.cell? ⟨w.heap.size + 1 + 1, 0, none⟩ = some (.slice va k vc) := cell_of_row _ _ 0 _ _ _ HI.out.out
     have o1 : wo.cell? ⟨w.heap.size + 1 + 1, 1, none⟩ = some (.slice none 0 0) := cell_of_row _ _ 1 _ _ _ HI.out.out
     have q0 := cell_of_row _ _ 0 _ _ _ HI.out.ans
     have q1 := cell_of_row _ _ 1 _ _ _ HI.out.ans
     have f0 := frozen_of_row _ _ 0 _ _ HI.out.ans
     have f1 := frozen_of_row _ _ 1 _ _ HI.out.ans
     go_wp2_with fail
     have HST2 := Lib.hid (ClInd.start (W0 := wo) (n := k) (vc := vc) (va := va) xs HI.out.out)
     have HLOW := Lib.hid (heap_lt HI.out.out)
     clear o0 o1 q0 q1 f0 f1
     go_loopw [26] (fun i wr => ∃ j ua uc outx, j ≤ m ∧ i = .int .i64 (j : Nat) ∧ Hid (ClInd w wo va k vc xs wr j ua uc outx)) (fun i _ => m - (intOf i).toNat)
     case atStart => exact ⟨0, none, 0, [], Nat.zero_le _, rfl, HST2⟩
     case round =>
       obtain ⟨j, ua, uc, outx, hj, rfl, HC⟩ := hrel
       obtain ⟨wi, rfl⟩ : ∃ wi : World, wi = wr := ⟨_, rfl⟩
       have HBW := Lib.hid (HI.out.below.grown HC.out.grown HI.out.below.size (fun b hb => by cases hb; omega))
       by_cases hjm : j < m
       · obtain ⟨⟨t, l⟩, hx⟩ : ∃ x, xs[j]? = some x := ⟨_, List.getElem?_eq_getElem (by have := HM.out; omega)⟩
         have HX := Lib.hid hx
         obtain ⟨hcol, hcn, hcc, hnone⟩ := HDX.out.2 (t, l) (List.mem_of_getElem? hx)
         have hl := HLX.out (t, l) (List.mem_of_getElem? hx)
         dsimp only at hcol hcn hcc hnone hl
         obtain ⟨tn, tt, ta, tl, tc, tr, tx, tw⟩ := t
         obtain rfl : tl = l.length := hcn
         obtain ⟨b, off, rfl, hbl, hcells⟩ : ∃ b off, ia = some ⟨b, off, none⟩ ∧ b < w.heap.size ∧ ∀ (i : Nat) (u : Value), (idxL ⟨tn, tt, ta, l.length, tc, tr, tx, tw⟩)[i]? = some u → w.cell? ⟨b, off + j * 6 + i, none⟩ = some u := by
           rcases HDX.out.1.2 with h0' | ⟨b, off, h1, h2, h3⟩
           · exfalso
             have := List.map_eq_nil_iff.1 (List.map_eq_nil_iff.1 h0')
             subst this
             simp at hx
           · exact ⟨b, off, h1, h2, (h3 j _ (by rw [List.getElem?_map, List.getElem?_map, hx]; rfl)).2⟩
         have hkk : ∀ (i : Nat) (u : Value), [Value.string tn, .string tt, .slice ta l.length tc, .int .i64 tr, .int .i64 tx, .int .i64 tw][i]? = some u → wi.cell? ⟨b, off + j * 6 + i, none⟩ = some u := fun i u hi => (HBW.out.cell (p := ⟨b, off + j * 6 + i, none⟩) hbl).trans (hcells i u hi)
         have k0 : wi.cell? ⟨b, off + j * 6, none⟩ = some (.string tn) := hkk 0 _ rfl
         have k1 : wi.cell? ⟨b, off + j * 6 + 1, none⟩ = some (.string tt) := hkk 1 _ rfl
         have k2 : wi.cell? ⟨b, off + j * 6 + 2, none⟩ = some (.slice ta l.length tc) := hkk 2 _ rfl
         have k3 : wi.cell? ⟨b, off + j * 6 + 3, none⟩ = some (.int .i64 tr) := hkk 3 _ rfl
         have k4 : wi.cell? ⟨b, off + j * 6 + 4, none⟩ = some (.int .i64 tx) := hkk 4 _ rfl
         have k5 : wi.cell? ⟨b, off + j * 6 + 5, none⟩ = some (.int .i64 tw) := hkk 5 _ rfl
         obtain ⟨w4, hw4⟩ : ∃ w4, w4 = wi.alloc (.cells #[.string tn, .string tt, .slice ta l.length tc, .int .i64 tr, .int .i64 tx, .int .i64 tw] 28) := ⟨_, rfl⟩
         have hB4 : Below wi.heap.size wi w4 := by rw [hw4]; exact below1 wi _
         have HC4 := Lib.hid (HC.out.keep hB4)
         have HCO := Lib.hid (IntsAt.keep (HBW.out.trans (hB4.mono HBW.out.size)) hcol)
         have HQ4 := Lib.hid (show w4.heap[wi.heap.size]? = some (.cells #[.string tn, .string tt, .slice ta l.length tc, .int .i64 tr, .int .i64 tx, .int .i64 tw] 28) by rw [hw4]; exact heap_alloc_new wi _)
         have HCL := Lib.hid (show ∀ W, Below w4.heap.size w4 W → Calls Tryz.prog 37 #[.agg #[.string tn, .string tt, .slice ta l.length tc, .int .i64 tr, .int .i64 tx, .int .i64 tw]] W fun e w' => ∃ (yn yt : ByteArray) (ya : Option Addr) (yl yc : Nat) (yr yx yw : Int), e = .returned (.agg #[.string yn, .string yt, .slice ya yl yc, .int .i64 yr, .int .i64 yx, .int .i64 yw]) ∧ Below W.heap.size W w' ∧ IdxCopy W ⟨tn, tt, ta, l.length, tc, tr, tx, tw⟩ l ⟨yn, yt, ya, yl, yc, yr, yx, yw⟩ w' from fun W hW =>
           (clone_idx ⟨tn, tt, ta, l.length, tc, tr, tx, tw⟩ l W (IntsAt.keep hW HCO.out) rfl (fun h => by have h2 : tc = 0 := hnone h; have h3 : l.length ≤ tc := hcc; exact ⟨List.length_eq_zero_iff.1 (by omega), h2⟩) (by omega)).mono (fun e w' ⟨⟨yn, yt, ya, yl, yc, yr, yx, yw⟩, h1, h2, h3⟩ => ⟨yn, yt, ya, yl, yc, yr, yx, yw, h1, h2, h3⟩))
         have HNEW := Lib.hid (show ∀ (w5 : World) (yn yt : ByteArray) (ya : Option Addr) (yl yc : Nat) (yr yx yw : Int), IdxCopy w4.drew ⟨tn, tt, ta, l.length, tc, tr, tx, tw⟩ l ⟨yn, yt, ya, yl, yc, yr, yx, yw⟩ w5 → ∀ (t : Idx) (l : List Int), xs[j]? = some (t, l) → ICopyAt wo.heap.size (.slice ua j uc) t l ⟨yn, yt, ya, yl, yc, yr, yx, yw⟩ w5 from fun w5 yn yt ya yl yc yr yx yw h t l2 hj => by
           rw [HX.out] at hj
           obtain ⟨rfl, rfl⟩ := Prod.mk.inj (Option.some.inj hj)
           obtain ⟨h1, h2, h3, h4, h5, h6, h7, h8, h9, h10⟩ := h
           refine ⟨h1, h2, h3, h4, h5, h6, h7, h8, fun a ha => ?_, h10⟩
           have hz := h9 a ha
           have hlt := HC4.out.grown.size
           have hd : w4.drew.heap.size = w4.heap.size := rfl
           refine ⟨by omega, hz.2, fun e => ?_⟩
           have := (HC4.out.own.lt _ e).2
           omega)
         have hW0 : Below w4.heap.size w4 w4.drew := (Below.refl _ _).drew
         have z0 : w4.drew.cell? ⟨w.heap.size + 1 + 1, 1, none⟩ = some (.slice ua j uc) := cell_of_row w4.drew _ 1 _ _ _ HC4.out.out
         have j0 : w4.drew.cell? ⟨wi.heap.size, 0, none⟩ = some (.string tn) := cell_of_row w4.drew _ 0 _ _ _ HQ4.out
         have j1 : w4.drew.cell? ⟨wi.heap.size, 1, none⟩ = some (.string tt) := cell_of_row w4.drew _ 1 _ _ _ HQ4.out
         have j2 : w4.drew.cell? ⟨wi.heap.size, 2, none⟩ = some (.slice ta l.length tc) := cell_of_row w4.drew _ 2 _ _ _ HQ4.out
         have j3 : w4.drew.cell? ⟨wi.heap.size, 3, none⟩ = some (.int .i64 tr) := cell_of_row w4.drew _ 3 _ _ _ HQ4.out
         have j4 : w4.drew.cell? ⟨wi.heap.size, 4, none⟩ = some (.int .i64 tx) := cell_of_row w4.drew _ 4 _ _ _ HQ4.out
         have j5 : w4.drew.cell? ⟨wi.heap.size, 5, none⟩ = some (.int .i64 tw) := cell_of_row w4.drew _ 5 _ _ _ HQ4.out
         clear hx hcells hkk hB4 hcol hnone
         go_wp2_with fail
         rw [← hw4]
         clear hw4 k0 k1 k2 k3 k4 k5
         go_region_law (first
           | (go_simp; go_at_call 37; (with_reducible refine (HCL.out _ hW0).mono ?_); rintro e w5 ⟨yn, yt, ya, yl, yc, yr, yx, yw, rfl, hB5, hP⟩
              have HB5 := Lib.hid hB5
              have HP := Lib.hid hP
              have HC5 := Lib.hid (HC4.out.keep (hW0.trans (hB5.mono hW0.size)))
              have z5 : w5.cell? ⟨w.heap.size + 1 + 1, 1, none⟩ = some (.slice ua j uc) := cell_of_row w5 _ 1 _ _ _ HC5.out.out
              have z5b : ∀ O, (w5.alloc O).cell? ⟨w.heap.size + 1 + 1, 1, none⟩ = some (.slice ua j uc) := fun O => cell_kept z5 (below1 w5 O)
              clear hB5 hP)
           | (refine step_idx _ (by rfl) (.tmp 31) (.tmp 34) (by rfl) wo.heap.size (.slice ua j uc) j (outx.map idxL).flatten (by rfl) (own_kept HC5.out.own (below1 w5 _) (Nat.le_refl _)) w5.heap.size 1 ⟨yn, yt, ya, yl, yc, yr, yx, yw⟩ (by rfl) (heap_alloc_new w5 _) (by omega) (by have := HC5.out.grown.size; simp; omega) ?_
              intro v6 w6 hown hgr hat
              obtain ⟨g, cap, rfl⟩ := own_slice hown
              have HMO := Lib.hid (HC5.out.more hown hgr hat (HNEW.out _ _ _ _ _ _ _ _ _ HP.out))
              have z6 := cell_of_row _ _ 1 _ _ _ HMO.out.2
              have g6 := frozen_of_row _ _ 1 _ _ HMO.out.2
              clear hown hgr hat)
           | fail)
         all_goals
           go_wp2_with fail
           go_roundw
           case rel => exact ⟨j + 1, _, _, _, by omega, by go_num, Lib.hid HMO.out.1⟩
           case measure => simp [intOf] <;> omega
       · obtain rfl : j = m := by omega
         have o0 : wi.cell? ⟨w.heap.size + 1 + 1, 0, none⟩ = some (.slice va k vc) := cell_of_row _ _ 0 _ _ _ HC.out.out
         have o1 : wi.cell? ⟨w.heap.size + 1 + 1, 1, none⟩ = some (.slice ua j uc) := cell_of_row _ _ 1 _ _ _ HC.out.out
         have hans := (HC.out.grown.block (w.heap.size + 1) (by have := HC.out.low; omega) (fun e => by have := Option.some.inj e; omega)).trans HI.out.ans
         have q0 := cell_of_row _ _ 0 _ _ _ hans
         have q1 := cell_of_row _ _ 1 _ _ _ hans
         have f0 := frozen_of_row _ _ 0 _ _ hans
         have f1 := frozen_of_row _ _ 1 _ _ hans
         clear hans
         go_wp2_with fail
         refine bodyPost_ret (v := .agg #[.slice va k vc, .slice ua j uc]) (by simp [results, Tryz.results10, go_sem, q0, q1]) rfl ?_
         obtain ⟨d1, d2, d3, d4, d5, d6, d7, d8⟩ := ClInd.fin HI.out HC.out (.slice va k vc) (.slice ua j uc)
         exact ⟨va, ua, vc, uc, outs, outx, wo.heap.size, by rw [← HN.out, ← HM.out], d1, d2, d3, by rw [← HN.out]; exact d4, by rw [← HN.out]; exact HI.out.len, by rw [← HN.out]; exact d5, by rw [← HN.out]; exact d6, by rw [← HM.out]; exact d7, by rw [← HM.out]; exact HC.out.len, by rw [← HM.out]; exact d8⟩
end Go.Proofs.YtcgpflkaejbkhaaGreatDoor
