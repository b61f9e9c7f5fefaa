/- The walk of the document's Same at two schemas that read the same. -/
import Derived.Test.YtcgpflkaejbkhaaGreatDoorQAN
import Derived.Test.YtcgpflkaejbkhaaGreatDoorQAL
import Derived.Deep.RegionLaw
import Derived.Deep.RegionHeld3
import Derived.BigQuiet
import Derived.Laws.StructEq
import Derived.Test.YtcgpflkaejbkhaaGreatDoorQAW
namespace Go.Proofs.YtcgpflkaejbkhaaGreatDoor
open Go.RowKit

theorem neq_col (a b : ByteArray) (t : Int) (n : Bool) (W : World) (h : a = b) : (binOp .neq 42 (.agg #[.string a, .int .i64 t, .bool n]) (.agg #[.string b, .int .i64 t, .bool n])).run Tryz.prog W = .ok (.bool false) W := by
 subst h
 go_simp
structure SameK (w : World) (A : Option Addr) (n c : Nat) (ia : Option Addr) (mx ic : Nat) (A2 : Option Addr) (c2 : Nat) (ia2 : Option Addr) (ic2 : Nat) (W : World) : Prop where
 below : Below w.heap.size w W
 s1 : W.heap[w.heap.size]? = some (.cells #[.slice A n c, .slice ia mx ic] 36)
 s2 : W.heap[w.heap.size + 1]? = some (.cells #[.slice A2 n c2, .slice ia2 mx ic2] 36)
theorem SameK.keep {w : World} {A : Option Addr} {n c : Nat} {ia : Option Addr} {mx ic : Nat} {A2 : Option Addr} {c2 : Nat} {ia2 : Option Addr} {ic2 : Nat} {W W' : World} (h : SameK w A n c ia mx ic A2 c2 ia2 ic2 W) (hB : Below W.heap.size W W') : SameK w A n c ia mx ic A2 c2 ia2 ic2 W' :=
 ⟨h.below.trans (hB.mono h.below.size), (hB.block _ (heap_lt h.s1)).trans h.s1, (hB.block _ (heap_lt h.s2)).trans h.s2⟩
theorem SameK.start (w : World) (A : Option Addr) (n c : Nat) (ia : Option Addr) (mx ic : Nat) (A2 : Option Addr) (c2 : Nat) (ia2 : Option Addr) (ic2 : Nat) : SameK w A n c ia mx ic A2 c2 ia2 ic2 ((w.alloc (.cells #[.slice A n c, .slice ia mx ic] 36)).alloc (.cells #[.slice A2 n c2, .slice ia2 mx ic2] 36)) := by
 refine ⟨(below1 w _).alloc (by simp) _, ?_, ?_⟩
 · rw [heap_alloc_old _ _ (by simp)]; exact heap_alloc_new w _
 · have := heap_alloc_new (w.alloc (.cells #[.slice A n c, .slice ia mx ic] 36)) (.cells #[.slice A2 n c2, .slice ia2 mx ic2] 36)
   rwa [World.size_alloc] at this
theorem DeepAt.cell {w : World} {A : Option Addr} {ts : List (Tab × List Col)} (h : DeepAt w A ts) {k : Nat} {t : Tab} {l : List Col} (hk : ts[k]? = some (t, l)) : ∃ b off, A = some ⟨b, off, none⟩ ∧ Hid (∀ W, Below w.heap.size w W → ∀ (i : Nat) (u : Value), (tabL t)[i]? = some u → W.cell? ⟨b, off + k * 5 + i, none⟩ = some u) := by
 rcases h.1.2 with h0 | ⟨b, off, h1, h2, h3⟩
 · exfalso
   rw [List.map_eq_nil_iff, List.map_eq_nil_iff] at h0
   subst h0
   simp at hk
 · refine ⟨b, off, h1, fun W hB i u hi => (hB.cell (p := ⟨b, off + k * 5 + i, none⟩) h2).trans ((h3 k (tabL t) ?_).2 i u hi)⟩
   rw [List.getElem?_map, List.getElem?_map, hk]
   rfl
theorem DeepIx.cell {w : World} {A : Option Addr} {xs : List (Idx × List Int)} (h : DeepIx w A xs) {k : Nat} {t : Idx} {l : List Int} (hk : xs[k]? = some (t, l)) : ∃ b off, A = some ⟨b, off, none⟩ ∧ Hid (∀ W, Below w.heap.size w W → ∀ (i : Nat) (u : Value), (idxL t)[i]? = some u → W.cell? ⟨b, off + k * 6 + i, none⟩ = some u) := by
 rcases h.1.2 with h0 | ⟨b, off, h1, h2, h3⟩
 · exfalso
   rw [List.map_eq_nil_iff, List.map_eq_nil_iff] at h0
   subst h0
   simp at hk
 · refine ⟨b, off, h1, fun W hB i u hi => (hB.cell (p := ⟨b, off + k * 6 + i, none⟩) h2).trans ((h3 k (idxL t) ?_).2 i u hi)⟩
   rw [List.getElem?_map, List.getElem?_map, hk]
   rfl
set_option maxRecDepth 100000 in
set_option maxHeartbeats 16000000 in
theorem same_eq (A : Option Addr) (c : Nat) (ts : List (Tab × List Col)) (ia : Option Addr) (ic : Nat) (xs : List (Idx × List Int)) (A2 : Option Addr) (c2 : Nat) (ts2 : List (Tab × List Col)) (ia2 : Option Addr) (ic2 : Nat) (xs2 : List (Idx × List Int)) (w : World) (hD : DeepAt w A ts) (hX : DeepIx w ia xs) (hD2 : DeepAt w A2 ts2) (hX2 : DeepIx w ia2 xs2)
   (hT : ts.map ptOf = ts2.map ptOf) (hXX : xs.map pxOf = xs2.map pxOf) :
   Calls Tryz.prog 11 #[.agg #[.slice A ts.length c, .slice ia xs.length ic], .agg #[.slice A2 ts2.length c2, .slice ia2 xs2.length ic2]] w (RetV (.bool true) w) := by
 have hlt : ts2.length = ts.length := by have := congrArg List.length hT; rw [List.length_map, List.length_map] at this; exact this.symm
 have hlx : xs2.length = xs.length := by have := congrArg List.length hXX; rw [List.length_map, List.length_map] at this; exact this.symm
 rw [hlt, hlx]
 have HST := Lib.hid (SameK.start w A ts.length c ia xs.length ic A2 c2 ia2 ic2)
 have HD := Lib.hid hD
 have HX := Lib.hid hX
 have HD2 := Lib.hid hD2
 have HX2 := Lib.hid hX2
 have HTE := Lib.hid (show ∀ (j : Nat) (t : Tab) (l : List Col), ts[j]? = some (t, l) → ∃ t2, ts2[j]? = some (t2, l) ∧ t2.name = t.name ∧ t2.root = t.root ∧ t2.next = t.next ∧ t2.rows = t.rows from fun j t l hj => by
   have h1 : (ts2.map ptOf)[j]? = some (ptOf (t, l)) := by rw [← hT, List.getElem?_map, hj]; rfl
   rw [List.getElem?_map, Option.map_eq_some_iff] at h1
   obtain ⟨⟨t2, l2⟩, h2, h3⟩ := h1
   unfold ptOf at h3
   injection h3 with e1 e2 e3 e4 e5
   dsimp only at e1 e2 e3 e4 e5
   subst e2
   exact ⟨t2, h2, e1, e3, e4, e5⟩)
 have HXE := Lib.hid (show ∀ (j : Nat) (t : Idx) (l : List Int), xs[j]? = some (t, l) → ∃ t2, xs2[j]? = some (t2, l) ∧ t2.name = t.name ∧ t2.table = t.table ∧ t2.state = t.state ∧ t2.root = t.root ∧ t2.cursor = t.cursor from fun j t l hj => by
   have h1 : (xs2.map pxOf)[j]? = some (pxOf (t, l)) := by rw [← hXX, List.getElem?_map, hj]; rfl
   rw [List.getElem?_map, Option.map_eq_some_iff] at h1
   obtain ⟨⟨t2, l2⟩, h2, h3⟩ := h1
   unfold pxOf at h3
   injection h3 with e1 e2 e3 e4 e5 e6
   dsimp only at e1 e2 e3 e4 e5 e6
   subst e3
   exact ⟨t2, h2, e1, e2, e4, e5, e6⟩)
 obtain ⟨n, hn⟩ : ∃ n, n = ts.length := ⟨_, rfl⟩
 obtain ⟨mx, hm⟩ : ∃ mx, mx = xs.length := ⟨_, rfl⟩
 have HN := Lib.hid hn
 have HM := Lib.hid hm
 rw [← hn, ← hm] at HST ⊢
 have hn0 : ((n : Int) == (n : Int)) = true := beq_self_eq_true _
 have hm0 : ((mx : Int) == (mx : Int)) = true := beq_self_eq_true _
 clear hD hX hD2 hX2 hT hXX hlt hlx hn hm
 go_enter Tryz.func11, Tryz.ntmps11
 go_wp2_with fail
 go_loopw [5] (fun i wr => ∃ k : Nat, k ≤ n ∧ i = .int .i64 k ∧ Hid (SameK w A n c ia mx ic A2 c2 ia2 ic2 wr)) (fun i _ => n - (intOf i).toNat)
 case atStart => exact ⟨0, Nat.zero_le _, rfl, HST⟩
 case round =>
   obtain ⟨k, hk, rfl, HK⟩ := hrel
   obtain ⟨wo, rfl⟩ : ∃ wo : World, wo = wr := ⟨_, rfl⟩
   have s0 := cell_of_row _ _ 0 _ _ _ HK.out.s1
   have s1 := cell_of_row _ _ 1 _ _ _ HK.out.s1
   have v0 := cell_of_row _ _ 0 _ _ _ HK.out.s2
   have v1 := cell_of_row _ _ 1 _ _ _ HK.out.s2
   by_cases hkn : k < n
   · obtain ⟨⟨t, l⟩, hx⟩ : ∃ x, ts[k]? = some x := ⟨_, List.getElem?_eq_getElem (by have := HN.out; omega)⟩
     have hkn2 : ((k : Int) < (n : Int)) = True := eq_true (by omega)
     obtain ⟨t2, hx2, e1, e2, e3, e4⟩ := HTE.out k t l hx
     obtain ⟨b, off, rfl, HC⟩ := HD.out.cell hx
     obtain ⟨b2, off2, rfl, HC2⟩ := HD2.out.cell hx2
     obtain ⟨c1, c2', _⟩ := (HD.out.2 _ (List.mem_of_getElem? hx))
     obtain ⟨d1, d2, _⟩ := (HD2.out.2 _ (List.mem_of_getElem? hx2))
     dsimp only at c1 c2' d1 d2
     obtain ⟨tn, ta, tl, tc, tr, tx, tw⟩ := t
     obtain ⟨un, ua, ul, uc, ur, ux, uw⟩ := t2
     dsimp only at e1 e2 e3 e4 c2' d2 c1 d1
     obtain ⟨ln, hln⟩ : ∃ ln, ln = l.length := ⟨_, rfl⟩
     have HLN := Lib.hid hln
     rw [← hln] at c2' d2
     have c2s := c2'.symm
     have d2s := d2.symm
     subst e1 e2 e3 e4 c2s d2s
     have HCO := Lib.hid c1
     have HCO2 := Lib.hid d1
     clear hx hx2 c1 d1 hln
     have hlnb : ln ≤ 9223372036854775807 := by have := HCO.out.1; rw [List.length_map] at this; unfold maxLen at this; have := HLN.out; omega
     have hnb : n ≤ 9223372036854775807 := by have := HD.out.1.1; rw [List.length_map, List.length_map] at this; unfold maxLen at this; have := HN.out; omega
     have k0 : wo.drew.cell? ⟨b, off + k * 5, none⟩ = some (.string un) := HC.out _ HK.out.below.drew 0 _ rfl
     have k0a : ∀ O, (wo.alloc O).drew.cell? ⟨b, off + k * 5, none⟩ = some (.string un) := fun O => HC.out _ (HK.out.keep (below1 wo O)).below.drew 0 _ rfl
     have k0b : ∀ O O', ((wo.alloc O).alloc O').drew.cell? ⟨b, off + k * 5, none⟩ = some (.string un) := fun O O' => HC.out _ ((HK.out.keep (below1 wo O)).keep (below1 _ O')).below.drew 0 _ rfl
     have k1 : wo.drew.cell? ⟨b, off + k * 5 + 1, none⟩ = some (.slice ta ln tc) := HC.out _ HK.out.below.drew 1 _ rfl
     have k1a : ∀ O, (wo.alloc O).drew.cell? ⟨b, off + k * 5 + 1, none⟩ = some (.slice ta ln tc) := fun O => HC.out _ (HK.out.keep (below1 wo O)).below.drew 1 _ rfl
     have k1b : ∀ O O', ((wo.alloc O).alloc O').drew.cell? ⟨b, off + k * 5 + 1, none⟩ = some (.slice ta ln tc) := fun O O' => HC.out _ ((HK.out.keep (below1 wo O)).keep (below1 _ O')).below.drew 1 _ rfl
     have k2 : wo.drew.cell? ⟨b, off + k * 5 + 2, none⟩ = some (.int .i64 ur) := HC.out _ HK.out.below.drew 2 _ rfl
     have k2a : ∀ O, (wo.alloc O).drew.cell? ⟨b, off + k * 5 + 2, none⟩ = some (.int .i64 ur) := fun O => HC.out _ (HK.out.keep (below1 wo O)).below.drew 2 _ rfl
     have k2b : ∀ O O', ((wo.alloc O).alloc O').drew.cell? ⟨b, off + k * 5 + 2, none⟩ = some (.int .i64 ur) := fun O O' => HC.out _ ((HK.out.keep (below1 wo O)).keep (below1 _ O')).below.drew 2 _ rfl
     have k3 : wo.drew.cell? ⟨b, off + k * 5 + 3, none⟩ = some (.int .i64 ux) := HC.out _ HK.out.below.drew 3 _ rfl
     have k3a : ∀ O, (wo.alloc O).drew.cell? ⟨b, off + k * 5 + 3, none⟩ = some (.int .i64 ux) := fun O => HC.out _ (HK.out.keep (below1 wo O)).below.drew 3 _ rfl
     have k3b : ∀ O O', ((wo.alloc O).alloc O').drew.cell? ⟨b, off + k * 5 + 3, none⟩ = some (.int .i64 ux) := fun O O' => HC.out _ ((HK.out.keep (below1 wo O)).keep (below1 _ O')).below.drew 3 _ rfl
     have k4 : wo.drew.cell? ⟨b, off + k * 5 + 4, none⟩ = some (.int .i64 uw) := HC.out _ HK.out.below.drew 4 _ rfl
     have k4a : ∀ O, (wo.alloc O).drew.cell? ⟨b, off + k * 5 + 4, none⟩ = some (.int .i64 uw) := fun O => HC.out _ (HK.out.keep (below1 wo O)).below.drew 4 _ rfl
     have k4b : ∀ O O', ((wo.alloc O).alloc O').drew.cell? ⟨b, off + k * 5 + 4, none⟩ = some (.int .i64 uw) := fun O O' => HC.out _ ((HK.out.keep (below1 wo O)).keep (below1 _ O')).below.drew 4 _ rfl
     have j0 : wo.drew.cell? ⟨b2, off2 + k * 5, none⟩ = some (.string un) := HC2.out _ HK.out.below.drew 0 _ rfl
     have j0a : ∀ O, (wo.alloc O).drew.cell? ⟨b2, off2 + k * 5, none⟩ = some (.string un) := fun O => HC2.out _ (HK.out.keep (below1 wo O)).below.drew 0 _ rfl
     have j0b : ∀ O O', ((wo.alloc O).alloc O').drew.cell? ⟨b2, off2 + k * 5, none⟩ = some (.string un) := fun O O' => HC2.out _ ((HK.out.keep (below1 wo O)).keep (below1 _ O')).below.drew 0 _ rfl
     have j1 : wo.drew.cell? ⟨b2, off2 + k * 5 + 1, none⟩ = some (.slice ua ln uc) := HC2.out _ HK.out.below.drew 1 _ rfl
     have j1a : ∀ O, (wo.alloc O).drew.cell? ⟨b2, off2 + k * 5 + 1, none⟩ = some (.slice ua ln uc) := fun O => HC2.out _ (HK.out.keep (below1 wo O)).below.drew 1 _ rfl
     have j1b : ∀ O O', ((wo.alloc O).alloc O').drew.cell? ⟨b2, off2 + k * 5 + 1, none⟩ = some (.slice ua ln uc) := fun O O' => HC2.out _ ((HK.out.keep (below1 wo O)).keep (below1 _ O')).below.drew 1 _ rfl
     have j2 : wo.drew.cell? ⟨b2, off2 + k * 5 + 2, none⟩ = some (.int .i64 ur) := HC2.out _ HK.out.below.drew 2 _ rfl
     have j2a : ∀ O, (wo.alloc O).drew.cell? ⟨b2, off2 + k * 5 + 2, none⟩ = some (.int .i64 ur) := fun O => HC2.out _ (HK.out.keep (below1 wo O)).below.drew 2 _ rfl
     have j2b : ∀ O O', ((wo.alloc O).alloc O').drew.cell? ⟨b2, off2 + k * 5 + 2, none⟩ = some (.int .i64 ur) := fun O O' => HC2.out _ ((HK.out.keep (below1 wo O)).keep (below1 _ O')).below.drew 2 _ rfl
     have j3 : wo.drew.cell? ⟨b2, off2 + k * 5 + 3, none⟩ = some (.int .i64 ux) := HC2.out _ HK.out.below.drew 3 _ rfl
     have j3a : ∀ O, (wo.alloc O).drew.cell? ⟨b2, off2 + k * 5 + 3, none⟩ = some (.int .i64 ux) := fun O => HC2.out _ (HK.out.keep (below1 wo O)).below.drew 3 _ rfl
     have j3b : ∀ O O', ((wo.alloc O).alloc O').drew.cell? ⟨b2, off2 + k * 5 + 3, none⟩ = some (.int .i64 ux) := fun O O' => HC2.out _ ((HK.out.keep (below1 wo O)).keep (below1 _ O')).below.drew 3 _ rfl
     have j4 : wo.drew.cell? ⟨b2, off2 + k * 5 + 4, none⟩ = some (.int .i64 uw) := HC2.out _ HK.out.below.drew 4 _ rfl
     have j4a : ∀ O, (wo.alloc O).drew.cell? ⟨b2, off2 + k * 5 + 4, none⟩ = some (.int .i64 uw) := fun O => HC2.out _ (HK.out.keep (below1 wo O)).below.drew 4 _ rfl
     have j4b : ∀ O O', ((wo.alloc O).alloc O').drew.cell? ⟨b2, off2 + k * 5 + 4, none⟩ = some (.int .i64 uw) := fun O O' => HC2.out _ ((HK.out.keep (below1 wo O)).keep (below1 _ O')).below.drew 4 _ rfl
     have sa : ∀ O, (wo.alloc O).drew.cell? ⟨w.heap.size, 0, none⟩ = some (.slice (some ⟨b, off, none⟩) n c) := fun O => cell_of_row (wo.alloc O).drew _ 0 _ _ _ (HK.out.keep (below1 wo O)).s1
     have sb : ∀ O O', ((wo.alloc O).alloc O').drew.cell? ⟨w.heap.size, 0, none⟩ = some (.slice (some ⟨b, off, none⟩) n c) := fun O O' => cell_of_row ((wo.alloc O).alloc O').drew _ 0 _ _ _ ((HK.out.keep (below1 wo O)).keep (below1 _ O')).s1
     have va : ∀ O, (wo.alloc O).drew.cell? ⟨w.heap.size + 1, 0, none⟩ = some (.slice (some ⟨b2, off2, none⟩) n c2) := fun O => cell_of_row (wo.alloc O).drew _ 0 _ _ _ (HK.out.keep (below1 wo O)).s2
     have vb : ∀ O O', ((wo.alloc O).alloc O').drew.cell? ⟨w.heap.size + 1, 0, none⟩ = some (.slice (some ⟨b2, off2, none⟩) n c2) := fun O O' => cell_of_row ((wo.alloc O).alloc O').drew _ 0 _ _ _ ((HK.out.keep (below1 wo O)).keep (below1 _ O')).s2
     go_wp2_with fail
     go_region
     all_goals
       first
       | (obtain ⟨W0, hW0⟩ : ∃ W0, W0 = ((wo.alloc (.cells #[.string un, .slice ta ln tc, .int .i64 ur, .int .i64 ux, .int .i64 uw] 25)).alloc (.cells #[.string un, .slice ua ln uc, .int .i64 ur, .int .i64 ux, .int .i64 uw] 25)).drew := ⟨_, rfl⟩
          rw [← hW0]
          have HX6 := Lib.hid (show W0.heap[wo.heap.size]? = some (.cells #[.string un, .slice ta ln tc, .int .i64 ur, .int .i64 ux, .int .i64 uw] 25) by rw [hW0]; exact (heap_alloc_old (wo.alloc (.cells #[.string un, .slice ta ln tc, .int .i64 ur, .int .i64 ux, .int .i64 uw] 25)) _ (by simp)).trans (heap_alloc_new wo _))
          have HX7 := Lib.hid (show W0.heap[wo.heap.size + 1]? = some (.cells #[.string un, .slice ua ln uc, .int .i64 ur, .int .i64 ux, .int .i64 uw] 25) by rw [hW0]; have h := heap_alloc_new (wo.alloc (.cells #[.string un, .slice ta ln tc, .int .i64 ur, .int .i64 ux, .int .i64 uw] 25)) (.cells #[.string un, .slice ua ln uc, .int .i64 ur, .int .i64 ux, .int .i64 uw] 25); rwa [World.size_alloc] at h)
          have HKW := Lib.hid (show SameK w (some ⟨b, off, none⟩) n c ia mx ic (some ⟨b2, off2, none⟩) c2 ia2 ic2 W0 by rw [hW0]; exact ((HK.out.keep (below1 wo _)).keep (below1 _ _)).keep ((Below.refl _ _).drew))
          clear hW0)
       | (obtain ⟨W0, hW0⟩ : ∃ W0, W0 = ((wo.alloc (.cells #[.string un, .slice ua ln uc, .int .i64 ur, .int .i64 ux, .int .i64 uw] 25)).alloc (.cells #[.string un, .slice ta ln tc, .int .i64 ur, .int .i64 ux, .int .i64 uw] 25)).drew := ⟨_, rfl⟩
          rw [← hW0]
          have HX7 := Lib.hid (show W0.heap[wo.heap.size]? = some (.cells #[.string un, .slice ua ln uc, .int .i64 ur, .int .i64 ux, .int .i64 uw] 25) by rw [hW0]; exact (heap_alloc_old (wo.alloc (.cells #[.string un, .slice ua ln uc, .int .i64 ur, .int .i64 ux, .int .i64 uw] 25)) _ (by simp)).trans (heap_alloc_new wo _))
          have HX6 := Lib.hid (show W0.heap[wo.heap.size + 1]? = some (.cells #[.string un, .slice ta ln tc, .int .i64 ur, .int .i64 ux, .int .i64 uw] 25) by rw [hW0]; have h := heap_alloc_new (wo.alloc (.cells #[.string un, .slice ua ln uc, .int .i64 ur, .int .i64 ux, .int .i64 uw] 25)) (.cells #[.string un, .slice ta ln tc, .int .i64 ur, .int .i64 ux, .int .i64 uw] 25); rwa [World.size_alloc] at h)
          have HKW := Lib.hid (show SameK w (some ⟨b, off, none⟩) n c ia mx ic (some ⟨b2, off2, none⟩) c2 ia2 ic2 W0 by rw [hW0]; exact ((HK.out.keep (below1 wo _)).keep (below1 _ _)).keep ((Below.refl _ _).drew))
          clear hW0)
       clear k0 k0a k0b k1 k1a k1b k2 k2a k2b k3 k3a k3b k4 k4a k4b j0 j0a j0b j1 j1a j1b j2 j2a j2b j3 j3a j3b j4 j4a j4b sa sb va vb s0 s1 v0 v1
       have x0 := cell_of_row W0 _ 0 _ _ _ HX6.out
       have y0 := cell_of_row W0 _ 0 _ _ _ HX7.out
       have x1 := cell_of_row W0 _ 1 _ _ _ HX6.out
       have y1 := cell_of_row W0 _ 1 _ _ _ HX7.out
       have x2 := cell_of_row W0 _ 2 _ _ _ HX6.out
       have y2 := cell_of_row W0 _ 2 _ _ _ HX7.out
       have x3 := cell_of_row W0 _ 3 _ _ _ HX6.out
       have y3 := cell_of_row W0 _ 3 _ _ _ HX7.out
       have x4 := cell_of_row W0 _ 4 _ _ _ HX6.out
       have y4 := cell_of_row W0 _ 4 _ _ _ HX7.out
       have hll : ((ln : Int) == (ln : Int)) = true := beq_self_eq_true _
       go_wp2_with fail
       clear x0 y0 x1 y1 x2 y2 x3 y3 x4 y4
       go_loopw [8] (fun i wr => ∃ q : Nat, q ≤ ln ∧ i = .int .i64 q ∧ Hid (Below W0.heap.size W0 wr)) (fun i _ => ln - (intOf i).toNat)
       case atStart => exact ⟨0, Nat.zero_le _, rfl, Lib.hid (Below.refl _ _)⟩
       case round =>
         obtain ⟨q, hq, rfl, HB⟩ := hrel
         obtain ⟨wi, rfl⟩ : ∃ wi : World, wi = wr := ⟨_, rfl⟩
         have HBW := Lib.hid (show Below w.heap.size w wi from HKW.out.below.trans (HB.out.mono HKW.out.below.size))
         have x1 := cell_of_row wi _ 1 _ _ _ ((HB.out.block _ (heap_lt HX6.out)).trans HX6.out)
         have y1 := cell_of_row wi _ 1 _ _ _ ((HB.out.block _ (heap_lt HX7.out)).trans HX7.out)
         by_cases hql : q < ln
         · obtain ⟨z, hz⟩ : ∃ z, l[q]? = some z := ⟨_, List.getElem?_eq_getElem (by have := HLN.out; omega)⟩
           have hql2 : ((q : Int) < (ln : Int)) = True := eq_true (by omega)
           obtain ⟨b3, off3, rfl, hb3, hc3⟩ : ∃ b3 off3, ta = some ⟨b3, off3, none⟩ ∧ b3 < w.heap.size ∧ ∀ (i : Nat) (v : Value), (colL z)[i]? = some v → w.cell? ⟨b3, off3 + q * 3 + i, none⟩ = some v := by
             rcases HCO.out.2 with h0' | ⟨b3, off3, h1, h2, h3⟩
             · exfalso; rw [List.map_eq_nil_iff] at h0'; rw [h0'] at hz; simp at hz
             · exact ⟨b3, off3, h1, h2, (h3 q (colL z) (by rw [List.getElem?_map, hz]; rfl)).2⟩
           obtain ⟨b4, off4, rfl, hb4, hc4⟩ : ∃ b4 off4, ua = some ⟨b4, off4, none⟩ ∧ b4 < w.heap.size ∧ ∀ (i : Nat) (v : Value), (colL z)[i]? = some v → w.cell? ⟨b4, off4 + q * 3 + i, none⟩ = some v := by
             rcases HCO2.out.2 with h0' | ⟨b4, off4, h1, h2, h3⟩
             · exfalso; rw [List.map_eq_nil_iff] at h0'; rw [h0'] at hz; simp at hz
             · exact ⟨b4, off4, h1, h2, (h3 q (colL z) (by rw [List.getElem?_map, hz]; rfl)).2⟩
           obtain ⟨zn, zt, zb⟩ := z
           have m0 : wi.cell? ⟨b3, off3 + q * 3, none⟩ = some (.string zn) := (HBW.out.cell (p := ⟨b3, off3 + q * 3, none⟩) hb3).trans (hc3 0 _ rfl)
           have m1 : wi.cell? ⟨b3, off3 + q * 3 + 1, none⟩ = some (.int .i64 zt) := (HBW.out.cell (p := ⟨b3, off3 + q * 3 + 1, none⟩) hb3).trans (hc3 1 _ rfl)
           have m2 : wi.cell? ⟨b3, off3 + q * 3 + 2, none⟩ = some (.bool zb) := (HBW.out.cell (p := ⟨b3, off3 + q * 3 + 2, none⟩) hb3).trans (hc3 2 _ rfl)
           have o0 : wi.cell? ⟨b4, off4 + q * 3, none⟩ = some (.string zn) := (HBW.out.cell (p := ⟨b4, off4 + q * 3, none⟩) hb4).trans (hc4 0 _ rfl)
           have o1 : wi.cell? ⟨b4, off4 + q * 3 + 1, none⟩ = some (.int .i64 zt) := (HBW.out.cell (p := ⟨b4, off4 + q * 3 + 1, none⟩) hb4).trans (hc4 1 _ rfl)
           have o2 : wi.cell? ⟨b4, off4 + q * 3 + 2, none⟩ = some (.bool zb) := (HBW.out.cell (p := ⟨b4, off4 + q * 3 + 2, none⟩) hb4).trans (hc4 2 _ rfl)
           have HNE := fun W => neq_col zn zn zt zb W rfl
           clear hz hc3 hc4
           go_wp2_with fail
           go_quiet ((fail))
           go_wp2_with fail
           go_roundw
           case rel => exact ⟨q + 1, by omega, by go_num, Lib.hid (HB.out.trans (below_drewN (Below.refl _ _) nq))⟩
           case measure => simp [intOf] <;> omega
         · obtain rfl : ln = q := by omega
           go_wp2_with fail
           go_roundw
           case rel => exact ⟨k + 1, by omega, by go_num, Lib.hid (HKW.out.keep HB.out)⟩
           case measure => simp [intOf] <;> omega
   · obtain rfl : n = k := by omega
     go_wp2_with fail
     clear s0 s1 v0 v1
     go_loopw [9] (fun i wr => ∃ k : Nat, k ≤ mx ∧ i = .int .i64 k ∧ Hid (SameK w A n c ia mx ic A2 c2 ia2 ic2 wr)) (fun i _ => mx - (intOf i).toNat)
     case atStart => exact ⟨0, Nat.zero_le _, rfl, HK⟩
     case round =>
       obtain ⟨k, hk, rfl, HK⟩ := hrel
       obtain ⟨wo, rfl⟩ : ∃ wo : World, wo = wr := ⟨_, rfl⟩
       have s0 := cell_of_row _ _ 0 _ _ _ HK.out.s1
       have s1 := cell_of_row _ _ 1 _ _ _ HK.out.s1
       have v0 := cell_of_row _ _ 0 _ _ _ HK.out.s2
       have v1 := cell_of_row _ _ 1 _ _ _ HK.out.s2
       by_cases hkn : k < mx
       · obtain ⟨⟨t, l⟩, hx⟩ : ∃ x, xs[k]? = some x := ⟨_, List.getElem?_eq_getElem (by have := HM.out; omega)⟩
         have hkn2 : ((k : Int) < (mx : Int)) = True := eq_true (by omega)
         obtain ⟨t2, hx2, e1, e2, e3, e4, e5⟩ := HXE.out k t l hx
         obtain ⟨b, off, rfl, HC⟩ := HX.out.cell hx
         obtain ⟨b2, off2, rfl, HC2⟩ := HX2.out.cell hx2
         obtain ⟨c1, c2', _⟩ := (HX.out.2 _ (List.mem_of_getElem? hx))
         obtain ⟨d1, d2, _⟩ := (HX2.out.2 _ (List.mem_of_getElem? hx2))
         dsimp only at c1 c2' d1 d2
         obtain ⟨tn, tt, ta, tl, tc, tr, tx, tw⟩ := t
         obtain ⟨un, ut, ua, ul, uc, ur, ux, uw⟩ := t2
         dsimp only at e1 e2 e3 e4 e5 c2' d2 c1 d1
         obtain ⟨ln, hln⟩ : ∃ ln, ln = l.length := ⟨_, rfl⟩
         have HLN := Lib.hid hln
         rw [← hln] at c2' d2
         have c2s := c2'.symm
         have d2s := d2.symm
         subst e1 e2 e3 e4 e5 c2s d2s
         have HCO := Lib.hid c1
         have HCO2 := Lib.hid d1
         clear hx hx2 c1 d1 hln
         have hlnb : ln ≤ 9223372036854775807 := by have := HCO.out.1; unfold maxLen at this; have := HLN.out; omega
         have hnb : mx ≤ 9223372036854775807 := by have := HX.out.1.1; rw [List.length_map, List.length_map] at this; unfold maxLen at this; have := HM.out; omega
         have k0 : wo.drew.cell? ⟨b, off + k * 6, none⟩ = some (.string un) := HC.out _ HK.out.below.drew 0 _ rfl
         have k0a : ∀ O, (wo.alloc O).drew.cell? ⟨b, off + k * 6, none⟩ = some (.string un) := fun O => HC.out _ (HK.out.keep (below1 wo O)).below.drew 0 _ rfl
         have k0b : ∀ O O', ((wo.alloc O).alloc O').drew.cell? ⟨b, off + k * 6, none⟩ = some (.string un) := fun O O' => HC.out _ ((HK.out.keep (below1 wo O)).keep (below1 _ O')).below.drew 0 _ rfl
         have k1 : wo.drew.cell? ⟨b, off + k * 6 + 1, none⟩ = some (.string ut) := HC.out _ HK.out.below.drew 1 _ rfl
         have k1a : ∀ O, (wo.alloc O).drew.cell? ⟨b, off + k * 6 + 1, none⟩ = some (.string ut) := fun O => HC.out _ (HK.out.keep (below1 wo O)).below.drew 1 _ rfl
         have k1b : ∀ O O', ((wo.alloc O).alloc O').drew.cell? ⟨b, off + k * 6 + 1, none⟩ = some (.string ut) := fun O O' => HC.out _ ((HK.out.keep (below1 wo O)).keep (below1 _ O')).below.drew 1 _ rfl
         have k2 : wo.drew.cell? ⟨b, off + k * 6 + 2, none⟩ = some (.slice ta ln tc) := HC.out _ HK.out.below.drew 2 _ rfl
         have k2a : ∀ O, (wo.alloc O).drew.cell? ⟨b, off + k * 6 + 2, none⟩ = some (.slice ta ln tc) := fun O => HC.out _ (HK.out.keep (below1 wo O)).below.drew 2 _ rfl
         have k2b : ∀ O O', ((wo.alloc O).alloc O').drew.cell? ⟨b, off + k * 6 + 2, none⟩ = some (.slice ta ln tc) := fun O O' => HC.out _ ((HK.out.keep (below1 wo O)).keep (below1 _ O')).below.drew 2 _ rfl
         have k3 : wo.drew.cell? ⟨b, off + k * 6 + 3, none⟩ = some (.int .i64 ur) := HC.out _ HK.out.below.drew 3 _ rfl
         have k3a : ∀ O, (wo.alloc O).drew.cell? ⟨b, off + k * 6 + 3, none⟩ = some (.int .i64 ur) := fun O => HC.out _ (HK.out.keep (below1 wo O)).below.drew 3 _ rfl
         have k3b : ∀ O O', ((wo.alloc O).alloc O').drew.cell? ⟨b, off + k * 6 + 3, none⟩ = some (.int .i64 ur) := fun O O' => HC.out _ ((HK.out.keep (below1 wo O)).keep (below1 _ O')).below.drew 3 _ rfl
         have k4 : wo.drew.cell? ⟨b, off + k * 6 + 4, none⟩ = some (.int .i64 ux) := HC.out _ HK.out.below.drew 4 _ rfl
         have k4a : ∀ O, (wo.alloc O).drew.cell? ⟨b, off + k * 6 + 4, none⟩ = some (.int .i64 ux) := fun O => HC.out _ (HK.out.keep (below1 wo O)).below.drew 4 _ rfl
         have k4b : ∀ O O', ((wo.alloc O).alloc O').drew.cell? ⟨b, off + k * 6 + 4, none⟩ = some (.int .i64 ux) := fun O O' => HC.out _ ((HK.out.keep (below1 wo O)).keep (below1 _ O')).below.drew 4 _ rfl
         have k5 : wo.drew.cell? ⟨b, off + k * 6 + 5, none⟩ = some (.int .i64 uw) := HC.out _ HK.out.below.drew 5 _ rfl
         have k5a : ∀ O, (wo.alloc O).drew.cell? ⟨b, off + k * 6 + 5, none⟩ = some (.int .i64 uw) := fun O => HC.out _ (HK.out.keep (below1 wo O)).below.drew 5 _ rfl
         have k5b : ∀ O O', ((wo.alloc O).alloc O').drew.cell? ⟨b, off + k * 6 + 5, none⟩ = some (.int .i64 uw) := fun O O' => HC.out _ ((HK.out.keep (below1 wo O)).keep (below1 _ O')).below.drew 5 _ rfl
         have j0 : wo.drew.cell? ⟨b2, off2 + k * 6, none⟩ = some (.string un) := HC2.out _ HK.out.below.drew 0 _ rfl
         have j0a : ∀ O, (wo.alloc O).drew.cell? ⟨b2, off2 + k * 6, none⟩ = some (.string un) := fun O => HC2.out _ (HK.out.keep (below1 wo O)).below.drew 0 _ rfl
         have j0b : ∀ O O', ((wo.alloc O).alloc O').drew.cell? ⟨b2, off2 + k * 6, none⟩ = some (.string un) := fun O O' => HC2.out _ ((HK.out.keep (below1 wo O)).keep (below1 _ O')).below.drew 0 _ rfl
         have j1 : wo.drew.cell? ⟨b2, off2 + k * 6 + 1, none⟩ = some (.string ut) := HC2.out _ HK.out.below.drew 1 _ rfl
         have j1a : ∀ O, (wo.alloc O).drew.cell? ⟨b2, off2 + k * 6 + 1, none⟩ = some (.string ut) := fun O => HC2.out _ (HK.out.keep (below1 wo O)).below.drew 1 _ rfl
         have j1b : ∀ O O', ((wo.alloc O).alloc O').drew.cell? ⟨b2, off2 + k * 6 + 1, none⟩ = some (.string ut) := fun O O' => HC2.out _ ((HK.out.keep (below1 wo O)).keep (below1 _ O')).below.drew 1 _ rfl
         have j2 : wo.drew.cell? ⟨b2, off2 + k * 6 + 2, none⟩ = some (.slice ua ln uc) := HC2.out _ HK.out.below.drew 2 _ rfl
         have j2a : ∀ O, (wo.alloc O).drew.cell? ⟨b2, off2 + k * 6 + 2, none⟩ = some (.slice ua ln uc) := fun O => HC2.out _ (HK.out.keep (below1 wo O)).below.drew 2 _ rfl
         have j2b : ∀ O O', ((wo.alloc O).alloc O').drew.cell? ⟨b2, off2 + k * 6 + 2, none⟩ = some (.slice ua ln uc) := fun O O' => HC2.out _ ((HK.out.keep (below1 wo O)).keep (below1 _ O')).below.drew 2 _ rfl
         have j3 : wo.drew.cell? ⟨b2, off2 + k * 6 + 3, none⟩ = some (.int .i64 ur) := HC2.out _ HK.out.below.drew 3 _ rfl
         have j3a : ∀ O, (wo.alloc O).drew.cell? ⟨b2, off2 + k * 6 + 3, none⟩ = some (.int .i64 ur) := fun O => HC2.out _ (HK.out.keep (below1 wo O)).below.drew 3 _ rfl
         have j3b : ∀ O O', ((wo.alloc O).alloc O').drew.cell? ⟨b2, off2 + k * 6 + 3, none⟩ = some (.int .i64 ur) := fun O O' => HC2.out _ ((HK.out.keep (below1 wo O)).keep (below1 _ O')).below.drew 3 _ rfl
         have j4 : wo.drew.cell? ⟨b2, off2 + k * 6 + 4, none⟩ = some (.int .i64 ux) := HC2.out _ HK.out.below.drew 4 _ rfl
         have j4a : ∀ O, (wo.alloc O).drew.cell? ⟨b2, off2 + k * 6 + 4, none⟩ = some (.int .i64 ux) := fun O => HC2.out _ (HK.out.keep (below1 wo O)).below.drew 4 _ rfl
         have j4b : ∀ O O', ((wo.alloc O).alloc O').drew.cell? ⟨b2, off2 + k * 6 + 4, none⟩ = some (.int .i64 ux) := fun O O' => HC2.out _ ((HK.out.keep (below1 wo O)).keep (below1 _ O')).below.drew 4 _ rfl
         have j5 : wo.drew.cell? ⟨b2, off2 + k * 6 + 5, none⟩ = some (.int .i64 uw) := HC2.out _ HK.out.below.drew 5 _ rfl
         have j5a : ∀ O, (wo.alloc O).drew.cell? ⟨b2, off2 + k * 6 + 5, none⟩ = some (.int .i64 uw) := fun O => HC2.out _ (HK.out.keep (below1 wo O)).below.drew 5 _ rfl
         have j5b : ∀ O O', ((wo.alloc O).alloc O').drew.cell? ⟨b2, off2 + k * 6 + 5, none⟩ = some (.int .i64 uw) := fun O O' => HC2.out _ ((HK.out.keep (below1 wo O)).keep (below1 _ O')).below.drew 5 _ rfl
         have sa : ∀ O, (wo.alloc O).drew.cell? ⟨w.heap.size, 1, none⟩ = some (.slice (some ⟨b, off, none⟩) mx ic) := fun O => cell_of_row (wo.alloc O).drew _ 1 _ _ _ (HK.out.keep (below1 wo O)).s1
         have sb : ∀ O O', ((wo.alloc O).alloc O').drew.cell? ⟨w.heap.size, 1, none⟩ = some (.slice (some ⟨b, off, none⟩) mx ic) := fun O O' => cell_of_row ((wo.alloc O).alloc O').drew _ 1 _ _ _ ((HK.out.keep (below1 wo O)).keep (below1 _ O')).s1
         have va : ∀ O, (wo.alloc O).drew.cell? ⟨w.heap.size + 1, 1, none⟩ = some (.slice (some ⟨b2, off2, none⟩) mx ic2) := fun O => cell_of_row (wo.alloc O).drew _ 1 _ _ _ (HK.out.keep (below1 wo O)).s2
         have vb : ∀ O O', ((wo.alloc O).alloc O').drew.cell? ⟨w.heap.size + 1, 1, none⟩ = some (.slice (some ⟨b2, off2, none⟩) mx ic2) := fun O O' => cell_of_row ((wo.alloc O).alloc O').drew _ 1 _ _ _ ((HK.out.keep (below1 wo O)).keep (below1 _ O')).s2
         go_wp2_with fail
         go_region
         all_goals
           first
           | (obtain ⟨W0, hW0⟩ : ∃ W0, W0 = ((wo.alloc (.cells #[.string un, .string ut, .slice ta ln tc, .int .i64 ur, .int .i64 ux, .int .i64 uw] 28)).alloc (.cells #[.string un, .string ut, .slice ua ln uc, .int .i64 ur, .int .i64 ux, .int .i64 uw] 28)).drew := ⟨_, rfl⟩
              rw [← hW0]
              have HX6 := Lib.hid (show W0.heap[wo.heap.size]? = some (.cells #[.string un, .string ut, .slice ta ln tc, .int .i64 ur, .int .i64 ux, .int .i64 uw] 28) by rw [hW0]; exact (heap_alloc_old (wo.alloc (.cells #[.string un, .string ut, .slice ta ln tc, .int .i64 ur, .int .i64 ux, .int .i64 uw] 28)) _ (by simp)).trans (heap_alloc_new wo _))
              have HX7 := Lib.hid (show W0.heap[wo.heap.size + 1]? = some (.cells #[.string un, .string ut, .slice ua ln uc, .int .i64 ur, .int .i64 ux, .int .i64 uw] 28) by rw [hW0]; have h := heap_alloc_new (wo.alloc (.cells #[.string un, .string ut, .slice ta ln tc, .int .i64 ur, .int .i64 ux, .int .i64 uw] 28)) (.cells #[.string un, .string ut, .slice ua ln uc, .int .i64 ur, .int .i64 ux, .int .i64 uw] 28); rwa [World.size_alloc] at h)
              have HKW := Lib.hid (show SameK w A n c (some ⟨b, off, none⟩) mx ic A2 c2 (some ⟨b2, off2, none⟩) ic2 W0 by rw [hW0]; exact ((HK.out.keep (below1 wo _)).keep (below1 _ _)).keep ((Below.refl _ _).drew))
              clear hW0)
           | (obtain ⟨W0, hW0⟩ : ∃ W0, W0 = ((wo.alloc (.cells #[.string un, .string ut, .slice ua ln uc, .int .i64 ur, .int .i64 ux, .int .i64 uw] 28)).alloc (.cells #[.string un, .string ut, .slice ta ln tc, .int .i64 ur, .int .i64 ux, .int .i64 uw] 28)).drew := ⟨_, rfl⟩
              rw [← hW0]
              have HX7 := Lib.hid (show W0.heap[wo.heap.size]? = some (.cells #[.string un, .string ut, .slice ua ln uc, .int .i64 ur, .int .i64 ux, .int .i64 uw] 28) by rw [hW0]; exact (heap_alloc_old (wo.alloc (.cells #[.string un, .string ut, .slice ua ln uc, .int .i64 ur, .int .i64 ux, .int .i64 uw] 28)) _ (by simp)).trans (heap_alloc_new wo _))
              have HX6 := Lib.hid (show W0.heap[wo.heap.size + 1]? = some (.cells #[.string un, .string ut, .slice ta ln tc, .int .i64 ur, .int .i64 ux, .int .i64 uw] 28) by rw [hW0]; have h := heap_alloc_new (wo.alloc (.cells #[.string un, .string ut, .slice ua ln uc, .int .i64 ur, .int .i64 ux, .int .i64 uw] 28)) (.cells #[.string un, .string ut, .slice ta ln tc, .int .i64 ur, .int .i64 ux, .int .i64 uw] 28); rwa [World.size_alloc] at h)
              have HKW := Lib.hid (show SameK w A n c (some ⟨b, off, none⟩) mx ic A2 c2 (some ⟨b2, off2, none⟩) ic2 W0 by rw [hW0]; exact ((HK.out.keep (below1 wo _)).keep (below1 _ _)).keep ((Below.refl _ _).drew))
              clear hW0)
           clear k0 k0a k0b k1 k1a k1b k2 k2a k2b k3 k3a k3b k4 k4a k4b k5 k5a k5b j0 j0a j0b j1 j1a j1b j2 j2a j2b j3 j3a j3b j4 j4a j4b j5 j5a j5b sa sb va vb s0 s1 v0 v1
           have x0 := cell_of_row W0 _ 0 _ _ _ HX6.out
           have y0 := cell_of_row W0 _ 0 _ _ _ HX7.out
           have x1 := cell_of_row W0 _ 1 _ _ _ HX6.out
           have y1 := cell_of_row W0 _ 1 _ _ _ HX7.out
           have x2 := cell_of_row W0 _ 2 _ _ _ HX6.out
           have y2 := cell_of_row W0 _ 2 _ _ _ HX7.out
           have x3 := cell_of_row W0 _ 3 _ _ _ HX6.out
           have y3 := cell_of_row W0 _ 3 _ _ _ HX7.out
           have x4 := cell_of_row W0 _ 4 _ _ _ HX6.out
           have y4 := cell_of_row W0 _ 4 _ _ _ HX7.out
           have x5 := cell_of_row W0 _ 5 _ _ _ HX6.out
           have y5 := cell_of_row W0 _ 5 _ _ _ HX7.out
           have hll : ((ln : Int) == (ln : Int)) = true := beq_self_eq_true _
           go_wp2_with fail
           clear x0 y0 x1 y1 x2 y2 x3 y3 x4 y4 x5 y5
           go_loopw [12] (fun i wr => ∃ q : Nat, q ≤ ln ∧ i = .int .i64 q ∧ Hid (Below W0.heap.size W0 wr)) (fun i _ => ln - (intOf i).toNat)
           case atStart => exact ⟨0, Nat.zero_le _, rfl, Lib.hid (Below.refl _ _)⟩
           case round =>
             obtain ⟨q, hq, rfl, HB⟩ := hrel
             obtain ⟨wi, rfl⟩ : ∃ wi : World, wi = wr := ⟨_, rfl⟩
             have HBW := Lib.hid (show Below w.heap.size w wi from HKW.out.below.trans (HB.out.mono HKW.out.below.size))
             have x2 := cell_of_row wi _ 2 _ _ _ ((HB.out.block _ (heap_lt HX6.out)).trans HX6.out)
             have y2 := cell_of_row wi _ 2 _ _ _ ((HB.out.block _ (heap_lt HX7.out)).trans HX7.out)
             by_cases hql : q < ln
             · obtain ⟨z, hz⟩ : ∃ z, l[q]? = some z := ⟨_, List.getElem?_eq_getElem (by have := HLN.out; omega)⟩
               have hql2 : ((q : Int) < (ln : Int)) = True := eq_true (by omega)
               obtain ⟨b3, off3, rfl, hb3, hc3⟩ : ∃ b3 off3, ta = some ⟨b3, off3, none⟩ ∧ b3 < w.heap.size ∧ w.cell? ⟨b3, off3 + q, none⟩ = some (.int .i64 z) := by
                 rcases HCO.out.2 with h0' | ⟨b3, off3, h1, h2, h3⟩
                 · exfalso; rw [h0'] at hz; simp at hz
                 · exact ⟨b3, off3, h1, h2, h3 q z hz⟩
               obtain ⟨b4, off4, rfl, hb4, hc4⟩ : ∃ b4 off4, ua = some ⟨b4, off4, none⟩ ∧ b4 < w.heap.size ∧ w.cell? ⟨b4, off4 + q, none⟩ = some (.int .i64 z) := by
                 rcases HCO2.out.2 with h0' | ⟨b4, off4, h1, h2, h3⟩
                 · exfalso; rw [h0'] at hz; simp at hz
                 · exact ⟨b4, off4, h1, h2, h3 q z hz⟩
               have m0 : wi.cell? ⟨b3, off3 + q, none⟩ = some (.int .i64 z) := (HBW.out.cell (p := ⟨b3, off3 + q, none⟩) hb3).trans hc3
               have o0 : wi.cell? ⟨b4, off4 + q, none⟩ = some (.int .i64 z) := (HBW.out.cell (p := ⟨b4, off4 + q, none⟩) hb4).trans hc4
               have hzz : (z == z) = true := beq_self_eq_true _
               clear hz hc3 hc4
               go_wp2_with fail
               go_quiet ((fail))
               go_wp2_with fail
               go_roundw
               case rel => exact ⟨q + 1, by omega, by go_num, Lib.hid (HB.out.trans (below_drewN (Below.refl _ _) nq))⟩
               case measure => simp [intOf] <;> omega
             · obtain rfl : ln = q := by omega
               go_wp2_with fail
               go_roundw
               case rel => exact ⟨k + 1, by omega, by go_num, Lib.hid (HKW.out.keep HB.out)⟩
               case measure => simp [intOf] <;> omega
       · obtain rfl : mx = k := by omega
         go_wp2_with fail
         go_ret
         exact ⟨rfl, HK.out.below⟩
end Go.Proofs.YtcgpflkaejbkhaaGreatDoor
namespace Go.Proofs.YtcgpflkaejbkhaaGreatDoor
open Go.RowKit

theorem CellsAt.setBox {W : World} {K : Nat} {A : Option Addr} {ls : List (List Value)} (h : CellsAt W K A ls) (hne : ∀ x ∈ ls, ∃ u, x[0]? = some u ∧ ∀ a n c, u ≠ .slice a n c) {b : Nat} {p1 p4 : Option Addr} {p2 p3 p5 p6 : Nat} {ty : TypeId} (hb : W.heap[b]? = some (.cells #[.slice p1 p2 p3, .slice p4 p5 p6] ty)) (j : Nat) (v : Value) : CellsAt (W.setCell ⟨b, j, none⟩ v) K A ls := by
 cases ls with
 | nil => exact ⟨h.1, Or.inl rfl⟩
 | cons x ls =>
   refine CellsAt.setFar h b j v (fun a ha e => ?_)
   rcases h.2 with h0 | ⟨g, off, h1, h2, h3⟩
   · cases h0
   · rw [ha] at h1
     cases h1
     obtain ⟨u, hu, hs⟩ := hne x (by simp)
     have h4 := (h3 0 x rfl).2 0 u hu
     have e2 : g = b := e
     subst e2
     rw [cell_of_row W g _ _ _ _ hb] at h4
     have hlt := (Array.getElem?_eq_some_iff.1 h4).1
     simp at hlt
     have h5 : off + 0 * K + 0 = 0 ∨ off + 0 * K + 0 = 1 := by omega
     rcases h5 with h5 | h5 <;> rw [h5] at h4 <;> exact hs _ _ _ (Option.some.inj h4).symm
theorem IntsAt.setBox {W : World} {A : Option Addr} {l : List Int} (h : IntsAt W A l) {b : Nat} {p1 p4 : Option Addr} {p2 p3 p5 p6 : Nat} {ty : TypeId} (hb : W.heap[b]? = some (.cells #[.slice p1 p2 p3, .slice p4 p5 p6] ty)) (j : Nat) (v : Value) : IntsAt (W.setCell ⟨b, j, none⟩ v) A l := by
 cases l with
 | nil => exact ⟨h.1, Or.inl rfl⟩
 | cons z l =>
   refine IntsAt.setFar h b j v (fun a ha e => ?_)
   rcases h.2 with h0 | ⟨g, off, h1, h2, h3⟩
   · cases h0
   · rw [ha] at h1
     cases h1
     have h4 := h3 0 z rfl
     have e2 : g = b := e
     subst e2
     rw [cell_of_row W g _ _ _ _ hb] at h4
     have hlt := (Array.getElem?_eq_some_iff.1 h4).1
     simp at hlt
     have h5 : off + 0 = 0 ∨ off + 0 = 1 := by omega
     rcases h5 with h5 | h5 <;> rw [h5] at h4 <;> cases (Option.some.inj h4)
theorem DeepAt.setBox {W : World} {A : Option Addr} {ts : List (Tab × List Col)} (h : DeepAt W A ts) {b : Nat} {p1 p4 : Option Addr} {p2 p3 p5 p6 : Nat} {ty : TypeId} (hb : W.heap[b]? = some (.cells #[.slice p1 p2 p3, .slice p4 p5 p6] ty)) (j : Nat) (v : Value) : DeepAt (W.setCell ⟨b, j, none⟩ v) A ts := by
 refine ⟨CellsAt.setBox h.1 (fun x hx => ?_) hb j v, fun p hp => ⟨CellsAt.setBox (h.2 p hp).1 (fun x hx => ?_) hb j v, (h.2 p hp).2⟩⟩
 · obtain ⟨t, _, rfl⟩ := List.mem_map.1 hx
   exact ⟨_, rfl, fun a n c e => by cases e⟩
 · obtain ⟨t, _, rfl⟩ := List.mem_map.1 hx
   exact ⟨_, rfl, fun a n c e => by cases e⟩
theorem DeepIx.setBox {W : World} {A : Option Addr} {xs : List (Idx × List Int)} (h : DeepIx W A xs) {b : Nat} {p1 p4 : Option Addr} {p2 p3 p5 p6 : Nat} {ty : TypeId} (hb : W.heap[b]? = some (.cells #[.slice p1 p2 p3, .slice p4 p5 p6] ty)) (j : Nat) (v : Value) : DeepIx (W.setCell ⟨b, j, none⟩ v) A xs := by
 refine ⟨CellsAt.setBox h.1 (fun x hx => ?_) hb j v, fun p hp => ⟨IntsAt.setBox (h.2 p hp).1 hb j v, (h.2 p hp).2⟩⟩
 obtain ⟨t, _, rfl⟩ := List.mem_map.1 hx
 exact ⟨_, rfl, fun a n c e => by cases e⟩
def ReadP (w : World) (A ia : Option Addr) (ts : List (Tab × List Col)) (xs : List (Idx × List Int)) : Prop := DeepAt w A ts ∧ DeepIx w ia xs ∧ (∀ p ∈ ts, p.2.length ≤ 1000) ∧ (∀ p ∈ xs, p.2.length ≤ 1000)
theorem ReadP.setBox {W : World} {A ia : Option Addr} {ts : List (Tab × List Col)} {xs : List (Idx × List Int)} (h : ReadP W A ia ts xs) {b : Nat} {p1 p4 : Option Addr} {p2 p3 p5 p6 : Nat} {ty : TypeId} (hb : W.heap[b]? = some (.cells #[.slice p1 p2 p3, .slice p4 p5 p6] ty)) (r1 : Option Addr) (r2 r3 : Nat) (v : Value) : ReadP ((W.setCell ⟨b, 0, none⟩ (.slice r1 r2 r3)).setCell ⟨b, 1, none⟩ v) A ia ts xs := by
 have h2 : (W.setCell ⟨b, 0, none⟩ (.slice r1 r2 r3)).heap[b]? = some (.cells #[.slice r1 r2 r3, .slice p4 p5 p6] ty) := by
   rw [setCell_eq_setRow W b 0 _ ty _ _ hb]
   exact setRow_heap W _ _ _ ty _ hb
 exact ⟨(h.1.setBox hb 0 _).setBox h2 1 _, (h.2.1.setBox hb 0 _).setBox h2 1 _, h.2.2⟩
theorem OwnS.readP {base h n m c ic : Nat} {A ia : Option Addr} {ts : List (Tab × List Col)} {xs : List (Idx × List Int)} {W : World} (hS : OwnS base h (.slice A n c) (.slice ia m ic) ts xs W) (hn : n = ts.length) (hm : m = xs.length) (h1 : ts.length ≤ 1000) (h2 : xs.length ≤ 1000) : ReadP W A ia ts xs :=
 ⟨hS.deepT hn h1, hS.deepX hm h2, fun p hp => (hS.cols p hp).2.2.2.2.1, fun p hp => (hS.places p hp).2.2.2.2.1⟩
end Go.Proofs.YtcgpflkaejbkhaaGreatDoor
