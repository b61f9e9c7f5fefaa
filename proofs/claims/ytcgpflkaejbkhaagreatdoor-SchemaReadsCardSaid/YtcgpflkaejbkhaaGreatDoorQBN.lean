/- The two passes of Read, and what holds on the way: boxes over a schema that is read. -/
import Derived.Test.YtcgpflkaejbkhaaGreatDoorQBL
import Derived.Test.YtcgpflkaejbkhaaGreatDoorQAY
import Derived.Test.YtcgpflkaejbkhaaGreatDoorQBM
import Derived.Test.YtcgpflkaejbkhaaGreatDoorQBJ
namespace Go.Proofs.YtcgpflkaejbkhaaGreatDoor
open Go.RowKit

theorem heap_set_other2 (W : World) {b c i : Nat} (v : Value) (h : c ≠ b) : (W.setCell ⟨b, i, none⟩ v).heap[c]? = W.heap[c]? := by
 by_cases hc : c < W.heap.size
 · exact (grown_set W b i v).block c hc (fun e => h (Option.some.inj e))
 · have h1 : W.heap[c]? = none := Array.getElem?_eq_none (by omega)
   have h2 : (W.setCell ⟨b, i, none⟩ v).heap.size = W.heap.size := by simp
   rw [h1]
   exact Array.getElem?_eq_none (by omega)
abbrev Ens := List (List UInt8 × List UInt8)
def kindOf (q : Nat) : UInt8 := if q = 0 then 116 else 105
def prog (L : Ens) : Nat → Option Sch
 | 0 => some ([], [])
 | 1 => passE 116 ([], []) L
 | _ => (passE 116 ([], []) L).bind fun s => passE 105 s L
theorem prog_succ (L : Ens) {q : Nat} (hq : q < 2) : prog L (q + 1) = (prog L q).bind fun s => passE (kindOf q) s L := by
 match q, hq with
 | 0, _ => rfl
 | 1, _ => rfl
theorem readF_of {L : Ens} {s : Sch} (h : prog L 2 = some s) : readF L = if entsP s.1 s.2 = L then some s else none := by
 unfold readF
 rw [show ((passE 116 ([], []) L).bind fun s => passE 105 s L) = some s from h]
 rfl
theorem readF_none {L : Ens} {q : Nat} (hq : q ≤ 2) (h : prog L q = none) : readF L = none := by
 have h2 : prog L 2 = none := by
   match q, hq with
   | 0, _ => cases h
   | 1, _ => rw [prog_succ L (by omega : 1 < 2), h]; rfl
   | 2, _ => exact h
 unfold readF
 rw [show ((passE 116 ([], []) L).bind fun s => passE 105 s L) = none from h2]
 rfl
theorem prog_fail {L : Ens} {q j : Nat} {s0 s : Sch} {p : List UInt8 × List UInt8} (hq : q < 2) (h0 : prog L q = some s0) (hj : passE (kindOf q) s0 (L.take j) = some s) (hp : L[j]? = some p) (h : stepE (kindOf q) s p = none) : readF L = none := by
 refine readF_none (q := q + 1) (by omega) ?_
 rw [prog_succ L hq, h0]
 refine passE_none (kindOf q) L s0 (k := j + 1) ?_
 rw [passE_take _ _ _ hp, hj]
 exact h
theorem pass_next {L : Ens} {k : UInt8} {j : Nat} {s0 s t : Sch} {p : List UInt8 × List UInt8} (hj : passE k s0 (L.take j) = some s) (hp : L[j]? = some p) (h : stepE k s p = some t) : passE k s0 (L.take (j + 1)) = some t := by
 rw [passE_take _ _ _ hp, hj]
 exact h
theorem prog_end {L : Ens} {q : Nat} {s0 s : Sch} (hq : q < 2) (h0 : prog L q = some s0) (hj : passE (kindOf q) s0 (L.take L.length) = some s) : prog L (q + 1) = some s := by
 rw [prog_succ L hq, h0, ← hj, List.take_length]
 rfl
theorem prog_ok {L : Ens} : ∀ {q : Nat} {s : Sch}, q ≤ 2 → prog L q = some s → OkS s := by
 intro q
 induction q with
 | zero => intro s _ h; cases h; exact OkS.nil
 | succ q ih =>
   intro s hq h
   rw [prog_succ L (by omega)] at h
   cases h0 : prog L q with
   | none => rw [h0] at h; cases h
   | some s0 => rw [h0] at h; exact passE_ok (ih (by omega) h0) h
theorem stp_nil {k : UInt8} {s : Sch} {p : List UInt8 × List UInt8} (h : p.1 = []) : stepE k s p = none := by unfold stepE; rw [h]
theorem stp_bad {k : UInt8} {s : Sch} {p : List UInt8 × List UInt8} {c : UInt8} {r : List UInt8} (h : p.1 = c :: r) (h1 : c ≠ 116) (h2 : c ≠ 105) : stepE k s p = none := by unfold stepE; rw [h]; simp [h1, h2]
theorem stp_skip {k : UInt8} {s : Sch} {p : List UInt8 × List UInt8} {c : UInt8} {r : List UInt8} (h : p.1 = c :: r) (h1 : c = 116 ∨ c = 105) (h2 : c ≠ k) : stepE k s p = some s := by
 unfold stepE
 rw [h]
 dsimp only
 rw [if_neg (by rcases h1 with h1 | h1 <;> simp [h1]), if_pos h2]
theorem stp_tab {s : Sch} {p : List UInt8 × List UInt8} {r : List UInt8} (h : p.1 = 116 :: r) : stepE 116 s p = oneT s.1 s.2 (sB r) (some p.2) := by
 unfold stepE
 rw [h]
 simp
theorem stp_idx {s : Sch} {p : List UInt8 × List UInt8} {r : List UInt8} (h : p.1 = 105 :: r) : stepE 105 s p = oneX s.1 s.2 (sB r) (some p.2) := by
 unfold stepE
 rw [h]
 simp
theorem cut_sB (c : UInt8) (r : List UInt8) : sB r = (sB (c :: r)).extract 1 (sB (c :: r)).size := by
 have h : ((sB (c :: r)).extract 1 (sB (c :: r)).size).data = (sB r).data := by
   rw [ByteArray.data_extract]
   apply Array.ext'
   rw [Array.toList_extract, List.extract_eq_take_drop]
   simp [sB, ByteArray.size]
 cases hx : (sB (c :: r)).extract 1 (sB (c :: r)).size with
 | mk d =>
   rw [hx] at h
   exact (congrArg ByteArray.mk h).symm
structure DK (w : World) (A : Option Addr) (c : Nat) (ts : List (Tab × List Col)) (ia : Option Addr) (ic : Nat) (xs : List (Idx × List Int)) (W : World) : Prop where
 below : Below w.heap.size w W
 ans : W.heap[w.heap.size]? = some (.cells #[.slice none 0 0, .slice none 0 0] 36)
 box : W.heap[w.heap.size + 1]? = some (.cells #[.slice A ts.length c, .slice ia xs.length ic] 36)
 sch : ReadS W A ia ts xs
variable {w : World} {A : Option Addr} {c : Nat} {ts : List (Tab × List Col)} {ia : Option Addr} {ic : Nat} {xs : List (Idx × List Int)} {W W' : World}
theorem DK.keep (h : DK w A c ts ia ic xs W) (hB : Below W.heap.size W W') : DK w A c ts ia ic xs W' :=
 ⟨h.below.trans (hB.mono h.below.size), (hB.block _ (heap_lt h.ans)).trans h.ans, (hB.block _ (heap_lt h.box)).trans h.box, h.sch.keep hB⟩
theorem DK.set (h : DK w A c ts ia ic xs W) {A2 : Option Addr} {c2 : Nat} {ts2 : List (Tab × List Col)} {ia2 : Option Addr} {ic2 : Nat} {xs2 : List (Idx × List Int)} (hS : ReadS W A2 ia2 ts2 xs2) :
   DK w A2 c2 ts2 ia2 ic2 xs2 ((W.setCell ⟨w.heap.size + 1, 0, none⟩ (.slice A2 ts2.length c2)).setCell ⟨w.heap.size + 1, 1, none⟩ (.slice ia2 xs2.length ic2)) := by
 have t1 : (W.setCell ⟨w.heap.size + 1, 0, none⟩ (.slice A2 ts2.length c2)).heap[w.heap.size + 1]? = some (.cells #[.slice A2 ts2.length c2, .slice ia xs.length ic] 36) := by
   rw [setCell_eq_setRow W _ 0 _ 36 _ _ h.box]
   exact setRow_heap W _ _ _ 36 _ h.box
 have t2 : ((W.setCell ⟨w.heap.size + 1, 0, none⟩ (.slice A2 ts2.length c2)).setCell ⟨w.heap.size + 1, 1, none⟩ (.slice ia2 xs2.length ic2)).heap[w.heap.size + 1]? = some (.cells #[.slice A2 ts2.length c2, .slice ia2 xs2.length ic2] 36) := by
   rw [setCell_eq_setRow _ _ 1 _ 36 _ _ t1]
   exact setRow_heap _ _ _ _ 36 _ t1
 obtain ⟨h1, h2, h3, h4, h5, h6⟩ := hS
 obtain ⟨g1, g2, g3, g4⟩ := ReadP.setBox (W := W) ⟨h1, h2, h5, h6⟩ h.box A2 ts2.length c2 (.slice ia2 xs2.length ic2)
 exact ⟨(h.below.setCell (p := ⟨w.heap.size + 1, 0, none⟩) (Nat.le_succ _) _).setCell (p := ⟨w.heap.size + 1, 1, none⟩) (Nat.le_succ _) _, (heap_set_other2 _ _ (by omega)).trans ((heap_set_other2 W _ (by omega)).trans h.ans), t2, g1, g2, h3, h4, g3, g4⟩
def ReadZ (w : World) (r : Option Sch) (e : Ending) (w' : World) : Prop := Below w.heap.size w w' ∧
 ((r = none ∧ e = .returned (.tuple #[.agg #[.slice none 0 0, .slice none 0 0], .int .i64 7])) ∨
  ∃ (A : Option Addr) (c : Nat) (ts : List (Tab × List Col)) (ia : Option Addr) (ic : Nat) (xs : List (Idx × List Int)), r = some (ts.map ptOf, xs.map pxOf) ∧ e = .returned (.tuple #[.agg #[.slice A ts.length c, .slice ia xs.length ic], .int .i64 0]) ∧ ReadS w' A ia ts xs)
theorem DK.done (h : DK w A c ts ia ic xs W) : Below w.heap.size w ((W.setCell ⟨w.heap.size, 0, none⟩ (.slice A ts.length c)).setCell ⟨w.heap.size, 1, none⟩ (.slice ia xs.length ic)) ∧ ReadS ((W.setCell ⟨w.heap.size, 0, none⟩ (.slice A ts.length c)).setCell ⟨w.heap.size, 1, none⟩ (.slice ia xs.length ic)) A ia ts xs := by
 obtain ⟨h1, h2, h3, h4, h5, h6⟩ := h.sch
 obtain ⟨g1, g2, g3, g4⟩ := ReadP.setBox (W := W) ⟨h1, h2, h5, h6⟩ h.ans A ts.length c (.slice ia xs.length ic)
 exact ⟨(h.below.setCell (p := ⟨w.heap.size, 0, none⟩) (Nat.le_refl _) _).setCell (p := ⟨w.heap.size, 1, none⟩) (Nat.le_refl _) _, g1, g2, h3, h4, g3, g4⟩
theorem DK.bad (h : DK w A c ts ia ic xs W) (a b : Value) : Below w.heap.size w ((W.setCell ⟨w.heap.size, 0, none⟩ a).setCell ⟨w.heap.size, 1, none⟩ b) :=
 (h.below.setCell (p := ⟨w.heap.size, 0, none⟩) (Nat.le_refl _) _).setCell (p := ⟨w.heap.size, 1, none⟩) (Nat.le_refl _) _
theorem OkS.lens {T : List (Tab × List Col)} {X : List (Idx × List Int)} (h : OkS (T.map ptOf, X.map pxOf)) : T.length ≤ 1000 ∧ X.length ≤ 1000 := by
 have h1 := h.tl
 have h2 := h.xl
 dsimp only at h1 h2
 rw [List.length_map] at h1 h2
 omega
end Go.Proofs.YtcgpflkaejbkhaaGreatDoor
namespace Go.Proofs.YtcgpflkaejbkhaaGreatDoor
open Go.RowKit

theorem sB_idx (c : UInt8) (r : List UInt8) (W : World) : (Instr.index 9 (.string (sB (c :: r))) (.int .i64 0)).run Tryz.prog W = .ok (.int .u8 (c.toNat : Int)) W := by
 rw [run_index_string (P := Tryz.prog) W 9 (sB (c :: r)) .i64 0 Tryz.underlying9, dif_pos ⟨by omega, by rw [sB_size]; simp⟩]
 rfl
theorem sB_list (l : List UInt8) : (sB l).toList = l := str_list l
theorem neq_ent (a b c d : ByteArray) (W : World) : (binOp .neq 89 (.agg #[.string a, .string b]) (.agg #[.string c, .string d])).run Tryz.prog W = .ok (.bool (!((a.toList == c.toList) && (b.toList == d.toList)))) W := by
 go_simp
 by_cases h1 : a.toList = c.toList <;> by_cases h2 : b.toList = d.toList <;> simp [h1, h2]
theorem dents_at {w : World} {B : Option Addr} {L : Ens} (h : CellsAt w 2 B (L.map deL)) {k : Nat} {p : List UInt8 × List UInt8} (hk : L[k]? = some p) : ∃ b off, B = some ⟨b, off, none⟩ ∧ b < w.heap.size ∧ w.cell? ⟨b, off + k * 2, none⟩ = some (.string (sB p.1)) ∧ w.cell? ⟨b, off + k * 2 + 1, none⟩ = some (.string (sB p.2)) := by
 have hk2 : (L.map deL)[k]? = some (deL p) := by rw [List.getElem?_map, hk]; rfl
 rcases h.2 with h0 | ⟨b, off, h1, h2, h3⟩
 · rw [h0] at hk2; cases hk2
 · exact ⟨b, off, h1, h2, (h3 k _ hk2).2 0 _ rfl, (h3 k _ hk2).2 1 _ rfl⟩
theorem docp_good {w : World} {T : List PT} {X : List PX} {e : Ending} {w' : World} (h : DocP w 0 T X e w') (hT : T.length ≤ 1000) (hX : X.length ≤ 1000) : Below w.heap.size w w' ∧ ∃ (A ia : Option Addr) (c ic : Nat) (ts : List (Tab × List Col)) (xs : List (Idx × List Int)), e = .returned (.tuple #[.agg #[.slice A ts.length c, .slice ia xs.length ic], .int .i64 0]) ∧ ReadS w' A ia ts xs ∧ ts.map ptOf = T ∧ xs.map pxOf = X := by
 obtain ⟨hB, h⟩ := h
 rcases h with ⟨_, A, ia, c, ic, ts, xs, h1, h2, h3, _, _, h6, h7, h8, h9⟩ | ⟨hne, _⟩
 · exact ⟨hB, A, ia, c, ic, ts, xs, h1, ⟨h2, h3, by rw [← List.length_map (f := ptOf), h8]; exact hT, by rw [← List.length_map (f := pxOf), h9]; exact hX, h6, h7⟩, h8, h9⟩
 · exact absurd rfl hne
theorem docp_bad {w : World} {er : Int} {T : List PT} {X : List PX} {e : Ending} {w' : World} (h : DocP w er T X e w') (he : er ≠ 0) : Below w.heap.size w w' ∧ e = .returned (.tuple #[.agg #[.slice none 0 0, .slice none 0 0], .int .i64 er]) := by
 obtain ⟨hB, h⟩ := h
 rcases h with ⟨h0, _⟩ | ⟨_, h⟩
 · exact absurd h0 he
 · exact ⟨hB, h⟩
theorem pass_ok {L : Ens} {q j : Nat} {s : Sch} (hq : q ≤ 2) (h : ∃ s0, prog L q = some s0 ∧ passE (kindOf q) s0 (L.take j) = some s) : OkS s := by
 obtain ⟨s0, h1, h2⟩ := h
 exact passE_ok (prog_ok hq h1) h2
theorem deL_len {L : Ens} : ∀ x ∈ L.map deL, x.length = 2 := fun x hx => by
 obtain ⟨p, _, rfl⟩ := List.mem_map.1 hx
 rfl
theorem take_both {α : Type} {a b : List α} {j : Nat} {p : α} (h : a.take j = b.take j) (ha : a[j]? = some p) (hb : b[j]? = some p) : a.take (j + 1) = b.take (j + 1) := by
 rw [List.take_add_one, List.take_add_one, h, ha, hb]
set_option maxRecDepth 100000 in
set_option maxHeartbeats 16000000 in
theorem rread_any (m : Int) (gt : Nat → Nat) (ht : ∀ j, j < 23 → finD (Ieee.double.read (gt j)) = true) (B : Option Addr) (d : Nat) (L : Ens) (w : World) (hG : Glob m gt w) (hL : CellsAt w 2 B (L.map deL)) (hlen : L.length ≤ 1000) (hsz : ∀ p ∈ L, p.1.length ≤ 900 ∧ p.2.length ≤ 1000) :
   Calls Tryz.prog 25 #[.slice B L.length d] w (ReadZ w (readF L)) := by
 obtain ⟨n, hn⟩ : ∃ n, n = L.length := ⟨_, rfl⟩
 rw [← hn] at hlen ⊢
 have HN := Lib.hid hn
 have HL := Lib.hid hL
 have HG := Lib.hid hG
 have HSZ := Lib.hid hsz
 have HT := Lib.hid ht
 obtain ⟨R, hR⟩ : ∃ R, R = readF L := ⟨_, rfl⟩
 rw [← hR]
 have HR := Lib.hid hR
 clear hn hL hG hsz hR ht
 have HK0 := Lib.hid (show DK w none 0 [] none 0 [] ((w.alloc (.cells #[.slice none 0 0, .slice none 0 0] 36)).alloc (.cells #[.slice none 0 0, .slice none 0 0] 36)) from by
   refine ⟨(below1 w _).alloc (by simp) _, ?_, ?_, ?_⟩
   · rw [heap_alloc_old _ _ (by simp)]; exact heap_alloc_new w _
   · have h := heap_alloc_new (w.alloc (.cells #[.slice none 0 0, .slice none 0 0] 36)) (.cells #[.slice none 0 0, .slice none 0 0] 36)
     rwa [World.size_alloc] at h
   · exact ⟨⟨⟨Nat.zero_le _, Or.inl rfl⟩, fun p hp => (List.not_mem_nil hp).elim⟩, ⟨⟨Nat.zero_le _, Or.inl rfl⟩, fun p hp => (List.not_mem_nil hp).elim⟩, Nat.zero_le _, Nat.zero_le _, fun p hp => (List.not_mem_nil hp).elim, fun p hp => (List.not_mem_nil hp).elim⟩)
 go_enter Tryz.func25, Tryz.ntmps25
 go_wp2_with fail
 go_loopw [5, 6] (fun e i wr => ∃ (q : Nat) (A : Option Addr) (c : Nat) (ts : List (Tab × List Col)) (ia : Option Addr) (ic : Nat) (xs : List (Idx × List Int)), q ≤ 2 ∧ i = .int .i64 q ∧ e = .int .i64 0 ∧ Hid (prog L q = some (ts.map ptOf, xs.map pxOf)) ∧ Hid (DK w A c ts ia ic xs wr)) (fun _ i _ => 2 - (intOf i).toNat)
 case atStart => exact ⟨0, none, 0, [], none, 0, [], Nat.zero_le _, rfl, rfl, Lib.hid rfl, HK0⟩
 case round =>
   clear HK0
   obtain ⟨q, A, c, ts, ia, ic, xs, hq, rfl, rfl, HP, HK⟩ := hrel
   obtain ⟨wo, rfl⟩ : ∃ wo : World, wo = wr := ⟨_, rfl⟩
   by_cases hlt : q < 2
   · have q1 : ((q : Int) < 2) = True := eq_true (by omega)
     go_wp2_with fail
     go_loopw [5, 7] (fun e i wr => ∃ (j : Nat) (A : Option Addr) (c : Nat) (ts : List (Tab × List Col)) (ia : Option Addr) (ic : Nat) (xs : List (Idx × List Int)), j ≤ n ∧ i = .int .i64 j ∧ e = .int .i64 0 ∧ Hid (∃ s0, prog L q = some s0 ∧ passE (kindOf q) s0 (L.take j) = some (ts.map ptOf, xs.map pxOf)) ∧ Hid (DK w A c ts ia ic xs wr)) (fun _ i _ => n - (intOf i).toNat)
     case atStart => exact ⟨0, A, c, ts, ia, ic, xs, Nat.zero_le _, rfl, rfl, Lib.hid ⟨_, HP.out, rfl⟩, HK⟩
     case round =>
       clear HK HP
       obtain ⟨j, A, c, ts, ia, ic, xs, hj, rfl, rfl, HP, HK⟩ := hrel
       obtain ⟨wp, rfl⟩ : ∃ wp : World, wp = wr := ⟨_, rfl⟩
       by_cases hjl : j < n
       · obtain ⟨p, hp⟩ : ∃ p, L[j]? = some p := ⟨_, List.getElem?_eq_getElem (by have := HN.out; omega)⟩
         obtain ⟨b, off, rfl, hb, k0, k1⟩ := dents_at (CellsAt.keep HK.out.below HL.out) hp
         have hpz := HSZ.out p (List.mem_of_getElem? hp)
         have HPP := Lib.hid hp
         have HBAD := Lib.hid (show stepE (kindOf q) (ts.map ptOf, xs.map pxOf) p = none → R = none from fun h => by
           obtain ⟨s0, h1, h2⟩ := HP.out
           rw [HR.out]
           exact prog_fail hlt h1 h2 hp h)
         have HNX := Lib.hid (show ∀ s, stepE (kindOf q) (ts.map ptOf, xs.map pxOf) p = some s → ∃ s0, prog L q = some s0 ∧ passE (kindOf q) s0 (L.take (j + 1)) = some s from fun s h => by
           obtain ⟨s0, h1, h2⟩ := HP.out
           exact ⟨s0, h1, pass_next h2 hp h⟩)
         have z0 := cell_of_row _ _ 0 _ _ _ HK.out.ans
         have z1 := cell_of_row _ _ 1 _ _ _ HK.out.ans
         have y0 := frozen_of_row _ _ 0 _ _ HK.out.ans
         have y1 := frozen_of_row _ _ 1 _ _ HK.out.ans
         have hjn : ((j : Int) < (n : Int)) = True := eq_true (by omega)
         obtain ⟨pk, pv⟩ := p
         dsimp only at k0 k1 hpz
         clear hp
         cases pk with
         | nil =>
           have k0' : wp.cell? ⟨b, off + j * 2, none⟩ = some (.string ⟨#[]⟩) := k0
           have HRN := Lib.hid (HBAD.out (stp_nil rfl))
           clear k0
           go_wp2_with fail
           refine bodyPost_ret (v := .tuple #[.agg #[.slice none 0 0, .slice none 0 0], .int .i64 7]) (by simp [results, Tryz.results25, go_sem, z0, z1]) rfl ⟨HK.out.bad _ _, Or.inl ⟨HRN.out, rfl⟩⟩
         | cons ch r =>
           obtain ⟨KS, hKS⟩ : ∃ KS, KS = sB (ch :: r) := ⟨_, rfl⟩
           have hne0 : KS.toList ≠ [] := by rw [hKS, sB_list]; simp
           have hne1 : (KS.toList = []) = False := eq_false hne0
           have hne2 : KS.toList.isEmpty = false := by rw [List.isEmpty_eq_false_iff]; exact hne0
           have hix : ∀ W, (Instr.index 9 (.string KS) (.int .i64 0)).run Tryz.prog W = .ok (.int .u8 (ch.toNat : Int)) W := fun W => by rw [hKS]; exact sB_idx ch r W
           obtain ⟨VS, hVS⟩ : ∃ VS, VS = sB pv := ⟨_, rfl⟩
           rw [← hKS] at k0
           rw [← hVS] at k1
           clear hne0
           by_cases h116 : ch = 116
           · subst h116
             have hix : ∀ W, (Instr.index 9 (.string KS) (.int .i64 0)).run Tryz.prog W = .ok (.int .u8 116) W := hix
             have HVZ := Lib.hid (show VS.size ≤ 1000 from by rw [hVS, sB_size]; exact hpz.2)
             have HKZ := Lib.hid (show 1 ≤ KS.size from by rw [hKS, sB_size]; simp)
             have HNM := Lib.hid (show sB r = KS.extract 1 KS.size from by rw [hKS]; exact cut_sB _ r)
             have HVL := Lib.hid (show VS.data.toList = pv from by rw [hVS]; rfl)
             clear hKS hVS hpz
             by_cases hq0 : q = 0
             · subst hq0
               obtain ⟨T, hT⟩ : ∃ T, T = tabF (sB r) (some pv) := ⟨_, rfl⟩
               have HTB := Lib.hid (show ∀ W, Calls Tryz.prog 53 #[.agg #[.string KS, .string VS]] W (TabP W (sB r) T) from fun W => by rw [hT, ← HVL.out]; exact rtable KS VS (sB r) W HKZ.out HNM.out HVZ.out)
               cases T with
               | none =>
                 have HRN := Lib.hid (HBAD.out (by rw [show kindOf 0 = 116 from rfl, stp_tab rfl]; unfold oneT; rw [← hT]))
                 clear hT
                 go_wp2_with (first
                   | (go_at_call 53; (with_reducible refine (HTB.out _).mono ?_); rintro e w5 ⟨va, kk, vc, cols, x, y, zz, rfl, hB5, hR5, _⟩
                      have HK5 := Lib.hid ((HK.out.keep hB5).keep (below1 _ (.cells #[.string (sB r), .slice va kk vc, .int .i64 x, .int .i64 y, .int .i64 zz] 25)))
                      have c0 : ∀ O, (w5.alloc O).cell? ⟨b, off + j * 2, none⟩ = some (.string KS) := fun O => cell_kept (cell_kept k0 hB5) (below1 w5 O)
                      have a0 := cell_of_row _ _ 0 _ _ _ HK5.out.ans
                      have a1 := cell_of_row _ _ 1 _ _ _ HK5.out.ans
                      have f0 := frozen_of_row _ _ 0 _ _ HK5.out.ans
                      have f1 := frozen_of_row _ _ 1 _ _ HK5.out.ans
                      clear hB5 hR5 z0 z1 y0 y1)
                   | fail)
                 refine bodyPost_ret (v := .tuple #[.agg #[.slice none 0 0, .slice none 0 0], .int .i64 7]) (by simp [results, Tryz.results25, go_sem, a0, a1]) rfl ⟨HK5.out.bad _ _, Or.inl ⟨HRN.out, rfl⟩⟩
               | some t =>
                 have HST := Lib.hid (show stepE (kindOf 0) (ts.map ptOf, xs.map pxOf) (116 :: r, pv) = if errT (ts.map ptOf) t = 0 then some (putT (ts.map ptOf) t, xs.map pxOf) else none by rw [show kindOf 0 = 116 from rfl, stp_tab rfl]; unfold oneT; rw [← hT])
                 clear hT
                 have HPUT := Lib.hid (show ∀ (tt : Tab) (cl : List Col) W, Below w.heap.size w W → ReadS W A ia ts xs → ReadTab W tt cl → ptOf (tt, cl) = t → Calls Tryz.prog 29 #[.agg #[.slice A ts.length c, .slice ia xs.length ic], .agg #[.string tt.name, .slice tt.ca tt.cn tt.cc, .int .i64 tt.root, .int .i64 tt.next, .int .i64 tt.rows]] W (DocP W (errT (ts.map ptOf) t) (putT (ts.map ptOf) t) (xs.map pxOf)) from fun tt cl W hB hS hR he => by rw [← he]; exact rput_all m gt HT.out A c ts ia ic xs tt cl W (HG.out.keep hB) hS hR)
                 obtain ⟨T2, hT2⟩ : ∃ T2, T2 = putT (ts.map ptOf) t := ⟨_, rfl⟩
                 obtain ⟨X2, hX2⟩ : ∃ X2, X2 = xs.map pxOf := ⟨_, rfl⟩
                 by_cases hE : errT (ts.map ptOf) t = 0
                 · have HNN := Lib.hid (HNX.out _ (by rw [HST.out, if_pos hE]))
                   rw [hE] at HPUT
                   rw [← hT2, ← hX2] at HPUT HNN
                   have HOK := Lib.hid (pass_ok (by omega) HNN.out)
                   clear hT2 hX2 hE HST
                   go_wp2_with (first
                     | (go_at_call 53; (with_reducible refine (HTB.out _).mono ?_); rintro e w5 ⟨va, kk, vc, cols, x, y, zz, rfl, hB5, hR5, hT5⟩
                        have HK5 := Lib.hid ((HK.out.keep hB5).keep (below1 _ (.cells #[.string (sB r), .slice va kk vc, .int .i64 x, .int .i64 y, .int .i64 zz] 25)))
                        have HP5 := Lib.hid (HPUT.out ⟨sB r, va, kk, vc, x, y, zz⟩ cols (w5.alloc (.cells #[.string (sB r), .slice va kk vc, .int .i64 x, .int .i64 y, .int .i64 zz] 25)) HK5.out.below HK5.out.sch (hR5.keep (below1 _ _)) (hT5 t rfl))
                        have a0 := cell_of_row _ _ 0 _ _ _ HK5.out.box
                        have a1 := cell_of_row _ _ 1 _ _ _ HK5.out.box
                        clear hB5 hR5 hT5 z0 z1 y0 y1)
                     | (go_at_call 29; (with_reducible refine HP5.out.mono ?_); rintro e w6 hO
                        obtain ⟨hB6, A9, ia9, c9, ic9, ts9, xs9, rfl, hS9, hT9, hX9⟩ := docp_good hO (by have := HOK.out.tl; dsimp only at this; omega) (by have := HOK.out.xl; dsimp only at this; omega)
                        have HK6 := Lib.hid (HK5.out.keep hB6)
                        have HK7 := Lib.hid (HK6.out.set (c2 := c9) (ic2 := ic9) hS9)
                        have b0 := cell_of_row _ _ 0 _ _ _ HK6.out.box
                        have b1 := cell_of_row _ _ 1 _ _ _ HK6.out.box
                        have g0 := frozen_of_row _ _ 0 _ _ HK6.out.box
                        have g1 := frozen_of_row _ _ 1 _ _ HK6.out.box
                        have HNN9 := Lib.hid (show ∃ s0, prog L 0 = some s0 ∧ passE (kindOf 0) s0 (L.take (j + 1)) = some (ts9.map ptOf, xs9.map pxOf) from by rw [hT9, hX9]; exact HNN.out)
                        clear hB6 hO hS9 hT9 hX9 a0 a1)
                     | fail)
                   go_roundw
                   case rel => ((repeat apply Exists.intro); refine ⟨?_, ?_⟩; exact ⟨j + 1, A9, c9, ts9, ia9, ic9, xs9, by omega, by go_num, rfl, HNN9, HK7⟩; rfl)
                   case measure => simp [intOf] <;> omega
                 · have HRN := Lib.hid (HBAD.out (by rw [HST.out, if_neg hE]))
                   rw [← hT2, ← hX2] at HPUT
                   obtain ⟨E, hE2⟩ : ∃ E, E = errT (ts.map ptOf) t := ⟨_, rfl⟩
                   rw [← hE2] at HPUT hE
                   have e1 : (E != 0) = true := bne_iff_ne.2 hE
                   have e2 : (E = 0) = False := eq_false hE
                   have HE := Lib.hid hE
                   clear hT2 hX2 hE HST hE2
                   go_wp2_with (first
                     | (go_at_call 53; (with_reducible refine (HTB.out _).mono ?_); rintro e w5 ⟨va, kk, vc, cols, x, y, zz, rfl, hB5, hR5, hT5⟩
                        have HK5 := Lib.hid ((HK.out.keep hB5).keep (below1 _ (.cells #[.string (sB r), .slice va kk vc, .int .i64 x, .int .i64 y, .int .i64 zz] 25)))
                        have HP5 := Lib.hid (HPUT.out ⟨sB r, va, kk, vc, x, y, zz⟩ cols (w5.alloc (.cells #[.string (sB r), .slice va kk vc, .int .i64 x, .int .i64 y, .int .i64 zz] 25)) HK5.out.below HK5.out.sch (hR5.keep (below1 _ _)) (hT5 t rfl))
                        have a0 := cell_of_row _ _ 0 _ _ _ HK5.out.box
                        have a1 := cell_of_row _ _ 1 _ _ _ HK5.out.box
                        clear hB5 hR5 hT5 z0 z1 y0 y1)
                     | (go_at_call 29; (with_reducible refine HP5.out.mono ?_); rintro e w6 hO
                        obtain ⟨hB6, rfl⟩ := docp_bad hO HE.out
                        have HK6 := Lib.hid (HK5.out.keep hB6)
                        have b0 := cell_of_row _ _ 0 _ _ _ HK6.out.box
                        have b1 := cell_of_row _ _ 1 _ _ _ HK6.out.box
                        have g0 := frozen_of_row _ _ 0 _ _ HK6.out.box
                        have g1 := frozen_of_row _ _ 1 _ _ HK6.out.box
                        have a0 := cell_of_row _ _ 0 _ _ _ HK6.out.ans
                        have a1 := cell_of_row _ _ 1 _ _ _ HK6.out.ans
                        have f0 := frozen_of_row _ _ 0 _ _ HK6.out.ans
                        have f1 := frozen_of_row _ _ 1 _ _ HK6.out.ans
                        have HB6 := Lib.hid (show ∀ a b c d : Value, Below w.heap.size w ((((w6.setCell ⟨w.heap.size + 1, 0, none⟩ a).setCell ⟨w.heap.size + 1, 1, none⟩ b).setCell ⟨w.heap.size, 0, none⟩ c).setCell ⟨w.heap.size, 1, none⟩ d) from fun a b c d => (((HK6.out.below.setCell (p := ⟨w.heap.size + 1, 0, none⟩) (Nat.le_succ _) _).setCell (p := ⟨w.heap.size + 1, 1, none⟩) (Nat.le_succ _) _).setCell (p := ⟨w.heap.size, 0, none⟩) (Nat.le_refl _) _).setCell (p := ⟨w.heap.size, 1, none⟩) (Nat.le_refl _) _)
                        clear hB6 hO)
                     | fail)
                   refine bodyPost_ret (v := .tuple #[.agg #[.slice none 0 0, .slice none 0 0], .int .i64 7]) (by simp [results, Tryz.results25, go_sem, a0, a1]) rfl ⟨HB6.out _ _ _ _, Or.inl ⟨HRN.out, rfl⟩⟩
             · obtain rfl : q = 1 := by omega
               have HNN := Lib.hid (HNX.out _ (stp_skip rfl (Or.inl rfl) (by decide)))
               go_wp2_with fail
               go_roundw
               case rel => exact ⟨j + 1, A, c, ts, ia, ic, xs, by omega, by go_num, rfl, HNN, HK⟩
               case measure => simp [intOf] <;> omega
           · by_cases h105 : ch = 105
             · subst h105
               have hix : ∀ W, (Instr.index 9 (.string KS) (.int .i64 0)).run Tryz.prog W = .ok (.int .u8 105) W := hix
               have HVZ := Lib.hid (show VS.size ≤ 1000 from by rw [hVS, sB_size]; exact hpz.2)
               have HKZ := Lib.hid (show 1 ≤ KS.size from by rw [hKS, sB_size]; simp)
               have HNM := Lib.hid (show sB r = KS.extract 1 KS.size from by rw [hKS]; exact cut_sB _ r)
               have HVL := Lib.hid (show VS.data.toList = pv from by rw [hVS]; rfl)
               clear hKS hVS hpz
               by_cases hq0 : q = 1
               · obtain rfl : q = 1 := hq0
                 obtain ⟨T, hT⟩ : ∃ T, T = idxF (sB r) (some pv) := ⟨_, rfl⟩
                 have HTB := Lib.hid (show ∀ W, Calls Tryz.prog 54 #[.agg #[.string KS, .string VS]] W (IdxP W (sB r) T) from fun W => by rw [hT, ← HVL.out]; exact rindex KS VS (sB r) W HKZ.out HNM.out HVZ.out)
                 cases T with
                 | none =>
                   have HRN := Lib.hid (HBAD.out (by rw [show kindOf 1 = 105 from rfl, stp_idx rfl]; unfold oneX; rw [← hT]))
                   clear hT
                   go_wp2_with (first
                     | (go_at_call 54; (with_reducible refine (HTB.out _).mono ?_); rintro e w5 ⟨tn, va, kk, vc, pl, x, y, zz, rfl, hB5, hR5, _⟩
                        have HK5 := Lib.hid ((HK.out.keep hB5).keep (below1 _ (.cells #[.string (sB r), .string tn, .slice va kk vc, .int .i64 x, .int .i64 y, .int .i64 zz] 28)))
                        have c0 : ∀ O, (w5.alloc O).cell? ⟨b, off + j * 2, none⟩ = some (.string KS) := fun O => cell_kept (cell_kept k0 hB5) (below1 w5 O)
                        have a0 := cell_of_row _ _ 0 _ _ _ HK5.out.ans
                        have a1 := cell_of_row _ _ 1 _ _ _ HK5.out.ans
                        have f0 := frozen_of_row _ _ 0 _ _ HK5.out.ans
                        have f1 := frozen_of_row _ _ 1 _ _ HK5.out.ans
                        clear hB5 hR5 z0 z1 y0 y1)
                     | fail)
                   refine bodyPost_ret (v := .tuple #[.agg #[.slice none 0 0, .slice none 0 0], .int .i64 7]) (by simp [results, Tryz.results25, go_sem, a0, a1]) rfl ⟨HK5.out.bad _ _, Or.inl ⟨HRN.out, rfl⟩⟩
                 | some t =>
                   have HST := Lib.hid (show stepE (kindOf 1) (ts.map ptOf, xs.map pxOf) (105 :: r, pv) = if errX (ts.map ptOf) (xs.map pxOf) t = 0 then some (ts.map ptOf, putX (xs.map pxOf) t) else none by rw [show kindOf 1 = 105 from rfl, stp_idx rfl]; unfold oneX; rw [← hT])
                   clear hT
                   have HPUT := Lib.hid (show ∀ (tt : Idx) (cl : List Int) W, Below w.heap.size w W → ReadS W A ia ts xs → ReadIdx W tt cl → pxOf (tt, cl) = t → Calls Tryz.prog 31 #[.agg #[.slice A ts.length c, .slice ia xs.length ic], .agg #[.string tt.name, .string tt.table, .slice tt.pa tt.pn tt.pc, .int .i64 tt.state, .int .i64 tt.root, .int .i64 tt.cursor]] W (DocP W (errX (ts.map ptOf) (xs.map pxOf) t) (ts.map ptOf) (putX (xs.map pxOf) t)) from fun tt cl W hB hS hR he => by rw [← he]; exact rputx_all m gt HT.out A c ts ia ic xs tt cl W (HG.out.keep hB) hS hR)
                   obtain ⟨T2, hT2⟩ : ∃ T2, T2 = ts.map ptOf := ⟨_, rfl⟩
                   obtain ⟨X2, hX2⟩ : ∃ X2, X2 = putX (xs.map pxOf) t := ⟨_, rfl⟩
                   by_cases hE : errX (ts.map ptOf) (xs.map pxOf) t = 0
                   · have HNN := Lib.hid (HNX.out _ (by rw [HST.out, if_pos hE]))
                     rw [hE] at HPUT
                     rw [← hT2, ← hX2] at HPUT HNN
                     have HOK := Lib.hid (pass_ok (by omega) HNN.out)
                     clear hT2 hX2 hE HST
                     go_wp2_with (first
                       | (go_at_call 54; (with_reducible refine (HTB.out _).mono ?_); rintro e w5 ⟨tn, va, kk, vc, pl, x, y, zz, rfl, hB5, hR5, hT5⟩
                          have HK5 := Lib.hid ((HK.out.keep hB5).keep (below1 _ (.cells #[.string (sB r), .string tn, .slice va kk vc, .int .i64 x, .int .i64 y, .int .i64 zz] 28)))
                          have HP5 := Lib.hid (HPUT.out ⟨sB r, tn, va, kk, vc, x, y, zz⟩ pl (w5.alloc (.cells #[.string (sB r), .string tn, .slice va kk vc, .int .i64 x, .int .i64 y, .int .i64 zz] 28)) HK5.out.below HK5.out.sch (hR5.keep (below1 _ _)) (hT5 t rfl))
                          have a0 := cell_of_row _ _ 0 _ _ _ HK5.out.box
                          have a1 := cell_of_row _ _ 1 _ _ _ HK5.out.box
                          clear hB5 hR5 hT5 z0 z1 y0 y1)
                       | (go_at_call 31; (with_reducible refine HP5.out.mono ?_); rintro e w6 hO
                          obtain ⟨hB6, A9, ia9, c9, ic9, ts9, xs9, rfl, hS9, hT9, hX9⟩ := docp_good hO (by have := HOK.out.tl; dsimp only at this; omega) (by have := HOK.out.xl; dsimp only at this; omega)
                          have HK6 := Lib.hid (HK5.out.keep hB6)
                          have HK7 := Lib.hid (HK6.out.set (c2 := c9) (ic2 := ic9) hS9)
                          have b0 := cell_of_row _ _ 0 _ _ _ HK6.out.box
                          have b1 := cell_of_row _ _ 1 _ _ _ HK6.out.box
                          have g0 := frozen_of_row _ _ 0 _ _ HK6.out.box
                          have g1 := frozen_of_row _ _ 1 _ _ HK6.out.box
                          have HNN9 := Lib.hid (show ∃ s0, prog L 1 = some s0 ∧ passE (kindOf 1) s0 (L.take (j + 1)) = some (ts9.map ptOf, xs9.map pxOf) from by rw [hT9, hX9]; exact HNN.out)
                          clear hB6 hO hS9 hT9 hX9 a0 a1)
                       | fail)
                     go_roundw
                     case rel => ((repeat apply Exists.intro); refine ⟨?_, ?_⟩; exact ⟨j + 1, A9, c9, ts9, ia9, ic9, xs9, by omega, by go_num, rfl, HNN9, HK7⟩; rfl)
                     case measure => simp [intOf] <;> omega
                   · have HRN := Lib.hid (HBAD.out (by rw [HST.out, if_neg hE]))
                     skip
                     obtain ⟨E, hE2⟩ : ∃ E, E = errX (ts.map ptOf) (xs.map pxOf) t := ⟨_, rfl⟩
                     rw [← hE2] at HPUT hE
                     rw [← hT2, ← hX2] at HPUT
                     have e1 : (E != 0) = true := bne_iff_ne.2 hE
                     have e2 : (E = 0) = False := eq_false hE
                     have HE := Lib.hid hE
                     clear hT2 hX2 hE HST hE2
                     go_wp2_with (first
                       | (go_at_call 54; (with_reducible refine (HTB.out _).mono ?_); rintro e w5 ⟨tn, va, kk, vc, pl, x, y, zz, rfl, hB5, hR5, hT5⟩
                          have HK5 := Lib.hid ((HK.out.keep hB5).keep (below1 _ (.cells #[.string (sB r), .string tn, .slice va kk vc, .int .i64 x, .int .i64 y, .int .i64 zz] 28)))
                          have HP5 := Lib.hid (HPUT.out ⟨sB r, tn, va, kk, vc, x, y, zz⟩ pl (w5.alloc (.cells #[.string (sB r), .string tn, .slice va kk vc, .int .i64 x, .int .i64 y, .int .i64 zz] 28)) HK5.out.below HK5.out.sch (hR5.keep (below1 _ _)) (hT5 t rfl))
                          have a0 := cell_of_row _ _ 0 _ _ _ HK5.out.box
                          have a1 := cell_of_row _ _ 1 _ _ _ HK5.out.box
                          clear hB5 hR5 hT5 z0 z1 y0 y1)
                       | (go_at_call 31; (with_reducible refine HP5.out.mono ?_); rintro e w6 hO
                          obtain ⟨hB6, rfl⟩ := docp_bad hO HE.out
                          have HK6 := Lib.hid (HK5.out.keep hB6)
                          have b0 := cell_of_row _ _ 0 _ _ _ HK6.out.box
                          have b1 := cell_of_row _ _ 1 _ _ _ HK6.out.box
                          have g0 := frozen_of_row _ _ 0 _ _ HK6.out.box
                          have g1 := frozen_of_row _ _ 1 _ _ HK6.out.box
                          have a0 := cell_of_row _ _ 0 _ _ _ HK6.out.ans
                          have a1 := cell_of_row _ _ 1 _ _ _ HK6.out.ans
                          have f0 := frozen_of_row _ _ 0 _ _ HK6.out.ans
                          have f1 := frozen_of_row _ _ 1 _ _ HK6.out.ans
                          have HB6 := Lib.hid (show ∀ a b c d : Value, Below w.heap.size w ((((w6.setCell ⟨w.heap.size + 1, 0, none⟩ a).setCell ⟨w.heap.size + 1, 1, none⟩ b).setCell ⟨w.heap.size, 0, none⟩ c).setCell ⟨w.heap.size, 1, none⟩ d) from fun a b c d => (((HK6.out.below.setCell (p := ⟨w.heap.size + 1, 0, none⟩) (Nat.le_succ _) _).setCell (p := ⟨w.heap.size + 1, 1, none⟩) (Nat.le_succ _) _).setCell (p := ⟨w.heap.size, 0, none⟩) (Nat.le_refl _) _).setCell (p := ⟨w.heap.size, 1, none⟩) (Nat.le_refl _) _)
                          clear hB6 hO)
                       | fail)
                     refine bodyPost_ret (v := .tuple #[.agg #[.slice none 0 0, .slice none 0 0], .int .i64 7]) (by simp [results, Tryz.results25, go_sem, a0, a1]) rfl ⟨HB6.out _ _ _ _, Or.inl ⟨HRN.out, rfl⟩⟩
               · obtain rfl : q = 0 := by omega
                 have HNN := Lib.hid (HNX.out _ (stp_skip rfl (Or.inr rfl) (by decide)))
                 go_wp2_with fail
                 go_roundw
                 case rel => exact ⟨j + 1, A, c, ts, ia, ic, xs, by omega, by go_num, rfl, HNN, HK⟩
                 case measure => simp [intOf] <;> omega
             · obtain ⟨z, hz⟩ : ∃ z : Int, z = (ch.toNat : Int) := ⟨_, rfl⟩
               rw [← hz] at hix
               have e1 : z ≠ 116 := by
                 rw [hz]
                 intro e
                 exact h116 (UInt8.toNat_inj.1 (show ch.toNat = (116 : UInt8).toNat by have : (116 : UInt8).toNat = 116 := rfl; omega))
               have e2 : z ≠ 105 := by
                 rw [hz]
                 intro e
                 exact h105 (UInt8.toNat_inj.1 (show ch.toNat = (105 : UInt8).toNat by have : (105 : UInt8).toNat = 105 := rfl; omega))
               have g1 : (z != 116) = true := bne_iff_ne.2 e1
               have g2 : (z != 105) = true := bne_iff_ne.2 e2
               have g3 : (z = 116) = False := eq_false e1
               have g4 : (z = 105) = False := eq_false e2
               have g5 : (z == 116) = false := beq_eq_false_iff_ne.2 e1
               have g6 : (z == 105) = false := beq_eq_false_iff_ne.2 e2
               have HRN := Lib.hid (HBAD.out (stp_bad rfl h116 h105))
               clear hz h116 h105 e1 e2 hKS hVS
               go_wp2_with fail
               refine bodyPost_ret (v := .tuple #[.agg #[.slice none 0 0, .slice none 0 0], .int .i64 7]) (by simp [results, Tryz.results25, go_sem, z0, z1]) rfl ⟨HK.out.bad _ _, Or.inl ⟨HRN.out, rfl⟩⟩
       · obtain rfl : j = n := by omega
         go_wp2_with fail
         go_roundw
         case rel => exact ⟨q + 1, A, c, ts, ia, ic, xs, by omega, by go_num, rfl, Lib.hid (by
           obtain ⟨s0, h1, h2⟩ := HP.out
           exact prog_end hlt h1 (by rw [← HN.out]; exact h2)), HK⟩
         case measure => simp [intOf] <;> omega
   · obtain rfl : q = 2 := by omega
     have HRF := Lib.hid (show R = if entsP (ts.map ptOf) (xs.map pxOf) = L then some (ts.map ptOf, xs.map pxOf) else none from by rw [HR.out, readF_of HP.out])
     have HOK := Lib.hid (prog_ok (by omega) HP.out)
     have HLN := Lib.hid HOK.out.lens
     have z0 := cell_of_row _ _ 0 _ _ _ HK.out.ans
     have z1 := cell_of_row _ _ 1 _ _ _ HK.out.ans
     have y0 := frozen_of_row _ _ 0 _ _ HK.out.ans
     have y1 := frozen_of_row _ _ 1 _ _ HK.out.ans
     have x0 := cell_of_row _ _ 0 _ _ _ HK.out.box
     have x1 := cell_of_row _ _ 1 _ _ _ HK.out.box
     have HENT := Lib.hid (rents_any A c ts ia ic xs wo HK.out.sch.1 HK.out.sch.2.1 HLN.out.1 HLN.out.2 (fun p hp => HOK.out.t _ (List.mem_map_of_mem hp)) (fun p hp => HOK.out.x _ (List.mem_map_of_mem hp)))
     obtain ⟨M, hM⟩ : ∃ M, M = entsP (ts.map ptOf) (xs.map pxOf) := ⟨_, rfl⟩
     rw [← hM] at HRF HENT
     clear hM HP
     obtain ⟨mn, hmn⟩ : ∃ mn, mn = M.length := ⟨_, rfl⟩
     have HMN := Lib.hid hmn
     by_cases hml : mn = n
     · obtain rfl : mn = n := hml
       have q1 : ((mn : Int) != (mn : Int)) = false := by simp
       clear hmn
       go_wp2_with (first
         | (go_at_call 55; (with_reducible refine HENT.out.mono ?_); rintro e w6 ⟨v, rfl, hB6, hown⟩
            obtain ⟨MA, mc, rfl, _, hMC, _, _⟩ := own_cells hown deL_len (by rw [List.length_map])
            rw [← HMN.out]
            have HK6 := Lib.hid (HK.out.keep hB6)
            have HMC := Lib.hid hMC
            clear hB6 hown hMC z0 z1 y0 y1 x0 x1)
         | fail)
       go_loopw [14] (fun i wr => ∃ j : Nat, j ≤ mn ∧ i = .int .i64 j ∧ Hid (M.take j = L.take j) ∧ Hid (DK w A c ts ia ic xs wr) ∧ Hid (CellsAt wr 2 MA (M.map deL))) (fun i _ => mn - (intOf i).toNat)
       case atStart => exact ⟨0, Nat.zero_le _, rfl, Lib.hid rfl, HK6, HMC⟩
       case round =>
         clear HK6 HMC
         obtain ⟨j, hj, rfl, HTK, HK6, HMC⟩ := hrel
         obtain ⟨wi, rfl⟩ : ∃ wi : World, wi = wr := ⟨_, rfl⟩
         have z0 := cell_of_row _ _ 0 _ _ _ HK6.out.ans
         have z1 := cell_of_row _ _ 1 _ _ _ HK6.out.ans
         have y0 := frozen_of_row _ _ 0 _ _ HK6.out.ans
         have y1 := frozen_of_row _ _ 1 _ _ HK6.out.ans
         have x0 := cell_of_row _ _ 0 _ _ _ HK6.out.box
         have x1 := cell_of_row _ _ 1 _ _ _ HK6.out.box
         by_cases hjl : j < mn
         · have hjn : ((j : Int) < (mn : Int)) = True := eq_true (by omega)
           obtain ⟨p, hp⟩ : ∃ p, L[j]? = some p := ⟨_, List.getElem?_eq_getElem (by have := HN.out; omega)⟩
           obtain ⟨p2, hp2⟩ : ∃ p, M[j]? = some p := ⟨_, List.getElem?_eq_getElem (by have := HMN.out; omega)⟩
           obtain ⟨b, off, rfl, hb, k0, k1⟩ := dents_at (CellsAt.keep HK6.out.below HL.out) hp
           obtain ⟨b2, off2, rfl, hb2, l0, l1⟩ := dents_at HMC.out hp2
           have HPE := Lib.hid hp
           have HPE2 := Lib.hid hp2
           obtain ⟨pk, pv⟩ := p
           obtain ⟨rk, rv⟩ := p2
           dsimp only at k0 k1 l0 l1
           clear hp hp2
           have HNE := fun W => neq_ent (sB rk) (sB rv) (sB pk) (sB pv) W
           by_cases he : rk = pk ∧ rv = pv
           · obtain ⟨rfl, rfl⟩ := he
             have q2 : ((sB rk).toList == (sB rk).toList) = true := by simp
             have q3 : ((sB rv).toList == (sB rv).toList) = true := by simp
             have HNE2 : ∀ W, (binOp .neq 89 (.agg #[.string (sB rk), .string (sB rv)]) (.agg #[.string (sB rk), .string (sB rv)])).run Tryz.prog W = .ok (.bool false) W := fun W => by rw [HNE W, q2, q3]; rfl
             clear HNE q2 q3
             go_wp2_with fail
             go_quiet ((fail))
             go_wp2_with fail
             go_roundw
             case rel => exact ⟨j + 1, by omega, by go_num, Lib.hid (take_both HTK.out HPE2.out HPE.out), Lib.hid (HK6.out.keep (below_drewN (Below.refl _ _) nq)), Lib.hid (CellsAt.keep (below_drewN (Below.refl _ _) nq) HMC.out)⟩
             case measure => simp [intOf] <;> omega
           · have HNE2 : ∀ W, (binOp .neq 89 (.agg #[.string (sB rk), .string (sB rv)]) (.agg #[.string (sB pk), .string (sB pv)])).run Tryz.prog W = .ok (.bool true) W := fun W => by
               rw [HNE W, sB_list, sB_list, sB_list, sB_list]
               have : ((rk == pk) && (rv == pv)) = false := by
                 rw [Bool.and_eq_false_iff, beq_eq_false_iff_ne, beq_eq_false_iff_ne]
                 by_cases h1 : rk = pk
                 · exact Or.inr fun h2 => he ⟨h1, h2⟩
                 · exact Or.inl h1
               rw [this]
               rfl
             have HRN := Lib.hid (show R = none from by
               rw [HRF.out, if_neg]
               intro h
               have h1 := HPE2.out
               rw [h, HPE.out] at h1
               cases h1
               exact he ⟨rfl, rfl⟩)
             clear HNE he
             go_wp2_with fail
             go_quiet ((fail))
             go_wp2_with fail
             have HK7 := Lib.hid (HK6.out.keep (below_drewN (Below.refl _ _) nq))
             refine bodyPost_ret (v := .tuple #[.agg #[.slice none 0 0, .slice none 0 0], .int .i64 7]) (by simp [results, Tryz.results25, go_sem, z0, z1]) rfl ⟨HK7.out.bad _ _, Or.inl ⟨HRN.out, rfl⟩⟩
         · obtain rfl : j = mn := by omega
           have hjn : ((j : Int) < (j : Int)) = False := eq_false (by omega)
           have HRS := Lib.hid (show R = some (ts.map ptOf, xs.map pxOf) from by
             rw [HRF.out, if_pos]
             have h1 := HTK.out
             rwa [List.take_of_length_le (by have := HMN.out; omega), List.take_of_length_le (by have := HN.out; omega)] at h1)
           go_wp2_with fail
           refine bodyPost_ret (v := .tuple #[.agg #[.slice A ts.length c, .slice ia xs.length ic], .int .i64 0]) (by simp [results, Tryz.results25, go_sem, z0, z1]) rfl ⟨HK6.out.done.1, Or.inr ⟨A, c, ts, ia, ic, xs, HRS.out, rfl, HK6.out.done.2⟩⟩
     · have q1 : ((mn : Int) != (n : Int)) = true := by simp; omega
       have HRN := Lib.hid (show R = none from by
         rw [HRF.out, if_neg]
         intro h
         have h1 := HN.out
         have h2 := HMN.out
         rw [h] at h2
         omega)
       clear hmn hml
       go_wp2_with (first
         | (go_at_call 55; (with_reducible refine HENT.out.mono ?_); rintro e w6 ⟨v, rfl, hB6, hown⟩
            obtain ⟨MA, mc, rfl, _, hMC, _, _⟩ := own_cells hown deL_len (by rw [List.length_map])
            rw [← HMN.out]
            have HK6 := Lib.hid (HK.out.keep hB6)
            have a0 := cell_of_row _ _ 0 _ _ _ HK6.out.ans
            have a1 := cell_of_row _ _ 1 _ _ _ HK6.out.ans
            have f0 := frozen_of_row _ _ 0 _ _ HK6.out.ans
            have f1 := frozen_of_row _ _ 1 _ _ HK6.out.ans
            clear hB6 hown hMC z0 z1 y0 y1 x0 x1)
         | fail)
       refine bodyPost_ret (v := .tuple #[.agg #[.slice none 0 0, .slice none 0 0], .int .i64 7]) (by simp [results, Tryz.results25, go_sem, a0, a1]) rfl ⟨HK6.out.bad _ _, Or.inl ⟨HRN.out, rfl⟩⟩
end Go.Proofs.YtcgpflkaejbkhaaGreatDoor
