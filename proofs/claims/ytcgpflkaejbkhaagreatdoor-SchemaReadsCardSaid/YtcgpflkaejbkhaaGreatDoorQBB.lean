/- The walks of slices.Grow (of nil) and slices.Concat at bytes. -/
import Derived.Test.YtcgpflkaejbkhaaGreatDoorQAZ
import Derived.Lib.AppendZeros
namespace Go.Proofs.YtcgpflkaejbkhaaGreatDoor
open Go.RowKit

theorem grow_nil (n : Nat) (w : World) (h0 : 0 < n) (h1 : n ≤ 100000) : Calls Tryz.prog 102 #[.slice none 0 0, .int .i64 n] w (NewB w []) := by
 obtain ⟨i0, hi0, hz0, hz1, hz2⟩ := info_parts infoB
 have HR := Lib.hid (show ∃ (cap : Nat) (cur : Array Value), (Builtin.append_ #[55, 3] 55 #[.slice none 0 0, .int .i64 n]).run Tryz.prog w = .ok (.slice (some ⟨w.heap.size, 0, none⟩) n cap) (w.drew.alloc (.cells cur 5)) ∧ n ≤ cap ∧ cap ≤ maxLen ∧ cur.size = cap by
   refine ⟨_, _, Lib.run_append_nil_zeros (P := Tryz.prog) w 55 3 55 5 i0 (.int .u8 0) .i64 .i64 Tryz.underlying55 Tryz.underlying3 hi0 hz0 n h0 (by omega) (by omega) (by rw [hz2]; omega), grownCap_ge _ _ _ _, grownCap_le_maxLen _ _ _ _ (by unfold maxLen; omega), ?_⟩
   rw [Array.size_append, size_zeroCells, size_zeroCells]
   have := grownCap_ge w n 0 5
   show n * 1 + (grownCap w n 0 5 - n) * 1 = _
   omega)
 obtain ⟨cap, cur, hr, hc1, hc2, hc3⟩ := HR.out
 have HO := Lib.hid (show OwnB (w.drew.alloc (.cells cur 5)) w.heap.size (.slice (some ⟨w.heap.size, 0, none⟩) 0 cap) [] from World.ownsRow_made (base := w.heap.size) w.drew cur cap (Nat.le_refl _) hc2 (by omega))
 have HC := Lib.hid hc1
 have q1 : (0 < (n : Int)) = True := eq_true (by omega)
 have q2 : (0 < n) = True := eq_true h0
 have q3 : ((n : Int) < 0) = False := eq_false (by omega)
 have hRUN := Lib.hid hr
 clear hr hc1 hc2 hc3 hi0 hz0 hz1 hz2
 go_enter Tryz.func102, Tryz.ntmps102
 go_wp2_with (first
   | (at_builtin; refine Lib.wpList_append_run _ rfl _ _ 55 3 rfl _ _ rfl rfl _ _ hRUN.out ?_)
   | fail)
 go_wp2_with fail
 go_ret
 exact ⟨_, rfl, ((Below.refl _ _).drew).alloc (Nat.le_refl _) _, HO.out⟩
def srcV (p : Nat × Nat × List UInt8) : Value := .slice (some ⟨p.1, 0, none⟩) p.2.2.length p.2.1
def SrcB (W : World) (p : Nat × Nat × List UInt8) : Prop := p.1 < W.heap.size ∧ ∀ (j : Nat) (b : UInt8), p.2.2[j]? = some b → W.cell? ((⟨p.1, 0, none⟩ : Addr).add j) = some (byV b)
theorem SrcB.keep {W W' : World} {p : Nat × Nat × List UInt8} (h : SrcB W p) (hB : Below W.heap.size W W') : SrcB W' p := by
 refine ⟨Nat.lt_of_lt_of_le h.1 hB.size, fun j b hj => ?_⟩
 have := h.2 j b hj
 rw [Addr.add_lit] at this ⊢
 exact cell_kept this hB
def catL (ps : List (Nat × Nat × List UInt8)) (k : Nat) : List UInt8 := ((ps.take k).map (fun p => p.2.2)).flatten
theorem catL_succ {ps : List (Nat × Nat × List UInt8)} {k : Nat} {p : Nat × Nat × List UInt8} (h : ps[k]? = some p) : catL ps (k + 1) = catL ps k ++ p.2.2 := by
 unfold catL
 rw [List.take_add_one, h]
 simp
theorem catL_le (ps : List (Nat × Nat × List UInt8)) (k : Nat) (_h : k < ps.length) : (catL ps (k + 1)).length ≤ (catL ps ps.length).length := by
 have e : catL ps ps.length = catL ps (k + 1) ++ ((ps.drop (k + 1)).map (fun p => p.2.2)).flatten := by
   unfold catL
   rw [← List.flatten_append, ← List.map_append, List.take_append_drop, List.take_length]
 rw [e, List.length_append]
 omega
set_option maxHeartbeats 1000000 in
theorem cat_any (ps : List (Nat × Nat × List UInt8)) (sb c : Nat) (w : World) (hb : w.heap[sb]? = some (.cells (ps.map srcV).toArray 55)) (hs : ∀ p ∈ ps, SrcB w p) (h0 : 0 < (catL ps ps.length).length) (hl : (catL ps ps.length).length ≤ 50000) (hk : ps.length ≤ 10) : Calls Tryz.prog 78 #[.slice (some ⟨sb, 0, none⟩) ps.length c] w (NewB w (catL ps ps.length)) := by
 have HB := Lib.hid hb
 have HS := Lib.hid hs
 have H0 := Lib.hid h0
 have HL := Lib.hid hl
 obtain ⟨n, hn⟩ : ∃ n, n = ps.length := ⟨_, rfl⟩
 have HN := Lib.hid hn
 rw [← hn] at hk H0 HL ⊢
 clear hb hs h0 hl hn
 go_enter Tryz.func78, Tryz.ntmps78
 go_wp2_with fail
 go_loop [3, 11] (fun z i => ∃ k : Nat, k ≤ n ∧ i = .int .i64 k ∧ z = .int .i64 ((catL ps k).length : Nat)) (fun _ i => n - (intOf i).toNat)
 case atStart => exact ⟨0, Nat.zero_le _, rfl, rfl⟩
 case round =>
   obtain ⟨k, hkn, rfl, rfl⟩ := hrel
   by_cases hlt : k < n
   · obtain ⟨p, hp⟩ : ∃ p, ps[k]? = some p := ⟨_, List.getElem?_eq_getElem (by have := HN.out; omega)⟩
     have s0 : w.cell? ⟨sb, k, none⟩ = some (.slice (some ⟨p.1, 0, none⟩) p.2.2.length p.2.1) := by
       rw [cell_of_row w sb k _ _ _ HB.out, List.getElem?_toArray, List.getElem?_map, hp]; rfl
     have hle : (catL ps k).length + p.2.2.length ≤ 50000 := by
       have h1 := catL_le ps k (by have := HN.out; omega)
       rw [catL_succ hp, List.length_append, ← HN.out] at h1
       have := HL.out
       omega
     have HC := Lib.hid (show (catL ps (k + 1)).length = (catL ps k).length + p.2.2.length by rw [catL_succ hp, List.length_append])
     generalize p.2.2.length = m at s0 hle HC
     generalize (catL ps k).length = a at hle HC ⊢
     have q1 : ((a : Int) + (m : Int) < 0) = False := eq_false (by omega)
     have q2 : IntKind.i64.wrap ((a : Int) + (m : Int)) = (a : Int) + (m : Int) := IntWalk.i64_in _ (by omega)
     clear hle hp
     go_wp2_with fail
     go_round
     case rel => exact ⟨k + 1, by omega, by go_num, by rw [HC.out]; go_num⟩
     case measure => simp [intOf] <;> omega
   · obtain rfl : k = n := by omega
     have HG := Lib.hid (show ∀ W, Calls Tryz.prog 102 #[.slice none 0 0, .int .i64 ((catL ps k).length : Nat)] W (NewB W []) from fun W => grow_nil _ W H0.out (by have := HL.out; omega))
     have HCE := Lib.hid (show ∃ L, L = catL ps k from ⟨_, rfl⟩)
     obtain ⟨L, hL⟩ := HCE.out
     have HLE := Lib.hid hL
     rw [← hL] at HG H0 HL ⊢
     clear hL HCE hlt
     obtain ⟨T, hT⟩ : ∃ T, T = L.length := ⟨_, rfl⟩
     have HT := Lib.hid hT
     rw [← hT] at HG H0 HL ⊢
     clear hT
     go_wp2_with (first
       | (go_at_call 102; (with_reducible refine (HG.out _).mono ?_); rintro e w1 ⟨v0, rfl, hB1, hO1⟩
          have HB1 := Lib.hid hB1
          have HO1 := Lib.hid hO1
          clear hB1 hO1)
       | fail)
     go_loopw [6, 27] (fun v i wr => ∃ j : Nat, j ≤ k ∧ i = .int .i64 j ∧ Hid (Below w.heap.size w wr) ∧ Hid (OwnB wr w.heap.size v (catL ps j))) (fun _ i _ => k - (intOf i).toNat)
     case atStart => exact ⟨0, Nat.zero_le _, rfl, HB1, HO1⟩
     case round =>
       obtain ⟨j, hj, rfl, HBW, HOW⟩ := hrel
       obtain ⟨wo, rfl⟩ : ∃ wo : World, wo = wr := ⟨_, rfl⟩
       by_cases hlt : j < k
       · obtain ⟨p, hp⟩ : ∃ p, ps[j]? = some p := ⟨_, List.getElem?_eq_getElem (by have := HN.out; omega)⟩
         have HP := Lib.hid (HS.out p (List.mem_of_getElem? hp))
         have s0 : wo.cell? ⟨sb, j, none⟩ = some (.slice (some ⟨p.1, 0, none⟩) p.2.2.length p.2.1) := by
           refine cell_kept ?_ HBW.out
           rw [cell_of_row w sb j _ _ _ HB.out, List.getElem?_toArray, List.getElem?_map, hp]; rfl
         have HC := Lib.hid (show catL ps (j + 1) = catL ps j ++ p.2.2 from catL_succ hp)
         have HCL := Lib.hid (show (catL ps j).length + p.2.2.length ≤ 50000 by
           have h1 := catL_le ps j (by have := HN.out; omega)
           rw [catL_succ hp, List.length_append, ← HN.out, ← HLE.out, ← HT.out] at h1
           exact Nat.le_trans h1 HL.out)
         obtain ⟨m, hm⟩ : ∃ m, m = p.2.2.length := ⟨_, rfl⟩
         rw [← hm] at s0
         have HM := Lib.hid hm
         have HP2 := Lib.hid (HP.out.keep HBW.out)
         clear hp hm
         go_wp2_with (at_builtin; refine app_bytes rfl _ _ rfl w.heap.size _ (catL ps j) rfl HOW.out ⟨p.1, 0, none⟩ m p.2.1 p.2.2 HM.out rfl HP2.out.2 ?c1 ?c2 ?_)
         case c1 => have := HCL.out; omega
         case c2 => exact HBW.out.size
         intro v' w2 hown hgrow hat
         have HO2 := Lib.hid (show OwnB w2 w.heap.size v' (catL ps (j + 1)) by rw [HC.out]; exact hown)
         have HB2 := Lib.hid (HBW.out.grown hgrow HBW.out.size (fun b hb => (HOW.out.lt b hb).1))
         clear hown hgrow hat
         go_wp2_with fail
         go_roundw
         case rel => exact ⟨j + 1, by omega, by go_num, HB2, HO2⟩
         case measure => simp [intOf] <;> omega
       · obtain rfl : j = k := by omega
         go_wp2_with fail
         go_ret
         exact ⟨_, rfl, HBW.out, by first | exact HOW.out | (rw [HLE.out]; exact HOW.out)⟩
end Go.Proofs.YtcgpflkaejbkhaaGreatDoor
