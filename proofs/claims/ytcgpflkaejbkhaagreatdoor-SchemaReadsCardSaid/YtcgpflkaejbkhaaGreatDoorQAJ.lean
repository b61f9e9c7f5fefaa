/- The walk of the document's Columns. -/
import Derived.Test.YtcgpflkaejbkhaaGreatDoorQAI
namespace Go.Proofs.YtcgpflkaejbkhaaGreatDoor
open Go.RowKit

theorem first_ahead {l : List Col} {nm : ByteArray} {k : Nat} {x : Col} (hx : l[k]? = some x) (hn : x.name = nm) {r : Int} (h : FirstIs (cnameAt l nm) l.length r) : decide (r < (k : Int)) = (l.take k).any (fun t => sameN t.name nm) := by
 have hk := (List.getElem?_eq_some_iff.1 hx).1
 have hP : ∀ j (hj : j < l.length), cnameAt l nm j = sameN l[j].name nm := fun j hj => by unfold cnameAt; rw [List.getElem?_eq_getElem hj]
 have hPk : cnameAt l nm k = true := by
   unfold cnameAt
   rw [hx]
   show sameN x.name nm = true
   rw [hn]; exact same_refl _
 rcases h with ⟨a, ha, rfl, hp, hq⟩ | ⟨rfl, hp⟩
 · by_cases hak : a < k
   · have : ((l.take k).any fun t => sameN t.name nm) = true := by
       rw [List.any_eq_true]
       refine ⟨l[a], ?_, by rw [← hP a ha]; exact hp⟩
       rw [List.mem_take_iff_getElem]
       exact ⟨a, by omega, rfl⟩
     rw [this, decide_eq_true (by omega)]
   · have : ((l.take k).any fun t => sameN t.name nm) = false := by
       rw [List.any_eq_false]
       intro t ht
       rw [List.mem_take_iff_getElem] at ht
       obtain ⟨j, hj, rfl⟩ := ht
       have := hq j (by omega)
       rw [hP j (by omega)] at this
       simpa using this
     rw [this, decide_eq_false (by omega)]
 · rw [hp k hk] at hPk; cases hPk
set_option maxRecDepth 100000 in
set_option maxHeartbeats 8000000 in
theorem rcolumns_any (m : Int) (t : Nat → Nat) (ht : ∀ j, j < 23 → finD (Ieee.double.read (t j)) = true) (A : Option Addr) (c : Nat) (l : List Col) (w : World) (hG : Glob m t w) (h : ColsAt w A l) : Calls Tryz.prog 21 #[.slice A l.length c] w (RetV (.int .i64 (colsR l)) w) := by
 have HG := Lib.hid hG
 have HNA := Lib.hid (fun s W g => rname_any m t ht s W g)
 have HA := Lib.hid h
 have hlen := h.1
 unfold maxLen at hlen
 rw [List.length_map] at hlen
 clear hG ht h
 by_cases h0 : l.length = 0
 · have HE := Lib.hid (show colsR l = 7 by unfold colsR; rw [if_pos (List.length_eq_zero_iff.1 h0)])
   generalize colsR l = R at HE ⊢
   have hl : ((l.length : Nat) : Int) = 0 := by omega
   go_enter Tryz.func21, Tryz.ntmps21
   go_wp2_with fail
   go_ret
   exact ⟨by rw [HE.out]; rfl, Below.refl _ _⟩
 · have hl : (((l.length : Nat) : Int) == 0) = false := by rw [beq_eq_false_iff_ne]; omega
   by_cases h6 : 6 < l.length
   · have HE := Lib.hid (show colsR l = 11 by unfold colsR; rw [if_neg (fun h => h0 (by rw [h]; rfl)), if_pos h6])
     generalize colsR l = R at HE ⊢
     go_enter Tryz.func21, Tryz.ntmps21
     go_wp2_with fail
     go_ret
     exact ⟨by rw [HE.out]; rfl, Below.refl _ _⟩
   · have HE := Lib.hid (show colsR l = colsErr l (l.length + 1) 0 by unfold colsR; rw [if_neg (fun h => h0 (by rw [h]; rfl)), if_neg h6])
     generalize colsR l = R at HE ⊢
     have HCO := Lib.hid (fun nm W hB => rcolumn_any A c l ⟨#[]⟩ 0 0 0 nm W (CellsAt.keep hB HA.out))
     have HFA := Lib.hid (fun nm (k : Nat) x (hx : l[k]? = some x) (hn : x.name = nm) r h => first_ahead hx hn (r := r) h)
     obtain ⟨n, hn⟩ : ∃ n, n = l.length := ⟨_, rfl⟩
     have HN := Lib.hid hn
     rw [← hn] at HE hl hlen h0 h6 HCO HFA ⊢
     clear hn
     go_enter Tryz.func21, Tryz.ntmps21
     go_wp2_with fail
     go_loopw [3] (fun i wr => ∃ k : Nat, k ≤ n ∧ i = .int .i64 k ∧ Hid (Below w.heap.size w wr) ∧ Hid (R = colsErr l (n + 1 - k) k)) (fun i _ => n - (intOf i).toNat)
     case atStart => exact ⟨0, Nat.zero_le _, rfl, Lib.hid (Below.refl _ _), HE⟩
     case round =>
       obtain ⟨k, hk, rfl, HB, HR⟩ := hrel
       obtain ⟨wo, rfl⟩ : ∃ wo : World, wo = wr := ⟨_, rfl⟩
       by_cases hlt : k < n
       · obtain ⟨x, hx⟩ : ∃ x, l[k]? = some x := ⟨_, List.getElem?_eq_getElem (by have := HN.out; omega)⟩
         obtain ⟨b, off, rfl, hbl, hcells⟩ : ∃ b off, A = some ⟨b, off, none⟩ ∧ b < w.heap.size ∧ ∀ (i : Nat) (v : Value), (colL x)[i]? = some v → w.cell? ⟨b, off + k * 3 + i, none⟩ = some v := by
           rcases HA.out.2 with h0' | ⟨b, off, h1, h2, h3⟩
           · exfalso; have := HN.out; have := List.map_eq_nil_iff.1 h0'; subst this; simp at hx
           · exact ⟨b, off, h1, h2, (h3 k (colL x) (by rw [List.getElem?_map, hx]; rfl)).2⟩
         have HAH := Lib.hid (fun r h => HFA.out x.name k x hx rfl r h)
         obtain ⟨xn, xt, xb⟩ := x
         have HKK := Lib.hid (show ∀ W, Below w.heap.size w W → ∀ (i : Nat) (v : Value), [Value.string xn, .int .i64 xt, .bool xb][i]? = some v → W.cell? ⟨b, off + k * 3 + i, none⟩ = some v from fun W hW i v hi => (hW.cell (p := ⟨b, off + k * 3 + i, none⟩) hbl).trans (hcells i v hi))
         have k0 : wo.cell? ⟨b, off + k * 3, none⟩ = some (.string xn) := HKK.out wo HB.out 0 _ rfl
         obtain ⟨nb, hnb⟩ : ∃ b, b = nameB xn.data.toList := ⟨_, rfl⟩
         have HNB := Lib.hid hnb
         have HNX := Lib.hid (HNA.out xn)
         rw [← hnb] at HNX
         have HST := Lib.hid (show R = if colBad ⟨xn, xt, xb⟩ then 7 else if (l.take k).any (fun t => sameN t.name xn) then 8 else colsErr l (n + 1 - (k + 1)) (k + 1) by
           rw [HR.out, show n + 1 - k = (n - k) + 1 by omega]
           conv => lhs; unfold colsErr
           rw [hx, show n + 1 - (k + 1) = n - k by omega])
         obtain ⟨cb, hcb⟩ : ∃ cb, cb = (l.take k).any (fun t => sameN t.name xn) := ⟨_, rfl⟩
         dsimp only at HAH
         rw [← hcb] at HST HAH
         have HCN := Lib.hid (fun W hB => HCO.out xn W hB)
         clear hx hcells hnb hcb
         by_cases hbad : colBad ⟨xn, xt, xb⟩ = true
         · have HE0 := Lib.hid (show R = 7 by rw [HST.out, if_pos hbad])
           have hor : nb = false ∨ (nb = true ∧ xt < 1) ∨ (nb = true ∧ 1 ≤ xt ∧ 3 < xt) := by
             unfold colBad at hbad
             rw [show nameB xn.data.toList = nb from HNB.out.symm] at hbad
             simp only [Bool.or_eq_true, Bool.not_eq_true', decide_eq_true_iff] at hbad
             cases nb
             · exact Or.inl rfl
             · rcases hbad with (hbad | hbad) | hbad
               · cases hbad
               · exact Or.inr (Or.inl ⟨rfl, hbad⟩)
               · exact Or.inr (Or.inr ⟨rfl, by omega, hbad⟩)
           clear hbad
           rcases hor with rfl | ⟨rfl, h1⟩ | ⟨rfl, h1, h2⟩
           · go_wp2_with (first
               | (go_at_call 47; (with_reducible refine (HNX.out _ (HG.out.keep HB.out)).mono ?_); rintro e w5 ⟨rfl, hB5⟩; have HW5 := Lib.hid (HB.out.trans (hB5.mono HB.out.size)); have k1 : w5.cell? ⟨b, off + k * 3 + 1, none⟩ = some (.int .i64 xt) := HKK.out w5 HW5.out 1 _ rfl; clear hB5)
               | fail)
             go_ret
             exact ⟨by rw [HE0.out]; rfl, HW5.out⟩
           · have h1' : (xt < 1) = True := eq_true h1
             go_wp2_with (first
               | (go_at_call 47; (with_reducible refine (HNX.out _ (HG.out.keep HB.out)).mono ?_); rintro e w5 ⟨rfl, hB5⟩; have HW5 := Lib.hid (HB.out.trans (hB5.mono HB.out.size)); have k1 : w5.cell? ⟨b, off + k * 3 + 1, none⟩ = some (.int .i64 xt) := HKK.out w5 HW5.out 1 _ rfl; clear hB5)
               | fail)
             go_ret
             exact ⟨by rw [HE0.out]; rfl, HW5.out⟩
           · have h1' : (xt < 1) = False := eq_false (by omega)
             have h2' : (3 < xt) = True := eq_true h2
             go_wp2_with (first
               | (go_at_call 47; (with_reducible refine (HNX.out _ (HG.out.keep HB.out)).mono ?_); rintro e w5 ⟨rfl, hB5⟩; have HW5 := Lib.hid (HB.out.trans (hB5.mono HB.out.size)); have k1 : w5.cell? ⟨b, off + k * 3 + 1, none⟩ = some (.int .i64 xt) := HKK.out w5 HW5.out 1 _ rfl; clear hB5)
               | fail)
             go_ret
             exact ⟨by rw [HE0.out]; rfl, HW5.out⟩
         · have hor : nb = true ∧ (xt < 1) = False ∧ (3 < xt) = False := by
             unfold colBad at hbad
             rw [show nameB xn.data.toList = nb from HNB.out.symm] at hbad
             simp only [Bool.or_eq_true, Bool.not_eq_true', decide_eq_true_iff] at hbad
             cases nb
             · exact absurd (Or.inl (Or.inl rfl)) hbad
             · exact ⟨rfl, eq_false (fun h => hbad (Or.inl (Or.inr h))), eq_false (fun h => hbad (Or.inr h))⟩
           obtain ⟨rfl, h1', h2'⟩ := hor
           cases cb with
           | true =>
             have HE0 := Lib.hid (show R = 8 by rw [HST.out, if_neg hbad, if_pos rfl])
             clear hbad
             go_wp2_with (first
               | (go_at_call 47; (with_reducible refine (HNX.out _ (HG.out.keep HB.out)).mono ?_); rintro e w5 ⟨rfl, hB5⟩; have HW5 := Lib.hid (HB.out.trans (hB5.mono HB.out.size)); have k1 : w5.cell? ⟨b, off + k * 3 + 1, none⟩ = some (.int .i64 xt) := HKK.out w5 HW5.out 1 _ rfl; have k0' : w5.cell? ⟨b, off + k * 3, none⟩ = some (.string xn) := HKK.out w5 HW5.out 0 _ rfl; clear hB5)
               | (go_at_call 19; (with_reducible refine (HCN.out _ HW5.out).mono ?_); rintro e w6 ⟨r, rfl, hr, hB6⟩; have HW6 := Lib.hid (HW5.out.trans (hB6.mono HW5.out.size)); have hrk : (r < (k : Int)) = True := eq_true (of_decide_eq_true (HAH.out r hr)); clear hB6 hr)
               | fail)
             go_ret
             exact ⟨by rw [HE0.out]; rfl, HW6.out⟩
           | false =>
             have HE0 := Lib.hid (show R = colsErr l (n + 1 - (k + 1)) (k + 1) by rw [HST.out, if_neg hbad, if_neg (by decide)])
             clear hbad
             go_wp2_with (first
               | (go_at_call 47; (with_reducible refine (HNX.out _ (HG.out.keep HB.out)).mono ?_); rintro e w5 ⟨rfl, hB5⟩; have HW5 := Lib.hid (HB.out.trans (hB5.mono HB.out.size)); have k1 : w5.cell? ⟨b, off + k * 3 + 1, none⟩ = some (.int .i64 xt) := HKK.out w5 HW5.out 1 _ rfl; have k0' : w5.cell? ⟨b, off + k * 3, none⟩ = some (.string xn) := HKK.out w5 HW5.out 0 _ rfl; clear hB5)
               | (go_at_call 19; (with_reducible refine (HCN.out _ HW5.out).mono ?_); rintro e w6 ⟨r, rfl, hr, hB6⟩; have HW6 := Lib.hid (HW5.out.trans (hB6.mono HW5.out.size)); have hrk : (r < (k : Int)) = False := eq_false (of_decide_eq_false (HAH.out r hr)); clear hB6 hr)
               | fail)
             go_roundw
             case rel => exact ⟨k + 1, by omega, by go_num, HW6, HE0⟩
             case measure => simp [intOf] <;> omega
       · have HE0 := Lib.hid (show R = 0 by
           rw [HR.out, show n + 1 - k = (n - k) + 1 by omega]
           unfold colsErr
           rw [List.getElem?_eq_none (by have := HN.out; omega)])
         go_wp2_with fail
         go_ret
         exact ⟨by rw [HE0.out]; rfl, HB.out⟩
end Go.Proofs.YtcgpflkaejbkhaaGreatDoor
