/- The walk of the document's Search. -/
import Derived.Test.YteckfakabaiipaaDoorRefProb
import Derived.Deep.CutBlock

namespace Go.Proofs.YteckfakabaiipaaDoor
open Go.RowKit

def sliceLen : Value → Nat
  | .slice _ n _ => n
  | _ => 0

/-- what the last region of Search's round leans on -/
def Held2 (w wz wx : World) (sl pl : Value) (budget : Int) (pb sT sB : Nat) (pT pB : Int) : Prop :=
  wx.cell? ⟨w.heap.size, 0, none⟩ = some sl ∧ wx.cell? ⟨w.heap.size, 1, none⟩ = some (.int .i64 budget) ∧ wx.cell? ⟨w.heap.size, 2, none⟩ = some pl ∧ wx.cell? ⟨pb, sT, none⟩ = some (.int .i64 pT) ∧ wx.cell? ⟨pb, sB, none⟩ = some (.int .i64 pB) ∧ w.heap.size < wx.heap.size ∧ Below w.heap.size w wx ∧ Below wz.heap.size wz wx
section
variable {w wz W w2 : World} {sl pl : Value} {budget : Int} {pb sT sB : Nat} {pT pB : Int}
theorem Held2.held (h : Held2 w wz W sl pl budget pb sT sB pT pB) : Held w W sl pl budget pb sT sB pT pB := ⟨h.1, h.2.1, h.2.2.1, h.2.2.2.1, h.2.2.2.2.1, h.2.2.2.2.2.1, h.2.2.2.2.2.2.1⟩
theorem Held2.below2 (h : Held2 w wz W sl pl budget pb sT sB pT pB) : Below wz.heap.size wz W := h.2.2.2.2.2.2.2
theorem Held2.call (h : Held2 w wz W sl pl budget pb sT sB pT pB) (hB : Below W.heap.size W w2) : Held2 w wz w2 sl pl budget pb sT sB pT pB := by
  have k := h.held.call hB
  have b := h.below2
  exact ⟨k.1, k.2.1, k.2.2.1, k.2.2.2.1, k.2.2.2.2.1, k.2.2.2.2.2.1, k.2.2.2.2.2.2, b.trans (hB.mono b.size)⟩
theorem Held2.start (h : ProbKept w wz sl pl budget) (hT : wz.cell? ⟨pb, sT, none⟩ = some (.int .i64 pT)) (hB : wz.cell? ⟨pb, sB, none⟩ = some (.int .i64 pB)) : Held2 w wz wz.drew sl pl budget pb sT sB pT pB := by
  have k := h.call (Below.refl _ _).drew
  exact ⟨k.1, k.2.1, k.2.2.1, hT, hB, k.2.2.2.1, k.2.2.2.2, (Below.refl _ _).drew⟩
end
theorem vbt {b c : Bool} (h : b = c) : Value.bool b = .bool c := by rw [h]

set_option maxRecDepth 100000 in
set_option maxHeartbeats 4000000 in
theorem searchr_any (sa : Option Addr) (n c pb pn pc' : Nat) (zs : List Int) (budget m k : Int) (P : Nat → Int) (mk : Nat) (w : World) (hp : Prob w sa n pb pn zs budget P) (hm0 : 0 ≤ m) (hm3 : m ≤ 3) (_hk0 : 0 ≤ k) (hmk : Hid ((mk : Int) = min m k)) :
    Calls Tryd.prog 13 #[probV sa n c pb pn pc' budget, .int .i64 m, .int .i64 k] w (RetL (growR zs budget P k (n + 1) (firstR zs budget P mk)) w) := by
  have KK := ProbKept.start w (.slice sa n c) (.slice (some ⟨pb, 0, none⟩) pn pc') budget
  have hn10 := hp.small
  have HP := Lib.hid hp
  have HTF := Lib.hid (fun q => (first_list zs budget P hp.b0 (by rw [hp.len.out]; omega) q).1.1)
  rw [hp.len.out] at HTF
  clear hp
  obtain ⟨R, hR⟩ : ∃ R, R = growR zs budget P k (n + 1) (firstR zs budget P mk) := ⟨_, rfl⟩
  rw [← hR]
  have HR := Lib.hid hR.symm
  clear hR
  go_enter Tryd.func13, Tryd.ntmps13
  have KKc := KK
  obtain ⟨e0, e1, e2, l0, hbb⟩ := KKc
  go_upto_block 0 with (fail)
  go_cut [7] (fun s7 wc => ∃ A bn cb, s7 = .slice A bn cb ∧ ProbKept w wc (.slice sa n c) (.slice (some ⟨pb, 0, none⟩) pn pc') budget ∧ Src wc wc.heap.size A bn cb (thingsV (firstR zs budget P mk)))
  case first =>
    clear e0 e1 e2 l0 hbb
    go_wp2_with fail
    go_loopw [7, 8] (fun b i wr => ∃ (q : Nat) (A : Option Addr) (bn cb : Nat), q ≤ mk ∧ i = .int .i64 ((q : Int) + 1) ∧ b = .slice A bn cb ∧ ProbKept w wr (.slice sa n c) (.slice (some ⟨pb, 0, none⟩) pn pc') budget ∧ Src wr wr.heap.size A bn cb (thingsV (firstR zs budget P q))) (fun _ i _ => mk + 2 - (intOf i).toNat)
    case atStart => exact ⟨0, none, 0, 0, Nat.zero_le _, rfl, rfl, KK, .inl ⟨rfl, rfl, rfl, rfl⟩⟩
    case round =>
      clear KK
      obtain ⟨q, A, bn, cb, hq, rfl, rfl, KK, hS⟩ := hrel
      have KKc := KK
      obtain ⟨e0, e1, e2, l0, hbb⟩ := KKc
      by_cases hlt : q < mk
      · have hq1 : (q : Int) + 1 ≤ m ∧ (q : Int) + 1 ≤ k := by have := hmk.out; omega
        obtain ⟨hq2, hq3⟩ := hq1
        have HC := Lib.hid (seed_all sa n c pb pn pc' zs budget P (q + 1) ((q : Int) + 1) 0 none A 0 0 bn cb 0 [] (firstR zs budget P q) wr (HP.out.keep hbb) (.inl ⟨rfl, rfl, rfl, rfl⟩) hS (Things.nil n) (HTF.out q) (fun x hx => by cases hx) (Nat.zero_le _) (Lib.hid rfl) (Lib.hid (by omega)) (by omega))
        go_wp2_with (first
          | (go_at_call 21; (with_reducible refine Calls.mono HC.out ?_); rintro e w2 ⟨A2, c2, rfl, hS2, hB2⟩)
          | fail)
        go_roundw
        case rel => exact ⟨q + 1, A2, _, c2, by omega, by go_num, rfl, KK.call hB2, hS2⟩
        case measure => simp [intOf]; omega
      · have HQ := Lib.hid (show q = mk by omega)
        by_cases h1 : (q : Int) + 1 ≤ m
        · have h2 : decide ((q : Int) + 1 ≤ k) = false := by have := hmk.out; have := HQ.out; rw [decide_eq_false_iff_not]; omega
          go_wp2_with fail
          go_meet
          exact ⟨A, bn, cb, rfl, KK, by rw [← HQ.out]; exact hS⟩
        · have h2 : decide ((q : Int) + 1 ≤ m) = false := by rw [decide_eq_false_iff_not]; exact h1
          clear h1
          go_wp2_with fail
          go_meet
          exact ⟨A, bn, cb, rfl, KK, by rw [← HQ.out]; exact hS⟩
  clear KK e0 e1 e2 l0 hbb
  obtain ⟨A, bn, cb, rfl, KK, hS⟩ := hcut
  obtain ⟨w3, rfl⟩ : ∃ w3 : World, w3 = wc := ⟨_, rfl⟩
  have HFT := HTF.out mk
  clear HTF
  have HZ := Lib.hid HP.out.len.out
  go_wp2
  go_loopw [7] (fun b wr => ∃ (bl : List Nat) (d : Nat) (A : Option Addr) (bn cb : Nat), b = .slice A bn cb ∧ Things n bl ∧ n - bn ≤ d ∧ Hid (growR zs budget P k (d + 1) bl = R) ∧ ProbKept w wr (.slice sa n c) (.slice (some ⟨pb, 0, none⟩) pn pc') budget ∧ Src wr wr.heap.size A bn cb (thingsV bl)) (fun b _ => n + 1 - sliceLen b)
  case atStart => exact ⟨firstR zs budget P mk, n, A, bn, cb, rfl, HFT, by omega, HR, KK, hS⟩
  case round =>
    clear KK hS HFT HR
    obtain ⟨bl, d, A, bn, cb, rfl, hT, hd, HR, KK, hS⟩ := hrel
    obtain ⟨wo, rfl⟩ : ∃ wo : World, wo = wr := ⟨_, rfl⟩
    have HBN := Lib.hid (show bl.length = bn by rw [← thingsV_length]; exact hS.length)
    have hbn : bn ≤ n := by have := things_le n bl hT; have := HBN.out; omega
    by_cases hk : (bn : Int) < k
    · have HADD := Lib.hid (fun i (hi : i ≤ n) => (add_list zs budget P bl HP.out.b0 (by rw [HZ.out]; exact hT) i (by rw [HZ.out]; exact hi)).2)
      have HS := Lib.hid hS
      have HT := Lib.hid hT
      have l0 := KK.2.2.2.1
      go_upto_block 4 with (fail)
      go_cut [9] (fun s9 wd => ∃ A' nn cn, s9 = .slice A' nn cn ∧ ProbKept w wd (.slice sa n c) (.slice (some ⟨pb, 0, none⟩) pn pc') budget ∧ Src wd wd.heap.size A' nn cn (thingsV (addR zs budget P bl n)) ∧ Below wo.heap.size wo wd)
      case first =>
        go_wp2_with fail
        go_loopw [9, 10] (fun b i wr => ∃ (j : Nat) (A' : Option Addr) (nn cn : Nat), j ≤ n ∧ i = .int .i64 j ∧ b = .slice A' nn cn ∧ ProbKept w wr (.slice sa n c) (.slice (some ⟨pb, 0, none⟩) pn pc') budget ∧ Src wr wr.heap.size A' nn cn (thingsV (addR zs budget P bl j)) ∧ Below wo.heap.size wo wr) (fun _ i _ => n - (intOf i).toNat)
        case atStart => exact ⟨0, A, bn, cb, Nat.zero_le _, rfl, rfl, KK, hS, Below.refl _ _⟩
        case round =>
          clear KK hS
          obtain ⟨j, A', nn, cn, hj, rfl, rfl, KK, hS, hBo⟩ := hrel
          obtain ⟨wi, rfl⟩ : ∃ wi : World, wi = wr := ⟨_, rfl⟩
          have KKc := KK
          obtain ⟨e0, e1, e2, l1, hbb⟩ := KKc
          by_cases hlt : j < n
          · have H47 := Lib.hid (show bn + 1 ≤ maxLen ∧ (bn + 1) * 8 ≤ 140737488355328 by unfold maxLen; omega)
            obtain ⟨i0, hi0, hz0, hz1, hz2⟩ := info_parts info3
            go_wp2_with (first
              | (at_builtin
                 refine list_append _ (by rfl) (.tmp 38) (.tmp 39) 34 (by rfl) wi.heap.size 3 i0 (.int .i64 0) 8 Tryd.underlying34 hi0 hz0 hz1 hz2 (by rfl) (.slice (some ⟨wi.heap.size, 0, none⟩) 0 0) 0 [] (by rfl) (World.ownsRow_lit wi #[] 0 (Nat.le_refl _) (Nat.zero_le _) rfl)
                   wo.heap.size A bn cb (thingsV bl) (by rfl) (HS.out.keep (hBo.alloc hBo.size _)) (thingsV_one bl) ?_ ?_ ?_ ?_
                 · have := H47.out.1; omega
                 · have := H47.out.2; omega
                 · simp
                 intro v1 w1 hown1 hg1 hat1
                 have hb1 : Below wi.heap.size wi w1 := Below.grown ((Below.refl _ wi).alloc (Nat.le_refl _) _) hg1 (by simp) (fun k hk => slice_ge (Nat.le_refl _) hk)
                 clear hat1 hg1)
              | (at_builtin
                 refine list_append _ (by rfl) (.tmp 41) (.tmp 43) 34 (by rfl) wi.heap.size 3 i0 (.int .i64 0) 8 Tryd.underlying34 hi0 hz0 hz1 hz2 (by rfl) v1 (0 + bn) ([] ++ thingsV bl) (by rfl) (hown1.alloc _)
                   (w1.heap.size + 1) _ 1 1 [.int .i64 j] (by rfl) (Src.new w1 _ _) ?_ ?_ ?_ ?_ ?_
                 · intro u hu; obtain rfl := List.mem_singleton.1 hu; rfl
                 · have := H47.out.1; omega
                 · have := H47.out.2; omega
                 · exact (hb1.alloc hb1.size _).size
                 intro v2 w2 hown2 hg2 hat2
                 obtain ⟨A4, c4, rfl⟩ := owns_slice hown2
                 have hb2 : Below wi.heap.size wi w2 := (hb1.alloc hb1.size _).grown hg2 (hb1.alloc hb1.size _).size (fun k hk => (hown1.lt k hk).1)
                 have hsrc2 := src_things hown2
                 clear hat2 hg2 hown2 hown1)
              | fail)
            rw [Nat.zero_add] at hsrc2
            have KK := KK.call hb2
            have hbb := KK.below
            have hSn := hS.keep hb2
            have HADDS := HADD.out j (by omega)
            have HADDJ := Lib.hid (show addR zs budget P bl (j + 1) = if (!decide (j ∈ bl) && fitsR zs (bl ++ [j]) budget && decide (P (setL (bl ++ [j])) < P (setL (addR zs budget P bl j)))) = true then bl ++ [j] else addR zs budget P bl j from rfl)
            have HTN : Things n (addR zs budget P bl j) := by
              rcases HADDS with h | ⟨i, hi, hin, h⟩
              · rw [h]; exact HT.out
              · rw [h]; exact HT.out.snoc i (by omega) hin
            obtain ⟨nl, hnl⟩ : ∃ nl, nl = addR zs budget P bl j := ⟨_, rfl⟩
            rw [← hnl] at HTN hSn HADDJ
            obtain ⟨sT, hsT⟩ : ∃ sT, sT = setL (bl ++ [j]) := ⟨_, rfl⟩
            obtain ⟨sB, hsB⟩ : ∃ sB, sB = setL nl := ⟨_, rfl⟩
            rw [← hsT, ← hsB] at HADDJ
            have HST := Lib.hid hsT
            have HSB := Lib.hid hsB
            have HSR := Lib.hid (And.intro hsrc2 hSn)
            have HTNH := Lib.hid HTN
            have hbo2 : Below wo.heap.size wo w2 := hBo.trans (hb2.mono hBo.size)
            have HBO := Lib.hid hbo2
            clear HADDS hnl hsT hsB hsrc2 hSn HTN e0 e1 e2 l1 hbo2
            go_cut [68] (fun s68 wd => s68 = .bool (!decide (j ∈ bl) && fitsR zs (bl ++ [j]) budget && decide (P sT < P sB)) ∧ ProbKept w wd (.slice sa n c) (.slice (some ⟨pb, 0, none⟩) pn pc') budget ∧ Below w2.heap.size w2 wd)
            case first =>
              have HH0 := fun W (h : Below w2.heap.size w2 W) => has_any A bn cb wo.heap.size j bl W (HS.out.keep (HBO.out.trans (h.mono HBO.out.size))) (by omega)
              by_cases hm : j ∈ bl
              · rw [decide_eq_true hm] at HH0
                have HH := Lib.hid HH0
                clear HH0
                have KKc := KK
                obtain ⟨e0, e1, e2, l1, hbb⟩ := KKc
                go_quiet ((with_reducible refine quiet_here (HH.out _ (below_drewN (Below.refl _ _) _))))
                have KK := KK.drewN nq
                go_wp2_with fail
                go_meet
                exact ⟨vbt (by simp [hm]), KK, below_drewN (Below.refl _ _) nq⟩
              · rw [decide_eq_false hm] at HH0
                have HH := Lib.hid HH0
                clear HH0
                have hTj := HT.out.snoc j hlt hm
                have hTs := setL_lt _ n hTj.2
                have hBs := setL_lt _ n HTNH.out.2
                rw [← HST.out] at hTs
                rw [← HSB.out] at hBs
                have hT1 : (sT : Int) < (pn : Int) := by rw [HP.out.pn.out]; omega
                have hB1 : (sB : Int) < (pn : Int) := by rw [HP.out.pn.out]; omega
                have hpn : pn ≤ 65536 := by rw [HP.out.pn.out]; have : 2 ^ n ≤ 2 ^ 16 := Nat.pow_le_pow_right (by omega) (by omega); omega
                have hrow := HP.out.row.keep hbb
                obtain ⟨pT, hpT⟩ : ∃ pT, pT = P sT := ⟨_, rfl⟩
                obtain ⟨pB, hpB⟩ : ∃ pB, pB = P sB := ⟨_, rfl⟩
                have KA := Held2.start KK (pb := pb) (by rw [hrow sT hTs, ← hpT]) (by rw [hrow sB hBs, ← hpB])
                unfold Held2 at KA
                have HPT := Lib.hid hpT
                have HPB := Lib.hid hpB
                have HTJ := Lib.hid hTj
                have hbn10 : bn + 1 ≤ 16 := by omega
                have HF0 := fun W (h : Below w2.heap.size w2 W) => fitsr_any sa A4 n c (bn + 1) c4 _ zs (bl ++ [j]) budget (.slice (some ⟨pb, 0, none⟩) pn pc') W (HP.out.ints.keep (hbb.trans (h.mono hbb.size))) HP.out.len (HSR.out.1.keep h) h.size hTj.2 hbn10 (by omega) HP.out.b0 HP.out.b1
                have HSET := Lib.hid (fun W (h : Below w2.heap.size w2 W) => set_any A4 (bn + 1) c4 _ (bl ++ [j]) W (HSR.out.1.keep h) (things16 HTJ.out (by omega)))
                have HSEB := Lib.hid (fun W (h : Below w2.heap.size w2 W) => set_any A' nn cn _ nl W (HSR.out.2.keep ((hb2.size) |> fun hs => h.mono (by omega))) (things16 HTNH.out (by omega)))
                rw [← HST.out] at HSET
                rw [← HSB.out] at HSEB
                clear hrow hpT hpB hTs hBs hTj
                by_cases hf : fitsR zs (bl ++ [j]) budget = true
                · rw [hf] at HF0
                  have HF := Lib.hid HF0
                  clear HF0
                  go_region_held3 (fun wx => wx.cell? ⟨w.heap.size, 0, none⟩ = some (.slice sa n c) ∧ wx.cell? ⟨w.heap.size, 1, none⟩ = some (.int .i64 budget) ∧ wx.cell? ⟨w.heap.size, 2, none⟩ = some (.slice (some ⟨pb, 0, none⟩) pn pc') ∧ wx.cell? ⟨pb, sT, none⟩ = some (.int .i64 pT) ∧ wx.cell? ⟨pb, sB, none⟩ = some (.int .i64 pB) ∧ w.heap.size < wx.heap.size ∧ Below w.heap.size w wx ∧ Below w2.heap.size w2 wx)
                    (first
                      | (with_reducible exact KA)
                      | (with_reducible assumption)
                      | exact Held2.call (W := _) (by unfold Held2; assumption) hB2
                      | fail)
                    (first
                      | (go_at_call 22; (with_reducible refine Calls.mono (HH.out _ ?_) ?_); (exact Held2.below2 (W := _) (by unfold Held2; assumption)); rintro e w4 ⟨rfl, rfl⟩)
                      | (go_at_call 23; (with_reducible refine Calls.mono (HF.out _ ?_) ?_); (exact Held2.below2 (W := _) (by unfold Held2; assumption)); rintro e w4 ⟨rfl, hB2⟩)
                      | (go_at_call 12; (with_reducible refine Calls.mono (HSET.out _ ?_) ?_); (exact Held2.below2 (W := _) (by unfold Held2; assumption)); rintro e w4 ⟨rfl, rfl⟩)
                      | (go_at_call 12; (with_reducible refine Calls.mono (HSEB.out _ ?_) ?_); (exact Held2.below2 (W := _) (by unfold Held2; assumption)); rintro e w4 ⟨rfl, rfl⟩)
                      | fail)
                  all_goals
                    rename_i hHeld
                    go_wp2_with fail
                    go_meet
                    exact ⟨vbt (by rw [← HPT.out, ← HPB.out]; simp [hm, hf]), Held.kept (Held2.held hHeld), Held2.below2 hHeld⟩
                · have hf' : fitsR zs (bl ++ [j]) budget = false := by simpa using hf
                  rw [hf'] at HF0
                  have HF := Lib.hid HF0
                  clear HF0 hf
                  refine wp_region_held_drew (S := (fun wx => wx.cell? ⟨w.heap.size, 0, none⟩ = some (.slice sa n c) ∧ wx.cell? ⟨w.heap.size, 1, none⟩ = some (.int .i64 budget) ∧ wx.cell? ⟨w.heap.size, 2, none⟩ = some (.slice (some ⟨pb, 0, none⟩) pn pc') ∧ wx.cell? ⟨pb, sT, none⟩ = some (.int .i64 pT) ∧ wx.cell? ⟨pb, sB, none⟩ = some (.int .i64 pB) ∧ w.heap.size < wx.heap.size ∧ Below w.heap.size w wx ∧ Below w2.heap.size w2 wx)) (by kernel_rfl) KA (fun hHeld => ?_)
                  refine wpAnyH_take (i := 0) (v := ?_) (List.getElem?_toArray.trans rfl) (by kernel_rfl) (by kernel_rfl) (by kernel_rfl) (fun _ _ _ h => h) (Or.inl ⟨by rfl, ?_⟩) hHeld ?_
                  rotate_left
                  · intro wx hSw
                    (try dsimp only at hSw)
                    go_simp
                    (try with_reducible rfl)
                  (try simp only [Act.put, List.setIfInBounds_toArray, List.set_cons_zero, List.set_cons_succ])
                  refine wpAnyH_take (i := 1) (v := ?_) (List.getElem?_toArray.trans rfl) (by kernel_rfl) (by kernel_rfl) (by kernel_rfl) (fun _ _ _ h => h) (Or.inl ⟨by rfl, ?_⟩) hHeld ?_
                  rotate_left
                  · intro wx hSw
                    (try dsimp only at hSw)
                    go_simp
                    (try with_reducible rfl)
                  (try simp only [Act.put, List.setIfInBounds_toArray, List.set_cons_zero, List.set_cons_succ])
                  refine wpAnyH_ready (rs := [2]) (by kernel_rfl) (by simp) ?_
                  refine AllReadyH.cons (List.getElem?_toArray.trans rfl) (fun K hK => ?_) AllReadyH.nil
                  go_simp
                  go_at_call 22
                  with_reducible refine Calls.mono (HH.out _ (Held2.below2 (W := _) (by unfold Held2; exact hHeld))) ?_
                  rintro e w4 ⟨rfl, rfl⟩
                  have hHeld2 := hHeld
                  refine hK.out _ _ hHeld2 (fun _ => ?_)
                  clear hK K hHeld
                  have hHeld := hHeld2
                  clear hHeld2
                  (try simp only [Act.put, List.setIfInBounds_toArray, List.set_cons_zero, List.set_cons_succ])
                  refine wpAnyH_take (i := 3) (v := ?_) (List.getElem?_toArray.trans rfl) (by kernel_rfl) (by kernel_rfl) (by kernel_rfl) (fun _ _ _ h => h) (Or.inl ⟨by rfl, ?_⟩) hHeld ?_
                  rotate_left
                  · intro wx hSw
                    (try dsimp only at hSw)
                    go_simp
                    (try with_reducible rfl)
                  (try simp only [Act.put, List.setIfInBounds_toArray, List.set_cons_zero, List.set_cons_succ])
                  refine wpAnyH_take (i := 4) (v := ?_) (List.getElem?_toArray.trans rfl) (by kernel_rfl) (by kernel_rfl) (by kernel_rfl) (fun _ _ _ h => h) (Or.inl ⟨by rfl, ?_⟩) hHeld ?_
                  rotate_left
                  · intro wx hSw
                    (try dsimp only at hSw)
                    go_simp
                    (try with_reducible rfl)
                  (try simp only [Act.put, List.setIfInBounds_toArray, List.set_cons_zero, List.set_cons_succ])
                  refine wpAnyH_take (i := 5) (v := ?_) (List.getElem?_toArray.trans rfl) (by kernel_rfl) (by kernel_rfl) (by kernel_rfl) (fun _ _ _ h => h) (Or.inl ⟨by rfl, ?_⟩) hHeld ?_
                  rotate_left
                  · intro wx hSw
                    (try dsimp only at hSw)
                    go_simp
                    (try with_reducible rfl)
                  (try simp only [Act.put, List.setIfInBounds_toArray, List.set_cons_zero, List.set_cons_succ])
                  refine wpAnyH_take (i := 6) (v := ?_) (List.getElem?_toArray.trans rfl) (by kernel_rfl) (by kernel_rfl) (by kernel_rfl) (fun _ _ _ h => h) (Or.inl ⟨by rfl, ?_⟩) hHeld ?_
                  rotate_left
                  · intro wx hSw
                    (try dsimp only at hSw)
                    go_simp
                    (try with_reducible rfl)
                  (try simp only [Act.put, List.setIfInBounds_toArray, List.set_cons_zero, List.set_cons_succ])
                  refine wpAnyH_ready (rs := [7]) (by kernel_rfl) (by simp) ?_
                  refine AllReadyH.cons (List.getElem?_toArray.trans rfl) (fun K hK => ?_) AllReadyH.nil
                  go_simp
                  go_at_call 23
                  with_reducible refine Calls.mono (HF.out _ (Held2.below2 (W := _) (by unfold Held2; exact hHeld))) ?_
                  rintro e w4 ⟨rfl, hB2⟩
                  have hHeld2 := Held2.call (W := _) (by unfold Held2; exact hHeld) hB2
                  unfold Held2 at hHeld2
                  refine hK.out _ _ hHeld2 (fun _ => ?_)
                  clear hK K hHeld
                  have hHeld := hHeld2
                  clear hHeld2
                  (try simp only [Act.put, List.setIfInBounds_toArray, List.set_cons_zero, List.set_cons_succ])
                  refine wpAnyH_take (i := 8) (v := ?_) (List.getElem?_toArray.trans rfl) (by kernel_rfl) (by kernel_rfl) (by kernel_rfl) (fun _ _ _ h => h) (Or.inl ⟨by rfl, ?_⟩) hHeld ?_
                  rotate_left
                  · intro wx hSw
                    (try dsimp only at hSw)
                    go_simp
                    (try with_reducible rfl)
                  (try simp only [Act.put, List.setIfInBounds_toArray, List.set_cons_zero, List.set_cons_succ])
                  refine wpAnyH_take (i := 9) (v := ?_) (List.getElem?_toArray.trans rfl) (by kernel_rfl) (by kernel_rfl) (by kernel_rfl) (fun _ _ _ h => h) (Or.inl ⟨by rfl, ?_⟩) hHeld ?_
                  rotate_left
                  · intro wx hSw
                    (try dsimp only at hSw)
                    go_simp
                    (try with_reducible rfl)
                  (try simp only [Act.put, List.setIfInBounds_toArray, List.set_cons_zero, List.set_cons_succ])
                  refine wpAnyH_take (i := 10) (List.getElem?_toArray.trans rfl) (by kernel_rfl) (by kernel_rfl) (by kernel_rfl) (fun _ _ _ h => h) (Or.inr ⟨by rfl, rfl⟩) hHeld ?_
                  (try simp only [Act.put, List.setIfInBounds_toArray, List.set_cons_zero, List.set_cons_succ])
                  refine wpAnyH_take (i := 11) (List.getElem?_toArray.trans rfl) (by kernel_rfl) (by kernel_rfl) (by kernel_rfl) (fun _ _ _ h => h) (Or.inr ⟨by rfl, rfl⟩) hHeld ?_
                  (try simp only [Act.put, List.setIfInBounds_toArray, List.set_cons_zero, List.set_cons_succ])
                  refine wpAnyH_take (i := 12) (List.getElem?_toArray.trans rfl) (by kernel_rfl) (by kernel_rfl) (by kernel_rfl) (fun _ _ _ h => h) (Or.inr ⟨by rfl, rfl⟩) hHeld ?_
                  (try simp only [Act.put, List.setIfInBounds_toArray, List.set_cons_zero, List.set_cons_succ])
                  refine wpAnyH_take (i := 13) (List.getElem?_toArray.trans rfl) (by kernel_rfl) (by kernel_rfl) (by kernel_rfl) (fun _ _ _ h => h) (Or.inr ⟨by rfl, rfl⟩) hHeld ?_
                  (try simp only [Act.put, List.setIfInBounds_toArray, List.set_cons_zero, List.set_cons_succ])
                  refine wpAnyH_take (i := 14) (List.getElem?_toArray.trans rfl) (by kernel_rfl) (by kernel_rfl) (by kernel_rfl) (fun _ _ _ h => h) (Or.inr ⟨by rfl, rfl⟩) hHeld ?_
                  (try simp only [Act.put, List.setIfInBounds_toArray, List.set_cons_zero, List.set_cons_succ])
                  refine wpAnyH_take (i := 15) (List.getElem?_toArray.trans rfl) (by kernel_rfl) (by kernel_rfl) (by kernel_rfl) (fun _ _ _ h => h) (Or.inr ⟨by rfl, rfl⟩) hHeld ?_
                  (try simp only [Act.put, List.setIfInBounds_toArray, List.set_cons_zero, List.set_cons_succ])
                  refine wpAnyH_take (i := 16) (List.getElem?_toArray.trans rfl) (by kernel_rfl) (by kernel_rfl) (by kernel_rfl) (fun _ _ _ h => h) (Or.inr ⟨by rfl, rfl⟩) hHeld ?_
                  (try simp only [Act.put, List.setIfInBounds_toArray, List.set_cons_zero, List.set_cons_succ])
                  refine wpAnyH_take (i := 17) (List.getElem?_toArray.trans rfl) (by kernel_rfl) (by kernel_rfl) (by kernel_rfl) (fun _ _ _ h => h) (Or.inr ⟨by rfl, rfl⟩) hHeld ?_
                  (try simp only [Act.put, List.setIfInBounds_toArray, List.set_cons_zero, List.set_cons_succ])
                  refine wpAnyH_take (i := 18) (List.getElem?_toArray.trans rfl) (by kernel_rfl) (by kernel_rfl) (by kernel_rfl) (fun _ _ _ h => h) (Or.inr ⟨by rfl, rfl⟩) hHeld ?_
                  (try simp only [Act.put, List.setIfInBounds_toArray, List.set_cons_zero, List.set_cons_succ])
                  refine wpAnyH_take (i := 19) (List.getElem?_toArray.trans rfl) (by kernel_rfl) (by kernel_rfl) (by kernel_rfl) (fun _ _ _ h => h) (Or.inr ⟨by rfl, rfl⟩) hHeld ?_
                  (try simp only [Act.put, List.setIfInBounds_toArray, List.set_cons_zero, List.set_cons_succ])
                  refine wpAnyH_take (i := 20) (List.getElem?_toArray.trans rfl) (by kernel_rfl) (by kernel_rfl) (by kernel_rfl) (fun _ _ _ h => h) (Or.inr ⟨by rfl, rfl⟩) hHeld ?_
                  (try simp only [Act.put, List.setIfInBounds_toArray, List.set_cons_zero, List.set_cons_succ])
                  refine wpAnyH_take (i := 21) (List.getElem?_toArray.trans rfl) (by kernel_rfl) (by kernel_rfl) (by kernel_rfl) (fun _ _ _ h => h) (Or.inr ⟨by rfl, rfl⟩) hHeld ?_
                  (try simp only [Act.put, List.setIfInBounds_toArray, List.set_cons_zero, List.set_cons_succ])
                  refine wpAnyH_take (i := 22) (List.getElem?_toArray.trans rfl) (by kernel_rfl) (by kernel_rfl) (by kernel_rfl) (fun _ _ _ h => h) (Or.inr ⟨by rfl, rfl⟩) hHeld ?_
                  (try simp only [Act.put, List.setIfInBounds_toArray, List.set_cons_zero, List.set_cons_succ])
                  refine wpAnyH_take (i := 23) (v := ?_) (List.getElem?_toArray.trans rfl) (by kernel_rfl) (by kernel_rfl) (by kernel_rfl) (fun _ _ _ h => h) (Or.inl ⟨by rfl, ?_⟩) hHeld ?_
                  rotate_left
                  · intro wx hSw
                    (try dsimp only at hSw)
                    go_simp
                    (try with_reducible rfl)
                  (try simp only [Act.put, List.setIfInBounds_toArray, List.set_cons_zero, List.set_cons_succ])
                  refine wpAnyH_done (by kernel_rfl) ?_ _
                  go_wp2_with fail
                  go_meet
                  exact ⟨vbt (by simp [hm, hf']), Held.kept (Held2.held hHeld), Held2.below2 hHeld⟩
            obtain ⟨rfl, KK, hBw⟩ := hcut
            obtain ⟨cond, hcond⟩ : ∃ b, b = (!decide (j ∈ bl) && fitsR zs (bl ++ [j]) budget && decide (P sT < P sB)) := ⟨_, rfl⟩
            rw [← hcond]
            rw [← hcond] at HADDJ
            clear hcond
            have HBW := Lib.hid hBw
            have hBo2 := HBO.out.trans (hBw.mono HBO.out.size)
            clear hBw
            cases cond with
            | true =>
              go_wp2_with fail
              go_roundw
              case rel => exact ⟨j + 1, A4, bn + 1, c4, by omega, by go_num, rfl, KK, by rw [HADDJ.out, if_pos rfl]; exact (HSR.out.1.keep HBW.out).more HBW.out.size, hBo2⟩
              case measure => simp [intOf]; omega
            | false =>
              go_wp2_with fail
              go_roundw
              case rel => exact ⟨j + 1, A', nn, cn, by omega, by go_num, rfl, KK, by rw [HADDJ.out, if_neg Bool.false_ne_true]; exact (HSR.out.2.keep (HBW.out.mono hb2.size)).more (by have := hb2.size; have := HBW.out.size; omega), hBo2⟩
              case measure => simp [intOf]; omega
          · obtain rfl : n = j := by omega
            go_wp2_with fail
            go_meet
            exact ⟨A', nn, cn, rfl, KK, hS, hBo⟩
      clear KK hS
      obtain ⟨A', nn, cn, rfl, KK, hS, hBo⟩ := hcut
      have HNN := Lib.hid (show (addR zs budget P bl n).length = nn by rw [← thingsV_length]; exact hS.length)
      rcases HADD.out n (Nat.le_refl _) with hsame | ⟨i, hi, hin, hmore⟩
      · have hnb : nn = bn := by rw [← HNN.out, hsame]; exact HBN.out
        have hb : ((nn : Int) == (bn : Int)) = true := by rw [hnb]; exact beq_self_eq_true _
        have HE := Lib.hid (show R = bl by rw [← HR.out, growR, if_pos (by rw [HBN.out]; exact hk), HZ.out, if_pos (by rw [hsame])])
        have HSB := Lib.hid ((HS.out.keep hBo).more hBo.size)
        clear hsame hnb
        go_wp2
        go_ret
        exact retL_at HE.out HSB.out KK.below
      · have hnb : nn = bn + 1 := by rw [← HNN.out, hmore]; simp [HBN.out]
        have hb : ((nn : Int) == (bn : Int)) = false := by rw [beq_eq_false_iff_ne]; omega
        have hTn : Things n (addR zs budget P bl n) := by rw [hmore]; exact HT.out.snoc i hi hin
        have hnn : nn ≤ n := by rw [← HNN.out]; exact things_le n _ hTn
        obtain ⟨d', rfl⟩ : ∃ d', d = d' + 1 := ⟨d - 1, by omega⟩
        have HE := Lib.hid (show growR zs budget P k (d' + 1) (addR zs budget P bl n) = R by
          rw [← HR.out]
          conv => rhs; rw [growR, if_pos (by rw [HBN.out]; exact hk), HZ.out, if_neg (by rw [HNN.out, HBN.out]; omega)])
        have HTN := Lib.hid hTn
        have HNB := Lib.hid (And.intro hnb hnn)
        clear hmore hnb hTn
        go_wp2
        go_roundw
        case rel => exact ⟨addR zs budget P bl n, d', A', nn, cn, rfl, HTN.out, by have := HNB.out; omega, HE, KK, hS⟩
        case measure => have := HNB.out; simp [sliceLen]; omega
    · have HE := Lib.hid (show R = bl by rw [← HR.out, growR, if_neg (by rw [HBN.out]; exact hk)])
      go_wp2
      go_ret
      exact retL_at HE.out hS KK.below
end Go.Proofs.YteckfakabaiipaaDoor
