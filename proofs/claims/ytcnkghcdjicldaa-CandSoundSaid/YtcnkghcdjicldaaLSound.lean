/- The walk of CandSound. -/
import Derived.Test.YtcnkghcdjicldaaLaw2
import Derived.Test.YtcnkghcdjicldaaRAll
namespace Go.Proofs.Ytcnkghcdjicldaa
open Go.RowKit

theorem nodup_ne {α : Type} {l : List α} (h : l.Nodup) {i j : Nat} {x y : α} (hij : i < j) (hi : l[i]? = some x) (hj : l[j]? = some y) : x ≠ y := by
  obtain ⟨h1, rfl⟩ := List.getElem?_eq_some_iff.1 hi
  obtain ⟨h2, rfl⟩ := List.getElem?_eq_some_iff.1 hj
  exact List.pairwise_iff_getElem.1 h i j h1 h2 hij
set_option maxRecDepth 100000 in
set_option maxHeartbeats 16000000 in
theorem candSound_walk (A : Option Addr) (c : Nat) (qs : List Qd) (most : Int) (w : World) (hq : QsAt w A qs) : Calls Try.prog 5 #[.slice A qs.length c, .int .i64 most] w (RetT w) := by
  have hqs := hq.1
  unfold maxLen at hqs
  have HQ := Lib.hid hq
  have HSMALL := Lib.hid (fun (q : Qd) (W : World) (h : QAt W q) => small_any q W h)
  clear hq
  by_cases h8 : qs.length ≤ 8
  · go_enter Try.func5, Try.ntmps5
    go_wp2_with (first
      | (go_at_call 7; (with_reducible refine (lives_any _).mono ?_); rintro e wl ⟨rfl, hBl⟩; first | (have HB3 := Lib.hid (HB2.out.trans (hBl.mono HB2.out.size)); clear hBl) | (have HB2 := Lib.hid hBl; clear hBl))
      | fail)
    go_loopw [26] (fun i wr => ∃ k : Nat, k ≤ qs.length ∧ i = .int .i64 k ∧ Below w.heap.size w wr ∧ Hid (∀ q ∈ qs.take k, SmallQ q)) (fun i _ => qs.length - (intOf i).toNat)
    case atStart => exact ⟨0, Nat.zero_le _, rfl, HB2.out, Lib.hid (fun q h => by cases h)⟩
    case round =>
      obtain ⟨k, hk, rfl, hB, HS⟩ := hrel
      obtain ⟨wo, rfl⟩ : ∃ wo : World, wo = wr := ⟨_, rfl⟩
      have HB := Lib.hid hB
      clear hB HB2
      by_cases hlt : k < qs.length
      · rcases HQ.out.2 with h0 | ⟨b, off, rfl, hbl, hc⟩
        · exfalso; rw [h0] at hlt; simp at hlt
        · obtain ⟨q, hx⟩ : ∃ q, qs[k]? = some q := ⟨_, List.getElem?_eq_getElem hlt⟩
          obtain ⟨hcq, hqa⟩ := hc k q hx
          have HS2 := Lib.hid (show SmallQ q → ∀ q' ∈ qs.take (k + 1), SmallQ q' from fun h q' hq' => by
            rw [List.take_add_one, hx] at hq'
            rcases List.mem_append.1 hq' with h1 | h1
            · exact HS.out q' h1
            · obtain rfl : q' = q := by simpa using h1
              exact h)
          have HSM := Lib.hid (fun (W : World) (hB : Below w.heap.size w W) => show Calls Try.prog 8 #[qV q] W (fun e w' => (∃ b : Bool, e = .returned (.bool b) ∧ (b = true → SmallQ q)) ∧ Below W.heap.size W w') from (HSMALL.out q W (hqa.keep hB)))
          unfold qV Qd.cells at HSM
          have hcc : ∀ (i : Nat) (v : Value), q.cells.toList[i]? = some v → wo.cell? ⟨b, off + k * 9 + i, none⟩ = some v := fun i v hv => (HB.out.cell (p := ⟨b, off + k * 9 + i, none⟩) hbl).trans (hcq i v hv)
          have q0 : wo.cell? ⟨b, off + k * 9, none⟩ = some (.slice q.tA q.tabs.length q.tc) := hcc 0 _ rfl
          have q1 : wo.cell? ⟨b, off + k * 9 + 1, none⟩ = some (.slice q.bA q.beg.length q.bc) := hcc 1 _ rfl
          have q2 : wo.cell? ⟨b, off + k * 9 + 2, none⟩ = some (.int .i64 q.width) := hcc 2 _ rfl
          have q3 : wo.cell? ⟨b, off + k * 9 + 3, none⟩ = some (.slice q.wA q.wh.length q.wc) := hcc 3 _ rfl
          have q4 : wo.cell? ⟨b, off + k * 9 + 4, none⟩ = some (.slice q.gA q.gn q.gc) := hcc 4 _ rfl
          have q5 : wo.cell? ⟨b, off + k * 9 + 5, none⟩ = some (.bool q.grouped) := hcc 5 _ rfl
          have q6 : wo.cell? ⟨b, off + k * 9 + 6, none⟩ = some (.slice q.iA q.i_n q.ic) := hcc 6 _ rfl
          have q7 : wo.cell? ⟨b, off + k * 9 + 7, none⟩ = some (.slice q.oA q.ord.length q.oc) := hcc 7 _ rfl
          have q8 : wo.cell? ⟨b, off + k * 9 + 8, none⟩ = some (.int .i64 q.limit) := hcc 8 _ rfl
          have hbo : b < wo.heap.size := Nat.lt_of_lt_of_le hbl HB.out.size
          have HBX := Lib.hid (show Below w.heap.size w (wo.alloc (.cells #[.slice q.tA q.tabs.length q.tc, .slice q.bA q.beg.length q.bc, .int .i64 q.width, .slice q.wA q.wh.length q.wc, .slice q.gA q.gn q.gc, .bool q.grouped, .slice q.iA q.i_n q.ic, .slice q.oA q.ord.length q.oc, .int .i64 q.limit] 26)) from HB.out.trans ((below1 wo _).mono HB.out.size))
          clear hcq hqa hx hcc hc
          go_wp2_with (first
            | (go_at_call 8; (with_reducible refine (HSM.out _ HBX.out).mono ?_); rintro e w3 ⟨⟨b, rfl, hsm⟩, hB3⟩; have HB3 := Lib.hid (HBX.out.trans (hB3.mono HBX.out.size)); have HSS := Lib.hid hsm; clear hB3 hsm; cases b)
            | fail)
          · go_ret
            exact ⟨rfl, HB3.out⟩
          · have HS3 := Lib.hid (HS2.out (HSS.out (by simp)))
            go_roundw
            case rel => exact ⟨k + 1, by omega, by go_num, HB3.out, HS3⟩
            case measure => simp [intOf] <;> omega
      · have HSA := Lib.hid (show ∀ q ∈ qs, SmallQ q from fun q hq => HS.out q (by rw [List.take_of_length_le (by omega)]; exact hq))
        clear HS
        obtain ⟨m, hm⟩ : ∃ m : Nat, (m : Int) = max 0 (min most 16) := ⟨(max 0 (min most 16)).toNat, by omega⟩
        have hm16 : m ≤ 16 := by omega
        have H12 := Lib.hid (fun (W : World) (hB : Below w.heap.size w W) => all12_any A c qs most m W hm (HQ.out.keep hB) HSA.out)
        have HF := Lib.hid (allR_facts m qs)
        have HMX := Lib.hid hm
        clear hm
        go_wp2_with (first
          | (go_at_call 12; (with_reducible refine (H12.out _ HB.out).mono ?_); rintro e w4 ⟨ds, A1, c1, hp1, rfl, hd1, hB4⟩; have HP1 := Lib.hid hp1; have HD1 := Lib.hid hd1; have HB4 := Lib.hid (HB.out.trans (hB4.mono HB.out.size)); have hle : (ds.length : Int) ≤ max 0 (min most 16) := (by have := HF.out.1; rw [← hp1] at this; rw [← HMX.out]; simp [pureD] at this; omega); clear hp1 hd1 hB4)
          | fail)
        have HSL := Lib.hid (show Sound (pureD ds) by rw [HP1.out]; exact HF.out.2.1)
        obtain ⟨n, hn⟩ : ∃ n, n = ds.length := ⟨_, rfl⟩
        rw [← hn] at hle ⊢
        have HN := Lib.hid hn
        have hn16 : n ≤ 16 := by omega
        have hcc1 : n ≤ c1 := by rw [hn]; exact HD1.out.2.2.1
        have hccm : c1 ≤ maxLen := HD1.out.2.2.2
        unfold maxLen at hccm
        clear hle hn H12 HF
        go_loopw [45] (fun i wr => ∃ k : Nat, k ≤ n ∧ i = .int .i64 k ∧ Below w4.heap.size w4 wr) (fun i _ => n - (intOf i).toNat)
        case atStart => exact ⟨0, Nat.zero_le _, rfl, Below.refl _ _⟩
        case round =>
          obtain ⟨k2, hk2, rfl, hB2⟩ := hrel
          obtain ⟨wr3, rfl⟩ : ∃ wo : World, wo = wr := ⟨_, rfl⟩
          have HB2 := Lib.hid hB2
          clear hB2
          by_cases hlt2 : k2 < n
          · obtain ⟨⟨dt, dA, dc, dl⟩, hd⟩ : ∃ d, ds[k2]? = some d := ⟨_, List.getElem?_eq_getElem (by have := HN.out; omega)⟩
            have hpd := pure_get hd
            obtain ⟨b, off, hAA, hb, k0, k1, k2', hI⟩ := defs_cells HD1.out HB2.out hd
            subst hAA
            have hsd := HSL.out.1 (dt, dl) (List.mem_of_getElem? hpd)
            have HPD := Lib.hid hpd
            have HND := Lib.hid hsd.2.2
            have hd3 : dl.length ≤ 3 := hsd.2.1
            have hd1 : 1 ≤ dl.length := by have := hsd.1; have h0 := List.length_pos_iff.2 this; dsimp only at h0; omega
            have hbi : b < wr3.heap.size := Nat.lt_of_lt_of_le hb HB2.out.size
            have HBXA := Lib.hid (show BoxD (wr3.alloc (.cells #[.int .i64 dt, .slice dA dl.length dc, .bool false] 36)) wr3.heap.size dt dA dl.length dc from heap_alloc_new _ _)
            have HBA := Lib.hid (HB2.out.trans ((below1 wr3 (.cells #[.int .i64 dt, .slice dA dl.length dc, .bool false] 36)).mono HB2.out.size))
            have HIA := Lib.hid (hI.keep (below1 wr3 (.cells #[.int .i64 dt, .slice dA dl.length dc, .bool false] 36)))
            have hdc : dl.length ≤ dc := hI.len
            have hdcm : dc ≤ maxLen := hI.2
            unfold maxLen at hdcm
            clear hd hpd hI hsd
            obtain ⟨dn, hdn⟩ : ∃ dn, dn = dl.length := ⟨_, rfl⟩
            have HDN := Lib.hid hdn
            rw [← hdn] at hd3 hd1 hdc k1 HBXA HBA HIA
            clear hdn
            go_wp2_with fail
            obtain ⟨wa, hwa⟩ : ∃ wa, wa = wr3.alloc (.cells #[.int .i64 dt, .slice dA dn dc, .bool false] 36) := ⟨_, rfl⟩
            rw [← hwa] at HBXA HBA HIA ⊢
            obtain ⟨x0, x1, x2⟩ := HBXA.out.cells
            have hltx := heap_lt HBXA.out
            clear hwa k0 k1 k2'
            go_loop [67] (fun i => ∃ k : Nat, k ≤ dn ∧ i = .int .i64 k) (fun i => dn - (intOf i).toNat)
            case atStart => exact ⟨0, Nat.zero_le _, rfl⟩
            case round =>
              obtain ⟨k4, hk4, rfl⟩ := hrel
              by_cases hlt4 : k4 < dn
              · rcases HIA.out.at with h0 | ⟨b4, off4, rfl, hb4, hc4⟩
                · exfalso; have := HDN.out; rw [h0] at this; simp at this; omega
                · obtain ⟨x, hx⟩ : ∃ z, dl[k4]? = some z := ⟨_, List.getElem?_eq_getElem (by have := HDN.out; omega)⟩
                  have hcx := hc4 k4 x hx
                  have HX := Lib.hid hx
                  clear hx
                  go_wp2_with fail
                  go_loop [77] (fun i => ∃ k : Nat, k ≤ k4 ∧ i = .int .i64 k) (fun i => k4 - (intOf i).toNat)
                  case atStart => exact ⟨0, Nat.zero_le _, rfl⟩
                  case round =>
                    obtain ⟨k5, hk5, rfl⟩ := hrel
                    by_cases hlt5 : k5 < k4
                    · obtain ⟨y, hy⟩ : ∃ z, dl[k5]? = some z := ⟨_, List.getElem?_eq_getElem (by have := HDN.out; omega)⟩
                      have hcy := hc4 k5 y hy
                      have hne : (y == x) = false := by
                        have := nodup_ne HND.out hlt5 hy HX.out
                        simpa using this
                      clear hy
                      go_wp2_with fail
                      go_round
                      case rel => exact ⟨k5 + 1, by omega, by go_num⟩
                      case measure => simp [intOf] <;> omega
                    · go_wp2_with fail
                      go_round
                      case rel => exact ⟨k4 + 1, by omega, by go_num⟩
                      case measure => simp [intOf] <;> omega
              · have hk2c : (k2 : Int) ≤ (c1 : Int) := by omega
                go_wp2_with fail
                go_loopw [90] (fun i wr => ∃ k : Nat, k ≤ k2 ∧ i = .int .i64 k ∧ Below wa.heap.size wa wr) (fun i _ => k2 - (intOf i).toNat)
                case atStart => exact ⟨0, Nat.zero_le _, rfl, Below.refl _ _⟩
                case round =>
                  obtain ⟨k6, hk6, rfl, hB6⟩ := hrel
                  obtain ⟨wi, rfl⟩ : ∃ wo : World, wo = wr := ⟨_, rfl⟩
                  have HB6 := Lib.hid hB6
                  clear hB6 x0 x1 x2
                  by_cases hlt6 : k6 < k2
                  · obtain ⟨⟨et, eA, ec, el⟩, he⟩ : ∃ d, ds[k6]? = some d := ⟨_, List.getElem?_eq_getElem (by have := HN.out; omega)⟩
                    have hpe := pure_get he
                    obtain ⟨b6, off6, hAA, hb6, m0, m1, m2, hIe⟩ := defs_cells HD1.out (HBA.out.trans (HB6.out.mono HBA.out.size)) he
                    cases hAA
                    have hnp := nodup_ne HSL.out.2 hlt6 hpe HPD.out
                    have HIE := Lib.hid (hIe.keep (below1 wi (.cells #[.int .i64 et, .slice eA el.length ec, .bool false] 36)))
                    have HBX6 := Lib.hid (HB6.out.trans ((below1 wi (.cells #[.int .i64 et, .slice eA el.length ec, .bool false] 36)).mono HB6.out.size))
                    obtain ⟨x0, x1, x2⟩ := (HBXA.out.keep HBX6.out).cells
                    have hlx6 := heap_lt (HBXA.out.keep HBX6.out)
                    have hb6i : b < wi.heap.size := Nat.lt_of_lt_of_le hb6 (HBA.out.trans (HB6.out.mono HBA.out.size)).size
                    have HSM := Lib.hid (show Calls Try.prog 14 #[.agg #[.int .i64 et, .slice eA el.length ec, .bool false], .agg #[.int .i64 dt, .slice dA dn dc, .bool false]] (wi.alloc (.cells #[.int .i64 et, .slice eA el.length ec, .bool false] 36)) (RetV (.bool false) (wi.alloc (.cells #[.int .i64 et, .slice eA el.length ec, .bool false] 36))) from by
                      have h := same_any ⟨et, eA, ec, el⟩ ⟨dt, dA, dc, dl⟩ (wi.alloc (.cells #[.int .i64 et, .slice eA el.length ec, .bool false] 36)) HIE.out (HIA.out.keep HBX6.out)
                      have hs : sameR ⟨et, eA, ec, el⟩ ⟨dt, dA, dc, dl⟩ = false := by
                        unfold sameR
                        rw [Bool.and_eq_false_iff]
                        by_cases h1 : et = dt
                        · right
                          simp only [beq_eq_false_iff_ne]
                          intro h2
                          exact hnp (by simp [h1, h2])
                        · left; simpa using h1
                      rw [hs] at h
                      rw [HDN.out]
                      exact h)
                    clear he hpe hIe hnp
                    go_wp2_with (first
                      | (go_at_call 14; (with_reducible refine HSM.out.mono ?_); rintro e w8 ⟨rfl, hB8⟩; have HB8 := Lib.hid (HBX6.out.trans (hB8.mono HBX6.out.size)); clear hB8)
                      | fail)
                    go_roundw
                    case rel => exact ⟨k6 + 1, by omega, by go_num, HB8.out⟩
                    case measure => simp [intOf] <;> omega
                  · go_wp2_with fail
                    go_roundw
                    case rel => exact ⟨k2 + 1, by omega, by go_num, HBA.out.trans (HB6.out.mono HBA.out.size)⟩
                    case measure => simp [intOf] <;> omega
          · go_wp2_with fail
            go_ret
            exact ⟨rfl, HB4.out.trans (HB2.out.mono HB4.out.size)⟩
  · go_enter Try.func5, Try.ntmps5
    go_wp2_with (first
      | (go_at_call 7; (with_reducible refine (lives_any _).mono ?_); rintro e wl ⟨rfl, hBl⟩; first | (have HB3 := Lib.hid (HB2.out.trans (hBl.mono HB2.out.size)); clear hBl) | (have HB2 := Lib.hid hBl; clear hBl))
      | fail)
    go_ret
    exact ⟨rfl, HB3.out⟩
end Go.Proofs.Ytcnkghcdjicldaa
