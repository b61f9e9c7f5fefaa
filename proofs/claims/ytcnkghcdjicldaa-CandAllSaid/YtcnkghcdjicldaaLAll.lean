/- The walk of CandAll. -/
import Derived.Test.YtcnkghcdjicldaaLaw2
import Derived.Test.YtcnkghcdjicldaaRAll
namespace Go.Proofs.Ytcnkghcdjicldaa
open Go.RowKit

set_option maxRecDepth 100000 in
set_option maxHeartbeats 16000000 in
theorem candAll_walk (A : Option Addr) (c : Nat) (qs : List Qd) (most : Int) (w : World) (hq : QsAt w A qs) : Calls Try.prog 4 #[.slice A qs.length c, .int .i64 most] w (RetT w) := by
  have hqs := hq.1
  unfold maxLen at hqs
  have HQ := Lib.hid hq
  have HSMALL := Lib.hid (fun (q : Qd) (W : World) (h : QAt W q) => small_any q W h)
  clear hq
  by_cases h8 : qs.length ≤ 8
  · go_enter Try.func4, Try.ntmps4
    go_wp2_with (first
      | (go_at_call 7; (with_reducible refine (lives_any _).mono ?_); rintro e wl ⟨rfl, hBl⟩; first | (have HB3 := Lib.hid (HB2.out.trans (hBl.mono HB2.out.size)); clear hBl) | (have HB2 := Lib.hid hBl; clear hBl))
      | fail)
    go_loopw [17] (fun i wr => ∃ k : Nat, k ≤ qs.length ∧ i = .int .i64 k ∧ Below w.heap.size w wr ∧ Hid (∀ q ∈ qs.take k, SmallQ q)) (fun i _ => qs.length - (intOf i).toNat)
    case atStart => exact ⟨0, Nat.zero_le _, rfl, HB2.out, Lib.hid (fun q h => by cases h)⟩
    case round =>
      obtain ⟨k, hk, rfl, hB, HS⟩ := hrel
      obtain ⟨wo, rfl⟩ : ∃ wo : World, wo = wr := ⟨_, rfl⟩
      have HB := Lib.hid hB
      clear hB HB2
      by_cases hlt : k < qs.length
      · rcases HQ.out.2 with h0 | ⟨b, off, rfl, hbl, hc⟩
        · exfalso; rw [h0] at hlt; simp at hlt
        · obtain ⟨q, hx⟩ : ∃ q, qs[k]? = some q := ⟨_, List.getElem?_eq_getElem hlt⟩
          obtain ⟨hcq, hqa⟩ := hc k q hx
          have HS2 := Lib.hid (show SmallQ q → ∀ q' ∈ qs.take (k + 1), SmallQ q' from fun h q' hq' => by
            rw [List.take_add_one, hx] at hq'
            rcases List.mem_append.1 hq' with h1 | h1
            · exact HS.out q' h1
            · obtain rfl : q' = q := by simpa using h1
              exact h)
          have HSM := Lib.hid (fun (W : World) (hB : Below w.heap.size w W) => show Calls Try.prog 8 #[qV q] W (fun e w' => (∃ b : Bool, e = .returned (.bool b) ∧ (b = true → SmallQ q)) ∧ Below W.heap.size W w') from (HSMALL.out q W (hqa.keep hB)))
          unfold qV Qd.cells at HSM
          have hcc : ∀ (i : Nat) (v : Value), q.cells.toList[i]? = some v → wo.cell? ⟨b, off + k * 9 + i, none⟩ = some v := fun i v hv => (HB.out.cell (p := ⟨b, off + k * 9 + i, none⟩) hbl).trans (hcq i v hv)
          have q0 : wo.cell? ⟨b, off + k * 9, none⟩ = some (.slice q.tA q.tabs.length q.tc) := hcc 0 _ rfl
          have q1 : wo.cell? ⟨b, off + k * 9 + 1, none⟩ = some (.slice q.bA q.beg.length q.bc) := hcc 1 _ rfl
          have q2 : wo.cell? ⟨b, off + k * 9 + 2, none⟩ = some (.int .i64 q.width) := hcc 2 _ rfl
          have q3 : wo.cell? ⟨b, off + k * 9 + 3, none⟩ = some (.slice q.wA q.wh.length q.wc) := hcc 3 _ rfl
          have q4 : wo.cell? ⟨b, off + k * 9 + 4, none⟩ = some (.slice q.gA q.gn q.gc) := hcc 4 _ rfl
          have q5 : wo.cell? ⟨b, off + k * 9 + 5, none⟩ = some (.bool q.grouped) := hcc 5 _ rfl
          have q6 : wo.cell? ⟨b, off + k * 9 + 6, none⟩ = some (.slice q.iA q.i_n q.ic) := hcc 6 _ rfl
          have q7 : wo.cell? ⟨b, off + k * 9 + 7, none⟩ = some (.slice q.oA q.ord.length q.oc) := hcc 7 _ rfl
          have q8 : wo.cell? ⟨b, off + k * 9 + 8, none⟩ = some (.int .i64 q.limit) := hcc 8 _ rfl
          have hbo : b < wo.heap.size := Nat.lt_of_lt_of_le hbl HB.out.size
          have HBX := Lib.hid (show Below w.heap.size w (wo.alloc (.cells #[.slice q.tA q.tabs.length q.tc, .slice q.bA q.beg.length q.bc, .int .i64 q.width, .slice q.wA q.wh.length q.wc, .slice q.gA q.gn q.gc, .bool q.grouped, .slice q.iA q.i_n q.ic, .slice q.oA q.ord.length q.oc, .int .i64 q.limit] 26)) from HB.out.trans ((below1 wo _).mono HB.out.size))
          clear hcq hqa hx hcc hc
          go_wp2_with (first
            | (go_at_call 8; (with_reducible refine (HSM.out _ HBX.out).mono ?_); rintro e w3 ⟨⟨b, rfl, hsm⟩, hB3⟩; have HB3 := Lib.hid (HBX.out.trans (hB3.mono HBX.out.size)); have HSS := Lib.hid hsm; clear hB3 hsm; cases b)
            | fail)
          · go_ret
            exact ⟨rfl, HB3.out⟩
          · have HS3 := Lib.hid (HS2.out (HSS.out (by simp)))
            go_roundw
            case rel => exact ⟨k + 1, by omega, by go_num, HB3.out, HS3⟩
            case measure => simp [intOf] <;> omega
      · have HSA := Lib.hid (show ∀ q ∈ qs, SmallQ q from fun q hq => HS.out q (by rw [List.take_of_length_le (by omega)]; exact hq))
        clear HS
        obtain ⟨m, hm⟩ : ∃ m : Nat, (m : Int) = max 0 (min most 16) := ⟨(max 0 (min most 16)).toNat, by omega⟩
        have hm16 : m ≤ 16 := by omega
        have H12 := Lib.hid (fun (W : World) (hB : Below w.heap.size w W) => all12_any A c qs most m W hm (HQ.out.keep hB) HSA.out)
        have H13 := Lib.hid (fun (W : World) (hB : Below w.heap.size w W) => all13_any A c qs most m W hm (HQ.out.keep hB) HSA.out)
        have HLE := Lib.hid (allR_facts m qs).1
        clear hm
        go_wp2_with (first
          | (go_at_call 12; (with_reducible refine (H12.out _ HB.out).mono ?_); rintro e w4 ⟨ds, A1, c1, hp1, rfl, hd1, hB4⟩; have HP1 := Lib.hid hp1; have HD1 := Lib.hid hd1; have HB4 := Lib.hid (HB.out.trans (hB4.mono HB.out.size)); clear hp1 hd1 hB4)
          | (go_at_call 13; (with_reducible refine (H13.out _ HB4.out).mono ?_); rintro e w5 ⟨es, A2, c2, hp2, rfl, hd2, hB5⟩; have HP2 := Lib.hid hp2; have HD2 := Lib.hid hd2; have HD1' := Lib.hid (HD1.out.keep hB5); have HB5 := Lib.hid (HB4.out.trans (hB5.mono HB4.out.size)); clear hp2 hd2 hB5)
          | (go_at_call 9; (with_reducible refine (lsame_any _ _ _ _ _ _ _ HD1'.out HD2.out (HP1.out.trans HP2.out.symm) ?_).mono ?_); (have := HLE.out; rw [← HP1.out] at this; simp [pureD] at this; omega); rintro e w6 ⟨rfl, hB6⟩; have HB6 := Lib.hid (HB5.out.trans (hB6.mono HB5.out.size)); clear hB6)
          | fail)
        go_ret
        exact ⟨rfl, HB6.out⟩
  · go_enter Try.func4, Try.ntmps4
    go_wp2_with (first
      | (go_at_call 7; (with_reducible refine (lives_any _).mono ?_); rintro e wl ⟨rfl, hBl⟩; first | (have HB3 := Lib.hid (HB2.out.trans (hBl.mono HB2.out.size)); clear hBl) | (have HB2 := Lib.hid hBl; clear hBl))
      | fail)
    go_ret
    exact ⟨rfl, HB3.out⟩
end Go.Proofs.Ytcnkghcdjicldaa
