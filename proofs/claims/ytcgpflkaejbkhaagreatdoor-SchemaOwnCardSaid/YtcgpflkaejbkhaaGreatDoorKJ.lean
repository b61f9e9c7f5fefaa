/- The walks of names, small, fits: which schemas and scripts are tried. The walk of small: which schemas are tried. The walk of fits: which scripts are tried. -/
import Derived.Test.YtcgpflkaejbkhaaGreatDoorJW
import Derived.Deep.RegionLaw
import Derived.Deep.RegionHeld3
import Derived.Test.YtcgpflkaejbkhaaGreatDoorKH
import Derived.Test.YtcgpflkaejbkhaaGreatDoorKI
namespace Go.Proofs.YtcgpflkaejbkhaaGreatDoor
open Go.RowKit

set_option maxRecDepth 100000 in
set_option maxHeartbeats 8000000 in
/-- whatever names answers: where it is true, there are at most twenty columns -/
theorem names_any (A : Option Addr) (c : Nat) (l : List Col) (w : World) (h : ColsAt w A l) : Calls Tryz.prog 42 #[.slice A l.length c] w fun e w' => ∃ r : Bool, e = .returned (.bool r) ∧ (r = true → l.length ≤ 20) ∧ Below w.heap.size w w' := by
  have H := Lib.hid h
  have hb := h.1
  rw [List.length_map] at hb
  unfold maxLen at hb
  obtain ⟨n, hn⟩ : ∃ n, n = l.length := ⟨_, rfl⟩
  have HN := Lib.hid hn
  rw [← hn] at hb ⊢
  clear h hn
  go_enter Tryz.func42, Tryz.ntmps42
  go_wp2_with fail
  go_loopw [7] (fun i wr => ∃ k : Nat, k ≤ n ∧ i = .int .i64 k ∧ Hid (Below w.heap.size w wr)) (fun i _ => n - (intOf i).toNat)
  case atStart => exact ⟨0, Nat.zero_le _, rfl, Lib.hid (Below.refl _ _)⟩
  case round =>
    obtain ⟨k, hk, rfl, HB⟩ := hrel
    obtain ⟨wo, rfl⟩ : ∃ wo : World, wo = wr := ⟨_, rfl⟩
    by_cases hkn : k < n
    · obtain ⟨x, hx⟩ : ∃ x, l[k]? = some x := ⟨_, List.getElem?_eq_getElem (by have := HN.out; omega)⟩
      have hkn2 : ((k : Int) < (n : Int)) = True := eq_true (by omega)
      obtain ⟨b, off, rfl, hbl, hcells⟩ : ∃ b off, A = some ⟨b, off, none⟩ ∧ b < w.heap.size ∧ ∀ (i : Nat) (v : Value), (colL x)[i]? = some v → w.cell? ⟨b, off + k * 3 + i, none⟩ = some v := by
        rcases H.out.2 with h0' | ⟨b, off, h1, h2, h3⟩
        · exfalso; rw [List.map_eq_nil_iff] at h0'; rw [h0'] at hx; simp at hx
        · exact ⟨b, off, h1, h2, (h3 k (colL x) (by rw [List.getElem?_map, hx]; rfl)).2⟩
      obtain ⟨xn, xt, xb⟩ := x
      have k0 : wo.cell? ⟨b, off + k * 3, none⟩ = some (.string xn) := (HB.out.cell (p := ⟨b, off + k * 3, none⟩) hbl).trans (hcells 0 _ rfl)
      have k1 : wo.cell? ⟨b, off + k * 3 + 1, none⟩ = some (.int .i64 xt) := (HB.out.cell (p := ⟨b, off + k * 3 + 1, none⟩) hbl).trans (hcells 1 _ rfl)
      have k2 : wo.cell? ⟨b, off + k * 3 + 2, none⟩ = some (.bool xb) := (HB.out.cell (p := ⟨b, off + k * 3 + 2, none⟩) hbl).trans (hcells 2 _ rfl)
      have HBA := Lib.hid (HB.out.alloc HB.out.size (.cells #[.string xn, .int .i64 xt, .bool xb] 42))
      clear hx hcells
      by_cases hs : 50 < xn.size
      · have hs2 : ((50 : Int) < (xn.size : Int)) = True := eq_true (by omega)
        go_wp2_with fail
        go_ret
        exact ⟨false, rfl, (fun h => by cases h), HBA.out⟩
      · have hs2 : ((50 : Int) < (xn.size : Int)) = False := eq_false (by omega)
        go_wp2_with fail
        go_roundw
        case rel => exact ⟨k + 1, by omega, by go_num, HBA⟩
        case measure => simp [intOf] <;> omega
    · obtain rfl : n = k := by omega
      obtain ⟨r, hr⟩ : ∃ r, r = decide (n ≤ 20) := ⟨_, rfl⟩
      have hr2 : decide ((n : Int) ≤ 20) = r := by rw [hr]; exact decide_eq_decide.2 (by omega)
      go_wp2_with fail
      go_ret
      exact ⟨_, rfl, (fun h => by have := of_decide_eq_true h; omega), HB.out⟩
end Go.Proofs.YtcgpflkaejbkhaaGreatDoor
namespace Go.Proofs.YtcgpflkaejbkhaaGreatDoor
open Go.RowKit

def SmallP (w : World) (ts : List (Tab × List Col)) (xs : List (Idx × List Int)) (e : Ending) (w' : World) : Prop := ∃ r : Bool, e = .returned (.bool r) ∧ (r = true → ts.length ≤ 20 ∧ xs.length ≤ 20 ∧ (∀ p ∈ ts, p.2.length ≤ 20) ∧ (∀ p ∈ xs, p.2.length ≤ 20)) ∧ Below w.heap.size w w'
set_option maxRecDepth 100000 in
set_option maxHeartbeats 16000000 in
/-- whatever small answers: where it is true, all is short -/
theorem small_any (A : Option Addr) (c : Nat) (ts : List (Tab × List Col)) (ia : Option Addr) (ic : Nat) (xs : List (Idx × List Int)) (w : World) (hD : DeepAt w A ts) (hX : DeepIx w ia xs) : Calls Tryz.prog 17 #[.agg #[.slice A ts.length c, .slice ia xs.length ic]] w (SmallP w ts xs) := by
  have HD := Lib.hid hD
  have HX := Lib.hid hX
  obtain ⟨n, hn⟩ : ∃ n, n = ts.length := ⟨_, rfl⟩
  obtain ⟨mx, hm⟩ : ∃ mx, mx = xs.length := ⟨_, rfl⟩
  have HN := Lib.hid hn
  have HM := Lib.hid hm
  rw [← hn, ← hm]
  have HB0 := Lib.hid (below1 w (.cells #[.slice A n c, .slice ia mx ic] 36))
  have HQ0 := Lib.hid (heap_alloc_new w (.cells #[.slice A n c, .slice ia mx ic] 36))
  clear hD hX hn hm
  by_cases h1 : 20 < n
  · have g1 : ((20 : Int) < (n : Int)) = True := eq_true (by omega)
    go_enter Tryz.func17, Tryz.ntmps17
    go_wp2_with fail
    go_ret
    exact ⟨false, rfl, (fun h => by cases h), HB0.out⟩
  have g1 : ((20 : Int) < (n : Int)) = False := eq_false (by omega)
  by_cases h2 : 20 < mx
  · have g2 : ((20 : Int) < (mx : Int)) = True := eq_true (by omega)
    go_enter Tryz.func17, Tryz.ntmps17
    go_wp2_with fail
    go_ret
    exact ⟨false, rfl, (fun h => by cases h), HB0.out⟩
  have g2 : ((20 : Int) < (mx : Int)) = False := eq_false (by omega)
  go_enter Tryz.func17, Tryz.ntmps17
  go_wp2_with fail
  go_loopw [20] (fun i wr => ∃ k : Nat, k ≤ n ∧ i = .int .i64 k ∧ Hid (Below w.heap.size w wr) ∧ Hid (wr.heap[w.heap.size]? = some (.cells #[.slice A n c, .slice ia mx ic] 36)) ∧ Hid (∀ j, j < k → ∀ p, ts[j]? = some p → p.2.length ≤ 20)) (fun i _ => n - (intOf i).toNat)
  case atStart => exact ⟨0, Nat.zero_le _, rfl, HB0, HQ0, Lib.hid (fun j hj => absurd hj (Nat.not_lt_zero _))⟩
  case round =>
    obtain ⟨k, hk, rfl, HB, HQ, HA⟩ := hrel
    obtain ⟨wo, rfl⟩ : ∃ wo : World, wo = wr := ⟨_, rfl⟩
    by_cases hkn : k < n
    · obtain ⟨⟨t, l⟩, hx⟩ : ∃ x, ts[k]? = some x := ⟨_, List.getElem?_eq_getElem (by have := HN.out; omega)⟩
      have hkn2 : ((k : Int) < (n : Int)) = True := eq_true (by omega)
      obtain ⟨b, off, rfl, HC⟩ := HD.out.cell hx
      obtain ⟨d1, d2, _⟩ := HD.out.2 _ (List.mem_of_getElem? hx)
      have HX1 := Lib.hid hx
      dsimp only at d1 d2
      obtain ⟨tn, ta, tl, tc, tr, tx, tw⟩ := t
      dsimp only at d1 d2
      obtain ⟨ln, hln⟩ : ∃ ln, ln = l.length := ⟨_, rfl⟩
      have HLN := Lib.hid hln
      rw [← hln] at d2
      have d2s := d2.symm
      subst d2s
      have HNA := Lib.hid (show ∀ W, Below w.heap.size w W → Calls Tryz.prog 42 #[.slice ta ln tc] W fun e w' => ∃ r : Bool, e = .returned (.bool r) ∧ (r = true → ln ≤ 20) ∧ Below W.heap.size W w' from fun W hB => by
        have h := names_any ta tc l W (CellsAt.keep hB d1)
        rw [← hln] at h
        exact h)
      clear d1 hln hx
      have k0 : wo.cell? ⟨b, off + k * 5, none⟩ = some (.string tn) := HC.out _ HB.out 0 _ rfl
      have k1 : wo.cell? ⟨b, off + k * 5 + 1, none⟩ = some (.slice ta ln tc) := HC.out _ HB.out 1 _ rfl
      have k2 : wo.cell? ⟨b, off + k * 5 + 2, none⟩ = some (.int .i64 tr) := HC.out _ HB.out 2 _ rfl
      have k3 : wo.cell? ⟨b, off + k * 5 + 3, none⟩ = some (.int .i64 tx) := HC.out _ HB.out 3 _ rfl
      have k4 : wo.cell? ⟨b, off + k * 5 + 4, none⟩ = some (.int .i64 tw) := HC.out _ HB.out 4 _ rfl
      have HBA := Lib.hid (HB.out.alloc HB.out.size (.cells #[.string tn, .slice ta ln tc, .int .i64 tr, .int .i64 tx, .int .i64 tw] 25))
      have HQA := Lib.hid ((heap_alloc_old wo (.cells #[.string tn, .slice ta ln tc, .int .i64 tr, .int .i64 tx, .int .i64 tw] 25) (heap_lt HQ.out)).trans HQ.out)
      by_cases h20 : 20 < ln
      · have g20 : ((20 : Int) < (ln : Int)) = True := eq_true (by omega)
        go_wp2_with fail
        go_ret
        exact ⟨false, rfl, (fun h => by cases h), HBA.out⟩
      have g20 : ((20 : Int) < (ln : Int)) = False := eq_false (by omega)
      by_cases h500 : 50 < tn.size
      · have g500 : ((50 : Int) < (tn.size : Int)) = True := eq_true (by omega)
        go_wp2_with fail
        go_ret
        exact ⟨false, rfl, (fun h => by cases h), HBA.out⟩
      have g500 : ((50 : Int) < (tn.size : Int)) = False := eq_false (by omega)
      have HAN := Lib.hid (show ∀ j, j < k + 1 → ∀ p, ts[j]? = some p → p.2.length ≤ 20 from fun j hj p hp => by
        by_cases e : j = k
        · rw [e, HX1.out] at hp
          cases hp
          have := HLN.out
          show l.length ≤ 20
          omega
        · exact HA.out j (by omega) p hp)
      go_wp2_with (first
        | (go_at_call 42; (with_reducible refine (HNA.out _ HBA.out).mono ?_); rintro e w5 ⟨r, rfl, hr, hB5⟩
           have HB5 := Lib.hid (HBA.out.trans (hB5.mono HBA.out.size))
           have HQ5 := Lib.hid ((hB5.block _ (heap_lt HQA.out)).trans HQA.out)
           clear hB5 hr
           cases r)
        | fail)
      · go_ret
        exact ⟨false, rfl, (fun h => by cases h), HB5.out⟩
      · go_roundw
        case rel => exact ⟨k + 1, by omega, by go_num, HB5, HQ5, HAN⟩
        case measure => simp [intOf] <;> omega
    · obtain rfl : n = k := by omega
      have HAT := Lib.hid HA.out
      have s0 := cell_of_row _ _ 0 _ _ _ HQ.out
      have s1 := cell_of_row _ _ 1 _ _ _ HQ.out
      clear HA
      go_wp2_with fail
      clear s0 s1
      go_loopw [44] (fun i wr => ∃ k : Nat, k ≤ mx ∧ i = .int .i64 k ∧ Hid (Below w.heap.size w wr) ∧ Hid (wr.heap[w.heap.size]? = some (.cells #[.slice A n c, .slice ia mx ic] 36)) ∧ Hid (∀ j, j < k → ∀ p, xs[j]? = some p → p.2.length ≤ 20)) (fun i _ => mx - (intOf i).toNat)
      case atStart => exact ⟨0, Nat.zero_le _, rfl, HB, HQ, Lib.hid (fun j hj => absurd hj (Nat.not_lt_zero _))⟩
      case round =>
        obtain ⟨k, hk, rfl, HB, HQ, HA⟩ := hrel
        obtain ⟨wo, rfl⟩ : ∃ wo : World, wo = wr := ⟨_, rfl⟩
        by_cases hkn : k < mx
        · obtain ⟨⟨t, l⟩, hx⟩ : ∃ x, xs[k]? = some x := ⟨_, List.getElem?_eq_getElem (by have := HM.out; omega)⟩
          have hkn2 : ((k : Int) < (mx : Int)) = True := eq_true (by omega)
          obtain ⟨b, off, rfl, HC⟩ := HX.out.cell hx
          obtain ⟨d1, d2, _⟩ := HX.out.2 _ (List.mem_of_getElem? hx)
          have HX1 := Lib.hid hx
          dsimp only at d1 d2
          obtain ⟨tn, tt, ta, tl, tc, tr, tx, tw⟩ := t
          dsimp only at d1 d2
          obtain ⟨ln, hln⟩ : ∃ ln, ln = l.length := ⟨_, rfl⟩
          have HLN := Lib.hid hln
          rw [← hln] at d2
          have d2s := d2.symm
          subst d2s
          clear d1 hln hx
          have k0 : wo.cell? ⟨b, off + k * 6, none⟩ = some (.string tn) := HC.out _ HB.out 0 _ rfl
          have k1 : wo.cell? ⟨b, off + k * 6 + 1, none⟩ = some (.string tt) := HC.out _ HB.out 1 _ rfl
          have k2 : wo.cell? ⟨b, off + k * 6 + 2, none⟩ = some (.slice ta ln tc) := HC.out _ HB.out 2 _ rfl
          have k3 : wo.cell? ⟨b, off + k * 6 + 3, none⟩ = some (.int .i64 tr) := HC.out _ HB.out 3 _ rfl
          have k4 : wo.cell? ⟨b, off + k * 6 + 4, none⟩ = some (.int .i64 tx) := HC.out _ HB.out 4 _ rfl
          have k5 : wo.cell? ⟨b, off + k * 6 + 5, none⟩ = some (.int .i64 tw) := HC.out _ HB.out 5 _ rfl
          have HBA := Lib.hid (HB.out.alloc HB.out.size (.cells #[.string tn, .string tt, .slice ta ln tc, .int .i64 tr, .int .i64 tx, .int .i64 tw] 28))
          have HQA := Lib.hid ((heap_alloc_old wo (.cells #[.string tn, .string tt, .slice ta ln tc, .int .i64 tr, .int .i64 tx, .int .i64 tw] 28) (heap_lt HQ.out)).trans HQ.out)
          by_cases h20 : 20 < ln
          · have g20 : ((20 : Int) < (ln : Int)) = True := eq_true (by omega)
            go_wp2_with fail
            go_ret
            exact ⟨false, rfl, (fun h => by cases h), HBA.out⟩
          have g20 : ((20 : Int) < (ln : Int)) = False := eq_false (by omega)
          by_cases h500 : 50 < tn.size
          · have g500 : ((50 : Int) < (tn.size : Int)) = True := eq_true (by omega)
            go_wp2_with fail
            go_ret
            exact ⟨false, rfl, (fun h => by cases h), HBA.out⟩
          have g500 : ((50 : Int) < (tn.size : Int)) = False := eq_false (by omega)
          by_cases h501 : 50 < tt.size
          · have g501 : ((50 : Int) < (tt.size : Int)) = True := eq_true (by omega)
            go_wp2_with fail
            go_ret
            exact ⟨false, rfl, (fun h => by cases h), HBA.out⟩
          have g501 : ((50 : Int) < (tt.size : Int)) = False := eq_false (by omega)
          have HAN := Lib.hid (show ∀ j, j < k + 1 → ∀ p, xs[j]? = some p → p.2.length ≤ 20 from fun j hj p hp => by
            by_cases e : j = k
            · rw [e, HX1.out] at hp
              cases hp
              have := HLN.out
              show l.length ≤ 20
              omega
            · exact HA.out j (by omega) p hp)
          go_wp2_with fail
          go_roundw
          case rel => exact ⟨k + 1, by omega, by go_num, HBA, HQA, HAN⟩
          case measure => simp [intOf] <;> omega
        · obtain rfl : mx = k := by omega
          go_wp2_with fail
          go_ret
          refine ⟨true, rfl, (fun _ => ⟨by rw [← HN.out]; omega, by rw [← HM.out]; omega, fun p hp => ?_, fun p hp => ?_⟩), HB.out⟩
          · obtain ⟨j, hj, rfl⟩ := List.mem_iff_getElem.1 hp
            exact HAT.out j (by have := HN.out; omega) _ (List.getElem?_eq_getElem hj)
          · obtain ⟨j, hj, rfl⟩ := List.mem_iff_getElem.1 hp
            exact HA.out j (by have := HM.out; omega) _ (List.getElem?_eq_getElem hj)
end Go.Proofs.YtcgpflkaejbkhaaGreatDoor
namespace Go.Proofs.YtcgpflkaejbkhaaGreatDoor
open Go.RowKit

/-- something that is done: its kind, a table, an index, a name -/
structure Opv where
  kind : Int
  tab : Tab
  cl : List Col
  idx : Idx
  xl : List Int
  nm : ByteArray
def opL (o : Opv) : List Value := [.int .i64 o.kind, .string o.tab.name, .slice o.tab.ca o.tab.cn o.tab.cc, .int .i64 o.tab.root, .int .i64 o.tab.next, .int .i64 o.tab.rows, .string o.idx.name, .string o.idx.table, .slice o.idx.pa o.idx.pn o.idx.pc, .int .i64 o.idx.state, .int .i64 o.idx.root, .int .i64 o.idx.cursor, .string o.nm]
/-- what is read of it -/
def ReadO (w : World) (o : Opv) : Prop := ReadT w (o.tab, o.cl) ∧ ReadX w (o.idx, o.xl)
theorem ReadO.keep {w w' : World} {o : Opv} (hB : Below w.heap.size w w') (h : ReadO w o) : ReadO w' o := ⟨⟨CellsAt.keep hB h.1.1, h.1.2⟩, ⟨IntsAt.keep hB h.2.1, h.2.2⟩⟩
def OpsAt (w : World) (A : Option Addr) (l : List Opv) : Prop := CellsAt w 13 A (l.map opL) ∧ ∀ o ∈ l, ReadO w o
theorem OpsAt.cell {w : World} {A : Option Addr} {l : List Opv} (h : OpsAt w A l) {k : Nat} {o : Opv} (hk : l[k]? = some o) : ∃ b off, A = some ⟨b, off, none⟩ ∧ Hid (∀ W, Below w.heap.size w W → ∀ (i : Nat) (u : Value), (opL o)[i]? = some u → W.cell? ⟨b, off + k * 13 + i, none⟩ = some u) := by
  rcases h.1.2 with h0 | ⟨b, off, h1, h2, h3⟩
  · exfalso
    rw [List.map_eq_nil_iff] at h0
    subst h0
    simp at hk
  · refine ⟨b, off, h1, fun W hB i u hi => (hB.cell (p := ⟨b, off + k * 13 + i, none⟩) h2).trans ((h3 k (opL o) ?_).2 i u hi)⟩
    rw [List.getElem?_map, hk]
    rfl
/-- a slice of one table, of one index -/
theorem one_t {W : World} {g : Nat} {t : Tab} {cl : List Col} (h : W.heap[g]? = some (.cells #[.string t.name, .slice t.ca t.cn t.cc, .int .i64 t.root, .int .i64 t.next, .int .i64 t.rows] 25)) (hr : ReadT W (t, cl)) : DeepAt W (some ⟨g, 0, none⟩) [(t, cl)] := by
  refine ⟨⟨by unfold maxLen; simp, Or.inr ⟨g, 0, rfl, heap_lt h, fun j x hx => ?_⟩⟩, fun p hp => by rw [List.mem_singleton.1 hp]; exact hr⟩
  cases j with
  | zero =>
    obtain rfl : tabL t = x := by simpa using hx
    refine ⟨rfl, fun i u hu => ?_⟩
    rw [Nat.zero_mul, Nat.zero_add]
    refine (cell_of_row W g i _ _ _ h).trans ?_
    simpa [tabL] using hu
  | succ j => simp at hx
theorem one_x {W : World} {g : Nat} {t : Idx} {cl : List Int} (h : W.heap[g]? = some (.cells #[.string t.name, .string t.table, .slice t.pa t.pn t.pc, .int .i64 t.state, .int .i64 t.root, .int .i64 t.cursor] 28)) (hr : ReadX W (t, cl)) : DeepIx W (some ⟨g, 0, none⟩) [(t, cl)] := by
  refine ⟨⟨by unfold maxLen; simp, Or.inr ⟨g, 0, rfl, heap_lt h, fun j x hx => ?_⟩⟩, fun p hp => by rw [List.mem_singleton.1 hp]; exact hr⟩
  cases j with
  | zero =>
    obtain rfl : idxL t = x := by simpa using hx
    refine ⟨rfl, fun i u hu => ?_⟩
    rw [Nat.zero_mul, Nat.zero_add]
    refine (cell_of_row W g i _ _ _ h).trans ?_
    simpa [idxL] using hu
  | succ j => simp at hx
def FitsP (w : World) (l : List Opv) (e : Ending) (w' : World) : Prop := ∃ r : Bool, e = .returned (.bool r) ∧ (r = true → l.length ≤ 60 ∧ ∀ o ∈ l, o.cl.length ≤ 20 ∧ o.xl.length ≤ 20) ∧ Below w.heap.size w w'
set_option maxRecDepth 100000 in
set_option maxHeartbeats 16000000 in
theorem fits_any (A : Option Addr) (c : Nat) (l : List Opv) (w : World) (h : OpsAt w A l) : Calls Tryz.prog 8 #[.slice A l.length c] w (FitsP w l) := by
  have H := Lib.hid h
  have HPOST := Lib.hid (show ∀ w' : World, Below w.heap.size w w' → FitsP w l (.returned (.bool false)) w' from fun w' hB => ⟨false, rfl, (fun h => by cases h), hB⟩)
  obtain ⟨n, hn⟩ : ∃ n, n = l.length := ⟨_, rfl⟩
  have HN := Lib.hid hn
  rw [← hn]
  clear h hn
  by_cases h1 : 60 < n
  · have g1 : ((60 : Int) < (n : Int)) = True := eq_true (by omega)
    go_enter Tryz.func8, Tryz.ntmps8
    go_wp2_with fail
    go_ret
    exact HPOST.out _ (Below.refl _ _)
  have g1 : ((60 : Int) < (n : Int)) = False := eq_false (by omega)
  go_enter Tryz.func8, Tryz.ntmps8
  go_wp2_with fail
  go_loopw [10] (fun i wr => ∃ k : Nat, k ≤ n ∧ i = .int .i64 k ∧ Hid (Below w.heap.size w wr) ∧ Hid (∀ j, j < k → ∀ o, l[j]? = some o → o.cl.length ≤ 20 ∧ o.xl.length ≤ 20)) (fun i _ => n - (intOf i).toNat)
  case atStart => exact ⟨0, Nat.zero_le _, rfl, Lib.hid (Below.refl _ _), Lib.hid (fun j hj => absurd hj (Nat.not_lt_zero _))⟩
  case round =>
    obtain ⟨k, hk, rfl, HB, HA⟩ := hrel
    obtain ⟨wo, rfl⟩ : ∃ wo : World, wo = wr := ⟨_, rfl⟩
    by_cases hkn : k < n
    · obtain ⟨o, hx⟩ : ∃ x, l[k]? = some x := ⟨_, List.getElem?_eq_getElem (by have := HN.out; omega)⟩
      have hkn2 : ((k : Int) < (n : Int)) = True := eq_true (by omega)
      obtain ⟨b, off, rfl, HC⟩ := H.out.cell hx
      have HRO := Lib.hid (H.out.2 o (List.mem_of_getElem? hx))
      have HX1 := Lib.hid hx
      clear hx
      obtain ⟨kind, ⟨tn, ta, tl, tc, tr, tx, tw⟩, cl, ⟨un, ut, ua, ul, uc, us, ur, ux⟩, xl, nm⟩ := o
      have k0 : wo.cell? ⟨b, off + k * 13, none⟩ = some (.int .i64 kind) := HC.out _ HB.out 0 _ rfl
      have k1 : wo.cell? ⟨b, off + k * 13 + 1, none⟩ = some (.string tn) := HC.out _ HB.out 1 _ rfl
      have k2 : wo.cell? ⟨b, off + k * 13 + 2, none⟩ = some (.slice ta tl tc) := HC.out _ HB.out 2 _ rfl
      have k3 : wo.cell? ⟨b, off + k * 13 + 3, none⟩ = some (.int .i64 tr) := HC.out _ HB.out 3 _ rfl
      have k4 : wo.cell? ⟨b, off + k * 13 + 4, none⟩ = some (.int .i64 tx) := HC.out _ HB.out 4 _ rfl
      have k5 : wo.cell? ⟨b, off + k * 13 + 5, none⟩ = some (.int .i64 tw) := HC.out _ HB.out 5 _ rfl
      have k6 : wo.cell? ⟨b, off + k * 13 + 6, none⟩ = some (.string un) := HC.out _ HB.out 6 _ rfl
      have k7 : wo.cell? ⟨b, off + k * 13 + 7, none⟩ = some (.string ut) := HC.out _ HB.out 7 _ rfl
      have k8 : wo.cell? ⟨b, off + k * 13 + 8, none⟩ = some (.slice ua ul uc) := HC.out _ HB.out 8 _ rfl
      have k9 : wo.cell? ⟨b, off + k * 13 + 9, none⟩ = some (.int .i64 us) := HC.out _ HB.out 9 _ rfl
      have k10 : wo.cell? ⟨b, off + k * 13 + 10, none⟩ = some (.int .i64 ur) := HC.out _ HB.out 10 _ rfl
      have k11 : wo.cell? ⟨b, off + k * 13 + 11, none⟩ = some (.int .i64 ux) := HC.out _ HB.out 11 _ rfl
      have k12 : wo.cell? ⟨b, off + k * 13 + 12, none⟩ = some (.string nm) := HC.out _ HB.out 12 _ rfl
      obtain ⟨WF, hWF⟩ : ∃ WF, WF = ((wo.alloc (.cells #[.int .i64 kind, .string tn, .slice ta tl tc, .int .i64 tr, .int .i64 tx, .int .i64 tw, .string un, .string ut, .slice ua ul uc, .int .i64 us, .int .i64 ur, .int .i64 ux, .string nm] 30)).alloc (.cells #[.string tn, .slice ta tl tc, .int .i64 tr, .int .i64 tx, .int .i64 tw] 25)).alloc (.cells #[.string un, .string ut, .slice ua ul uc, .int .i64 us, .int .i64 ur, .int .i64 ux] 28) := ⟨_, rfl⟩
      have HSM := Lib.hid (show Calls Tryz.prog 17 #[.agg #[.slice (some ⟨wo.heap.size + 1, 0, none⟩) 1 1, .slice (some ⟨wo.heap.size + 1 + 1, 0, none⟩) 1 1]] WF (SmallP WF [(⟨tn, ta, tl, tc, tr, tx, tw⟩, cl)] [(⟨un, ut, ua, ul, uc, us, ur, ux⟩, xl)]) ∧ Below w.heap.size w WF ∧ WF.heap[wo.heap.size]? = some (.cells #[.int .i64 kind, .string tn, .slice ta tl tc, .int .i64 tr, .int .i64 tx, .int .i64 tw, .string un, .string ut, .slice ua ul uc, .int .i64 us, .int .i64 ur, .int .i64 ux, .string nm] 30) from by
        obtain ⟨W1, h1⟩ : ∃ W', W' = wo.alloc (.cells #[.int .i64 kind, .string tn, .slice ta tl tc, .int .i64 tr, .int .i64 tx, .int .i64 tw, .string un, .string ut, .slice ua ul uc, .int .i64 us, .int .i64 ur, .int .i64 ux, .string nm] 30) := ⟨_, rfl⟩
        obtain ⟨s1, a1, q1⟩ := box_next h1 rfl
        rw [← h1] at hWF
        obtain ⟨W2, h2⟩ : ∃ W', W' = W1.alloc (.cells #[.string tn, .slice ta tl tc, .int .i64 tr, .int .i64 tx, .int .i64 tw] 25) := ⟨_, rfl⟩
        obtain ⟨s2, a2, q2⟩ := box_next h2 s1
        rw [← h2] at hWF
        obtain ⟨s3, a3, q3⟩ := box_next hWF s2
        have hB : Below w.heap.size w WF := by
          have hb1 : Below w.heap.size w W1 := by rw [h1]; exact HB.out.alloc HB.out.size _
          have hb2 : Below w.heap.size w W2 := by rw [h2]; exact hb1.alloc hb1.size _
          rw [hWF]
          exact hb2.alloc hb2.size _
        have hro := HRO.out.keep hB
        refine ⟨?_, hB, q3 _ _ (q2 _ _ a1)⟩
        have h := small_any (some ⟨wo.heap.size + 1, 0, none⟩) 1 [((⟨tn, ta, tl, tc, tr, tx, tw⟩ : Tab), cl)] (some ⟨wo.heap.size + 1 + 1, 0, none⟩) 1 [((⟨un, ut, ua, ul, uc, us, ur, ux⟩ : Idx), xl)] WF (one_t (q3 _ _ a2) hro.1) (one_x a3 hro.2)
        exact h)
      rw [hWF] at HSM
      clear hWF
      by_cases h50 : 50 < nm.size
      · have g50 : ((50 : Int) < (nm.size : Int)) = True := eq_true (by omega)
        go_wp2_with (first
          | (go_at_call 17; (with_reducible refine HSM.out.1.mono ?_); rintro e w5 ⟨r, rfl, hr, hB5⟩
             have HB5 := Lib.hid (HSM.out.2.1.trans (hB5.mono HSM.out.2.1.size))
             have HQ5 := Lib.hid ((hB5.block _ (heap_lt HSM.out.2.2)).trans HSM.out.2.2)
             have t12 := cell_of_row _ _ 12 _ _ _ HQ5.out
             clear hB5 hr
             cases r)
          | fail)
        all_goals
          go_ret
          exact HPOST.out _ HB5.out
      · have g50 : ((50 : Int) < (nm.size : Int)) = False := eq_false (by omega)
        go_wp2_with (first
          | (go_at_call 17; (with_reducible refine HSM.out.1.mono ?_); rintro e w5 ⟨r, rfl, hr, hB5⟩
             have HB5 := Lib.hid (HSM.out.2.1.trans (hB5.mono HSM.out.2.1.size))
             have HQ5 := Lib.hid ((hB5.block _ (heap_lt HSM.out.2.2)).trans HSM.out.2.2)
             have HR := Lib.hid hr
             have t12 := cell_of_row _ _ 12 _ _ _ HQ5.out
             clear hB5 hr
             cases r)
          | fail)
        · go_ret
          exact HPOST.out _ HB5.out
        · have HAN := Lib.hid (show ∀ j, j < k + 1 → ∀ o, l[j]? = some o → o.cl.length ≤ 20 ∧ o.xl.length ≤ 20 from fun j hj o ho => by
            by_cases e : j = k
            · rw [e, HX1.out] at ho
              cases ho
              obtain ⟨_, _, r3, r4⟩ := HR.out (by first | rfl | trivial)
              exact ⟨r3 _ (List.mem_singleton.2 rfl), r4 _ (List.mem_singleton.2 rfl)⟩
            · exact HA.out j (by omega) o ho)
          go_roundw
          case rel => exact ⟨k + 1, by omega, by go_num, HB5, HAN⟩
          case measure => simp [intOf] <;> omega
    · obtain rfl : n = k := by omega
      have HF := Lib.hid (show ∀ w' : World, Below w.heap.size w w' → FitsP w l (.returned (.bool true)) w' from fun w' hB => ⟨true, rfl, (fun _ => ⟨by rw [← HN.out]; omega, fun o ho => by
        obtain ⟨j, hj, rfl⟩ := List.mem_iff_getElem.1 ho
        exact HA.out j (by have := HN.out; omega) _ (List.getElem?_eq_getElem hj)⟩), hB⟩)
      go_wp2_with fail
      go_ret
      exact HF.out _ HB.out
end Go.Proofs.YtcgpflkaejbkhaaGreatDoor
