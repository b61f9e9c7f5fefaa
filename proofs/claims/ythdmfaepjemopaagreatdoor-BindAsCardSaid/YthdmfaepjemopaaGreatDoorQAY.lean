/- The walks of size, few and small. The walk of BindAs's called: an expression whose columns go by the other name. The walk of BindAs's turn: a list of expressions, called by the other name. -/
import Derived.Test.YthdmfaepjemopaaGreatDoorQAX
import Derived.Test.YthdmfaepjemopaaGreatDoorQAE
import Derived.Test.YthdmfaepjemopaaGreatDoorQAT
namespace Go.Proofs.YthdmfaepjemopaaGreatDoor
open Go.RowKit

theorem sum_drop {g : Ex → Nat → Nat} {m s : Nat} {l : List Ex} {j : Nat} {y : Ex} (hy : l[j]? = some y) (hs : s ≤ m) : sumR g m s (l.drop j) = sumR g m (s + g y (m - s)) (l.drop (j + 1)) := by
  have hj := (List.getElem?_eq_some_iff.1 hy).1
  rw [List.drop_eq_getElem_cons hj, (List.getElem?_eq_some_iff.1 hy).2]
  conv => lhs; unfold sumR
  rw [if_neg (by omega)]
theorem sum_over {g : Ex → Nat → Nat} {m s : Nat} {l : List Ex} {j : Nat} {y : Ex} (hy : l[j]? = some y) (hs : m < s) : sumR g m s (l.drop j) = s := by
  have hj := (List.getElem?_eq_some_iff.1 hy).1
  rw [List.drop_eq_getElem_cons hj]
  unfold sumR
  rw [if_pos hs]
theorem sum_end {g : Ex → Nat → Nat} {m s : Nat} {l : List Ex} {j : Nat} (hj : l.length ≤ j) : sumR g m s (l.drop j) = s := by
  rw [List.drop_eq_nil_of_le hj]
  rfl
set_option maxRecDepth 100000 in
set_option maxHeartbeats 16000000 in
theorem size_step (n : Nat) (x : Ex) (m : Nat) (w : World) (hx : ExAt w (n + 1) x) (hs : StrX (n + 1) x) (hm : m ≤ 400)
    (HI : ∀ y ∈ x.args, ∀ (k : Nat) (W : World), k ≤ 400 → Below w.heap.size w W → Calls Tryz.prog 20 #[exV y, .int .i64 k] W (RetV (.int .i64 ((sizeR n y k : Nat) : Int)) W)) :
    Calls Tryz.prog 20 #[exV x, .int .i64 m] w (RetV (.int .i64 ((sizeR (n + 1) x m : Nat) : Int)) w) := by
  obtain ⟨R, hR⟩ : ∃ R, R = sizeR (n + 1) x m := ⟨_, rfl⟩
  rw [← hR]
  have HR : Hid (R = sumR (sizeR n) m (1 + x.name.size + x.table.size + x.op.size) x.args) := Lib.hid (by rw [hR]; rfl)
  have HB : Hid (∀ y ∈ x.args, ∀ k, sizeR n y k ≤ k + (1 + 3 * 2 ^ 47)) := Lib.hid fun y hy k => size_le k (hs.2 y hy)
  have HX := Lib.hid hx.1
  have HY := Lib.hid HI
  have hs1 := hs.1
  clear hR hx HI hs
  obtain ⟨k, op, ⟨lk, ln, lf, ls⟩, tn, nm, ng, xa, xc, xs⟩ := x
  unfold exV
  dsimp only [Ex.kind, Ex.op, Ex.lit, Ex.table, Ex.name, Ex.neg, Ex.A, Ex.c, Ex.args] at HR HB HX HY hs1 ⊢
  obtain ⟨hn, ht, ho⟩ := hs1
  have hn : nm.size ≤ 140737488355328 := hn
  have ht : tn.size ≤ 140737488355328 := ht
  have ho : op.size ≤ 140737488355328 := ho
  have HLN : Hid (xs.length ≤ maxLen) := Lib.hid (by have := HX.out.1; rwa [List.length_map] at this)
  obtain ⟨q, hq⟩ : ∃ q, q = xs.length := ⟨_, rfl⟩
  have HQ := Lib.hid hq
  rw [← hq] at HLN ⊢
  have hqm : q ≤ 9223372036854775807 := HLN.out
  clear hq
  have sf := store_float
  go_enter Tryz.func20, Tryz.ntmps20
  go_wp2_with fail
  go_loopw [5, 23] (fun v i wr => ∃ (j s : Nat), j ≤ q ∧ i = .int .i64 j ∧ v = .int .i64 s ∧ s ≤ 422212465065985 + 400 ∧ Hid (R = sumR (sizeR n) m s (xs.drop j)) ∧ Hid (Below w.heap.size w wr)) (fun _ i _ => q - (intOf i).toNat)
  case atStart => exact ⟨0, 1 + nm.size + tn.size + op.size, Nat.zero_le _, rfl, by push_cast; rfl, by omega, HR, Lib.hid (below1 w _)⟩
  case round =>
    obtain ⟨j, s, hj, rfl, rfl, hsb, HS, HBW⟩ := hrel
    obtain ⟨wo, rfl⟩ : ∃ wo : World, wo = wr := ⟨_, rfl⟩
    by_cases hjq : j < q
    · have hjn : ((j : Int) < (q : Int)) = True := eq_true (by omega)
      obtain ⟨y, hy⟩ : ∃ y, xs[j]? = some y := ⟨_, List.getElem?_eq_getElem (by have := HQ.out; omega)⟩
      have HJ := Lib.hid hy
      obtain ⟨eb, eo, rfl, heb, hyc⟩ := ex_at HX.out hy
      have t0 : wo.cell? ⟨eb, eo + j * 10, none⟩ = some (.int .i64 y.kind) := cell_kept (hyc 0 _ rfl) HBW.out
      have t1 := cell_kept (hyc 1 _ rfl) HBW.out
      have t2 := cell_kept (hyc 2 _ rfl) HBW.out
      have t3 := cell_kept (hyc 3 _ rfl) HBW.out
      have t4 := cell_kept (hyc 4 _ rfl) HBW.out
      have t5 := cell_kept (hyc 5 _ rfl) HBW.out
      have t6 := cell_kept (hyc 6 _ rfl) HBW.out
      have t7 := cell_kept (hyc 7 _ rfl) HBW.out
      have t8 := cell_kept (hyc 8 _ rfl) HBW.out
      have t9 := cell_kept (hyc 9 _ rfl) HBW.out
      clear hyc hy
      by_cases hms : m < s
      · have hg : ((m : Int) < (s : Int)) = True := eq_true (by omega)
        have hR2 : R = s := HS.out.trans (sum_over HJ.out hms)
        go_wp2_with fail
        go_ret
        exact ⟨by first | rfl | (rw [hR2]; rfl), HBW.out.trans ((below1 wo _).mono HBW.out.size)⟩
      · have hg : ((m : Int) < (s : Int)) = False := eq_false (by omega)
        have hsub : (m : Int) - (s : Int) = ((m - s : Nat) : Int) := by omega
        have HC := Lib.hid (show ∀ O, Calls Tryz.prog 20 #[exV y, .int .i64 ((m : Int) - (s : Int))] (wo.alloc O) (RetV (.int .i64 ((sizeR n y (m - s) : Nat) : Int)) (wo.alloc O)) from fun O => by
          rw [hsub]
          exact HY.out y (List.mem_of_getElem? HJ.out) _ _ (by omega) (HBW.out.trans ((below1 wo O).mono HBW.out.size)))
        have HN := Lib.hid (HS.out.trans (sum_drop HJ.out (by omega)))
        have hb : sizeR n y (m - s) ≤ (m - s) + 422212465065985 := HB.out y (List.mem_of_getElem? HJ.out) (m - s)
        obtain ⟨z, hz⟩ : ∃ z, z = sizeR n y (m - s) := ⟨_, rfl⟩
        rw [← hz] at HC HN hb
        clear hz hsub
        have HSZ := Lib.hid HBW.out.size
        go_wp2_with (first
          | (go_at_call 20; (with_reducible refine (HC.out _).mono ?_); rintro e w5 ⟨rfl, hB5⟩
             have HB5 := Lib.hid (HBW.out.trans (((below1 wo _).trans (hB5.mono (below1 wo _).size)).mono HSZ.out))
             clear hB5)
          | fail)
        go_roundw
        case rel => exact ⟨j + 1, s + z, by omega, by go_num, by push_cast; rfl, by omega, HN, HB5⟩
        case measure => simp [intOf] <;> omega
    · obtain rfl : j = q := by omega
      have hjn : ((j : Int) < (j : Int)) = False := eq_false (by omega)
      have hR2 : R = s := HS.out.trans (sum_end (by have := HQ.out; omega))
      go_wp2_with fail
      go_ret
      exact ⟨by first | rfl | (rw [hR2]; rfl), HBW.out⟩
theorem size_any : ∀ (n : Nat) (x : Ex) (m : Nat) (w : World), ExAt w n x → StrX n x → m ≤ 400 → Calls Tryz.prog 20 #[exV x, .int .i64 m] w (RetV (.int .i64 ((sizeR n x m : Nat) : Int)) w)
  | 0, _, _, _, h, _, _ => h.elim
  | n + 1, x, m, w, h, hs, hm => size_step n x m w h hs hm fun y hy k W hk hB => size_any n y k W ((h.2 y hy).keep hB) (hs.2 y hy) hk
def fewR (n : Nat) (l : List Ex) : Bool := decide (l.length ≤ 30) && l.all fun x => decide (sizeR n x 400 ≤ 400)
theorem few_iff {n : Nat} {l : List Ex} : fewR n l = true ↔ l.length ≤ 30 ∧ ∀ x ∈ l, sizeR n x 400 ≤ 400 := by
  unfold fewR
  simp [List.all_eq_true]
set_option maxRecDepth 100000 in
set_option maxHeartbeats 16000000 in
theorem few_any (n : Nat) (A : Option Addr) (c : Nat) (l : List Ex) (w : World) (hx : ExsAt w n A l) (hs : ∀ x ∈ l, StrX n x) : Calls Tryz.prog 8 #[.slice A l.length c] w (RetV (.bool (fewR n l)) w) := by
  obtain ⟨R, hR⟩ : ∃ R, R = fewR n l := ⟨_, rfl⟩
  rw [← hR]
  have HT : Hid (l.length ≤ 30 → (∀ x ∈ l, sizeR n x 400 ≤ 400) → R = true) := Lib.hid fun h1 h2 => by rw [hR]; exact few_iff.2 ⟨h1, h2⟩
  have HF : Hid (∀ (j : Nat) (x : Ex), l[j]? = some x → 400 < sizeR n x 400 → R = false) := Lib.hid fun j x hj h => by
    rw [hR, Bool.eq_false_iff]
    intro h2
    have := (few_iff.1 h2).2 x (List.mem_of_getElem? hj)
    omega
  have HL : Hid (30 < l.length → R = false) := Lib.hid fun h => by
    rw [hR, Bool.eq_false_iff]
    intro h2
    have := (few_iff.1 h2).1
    omega
  have HX := Lib.hid hx.1
  have HC := Lib.hid (show ∀ y ∈ l, ∀ W, Below w.heap.size w W → Calls Tryz.prog 20 #[exV y, .int .i64 400] W (RetV (.int .i64 ((sizeR n y 400 : Nat) : Int)) W) from fun y hy W hB => size_any n y 400 W ((hx.2 y hy).keep hB) (hs y hy) (Nat.le_refl _))
  clear hx hs hR
  obtain ⟨q, hq⟩ : ∃ q, q = l.length := ⟨_, rfl⟩
  have HQ := Lib.hid hq
  rw [← hq] at HL HT ⊢
  clear hq
  by_cases h30 : q ≤ 30
  · have hg : ((30 : Int) < (q : Int)) = False := eq_false (by omega)
    have sf := store_float
    go_enter Tryz.func8, Tryz.ntmps8
    go_wp2_with fail
    go_loopw [10] (fun i wr => ∃ (j : Nat), j ≤ q ∧ i = .int .i64 j ∧ Hid (∀ i y, i < j → l[i]? = some y → sizeR n y 400 ≤ 400) ∧ Hid (Below w.heap.size w wr)) (fun i _ => q - (intOf i).toNat)
    case atStart => exact ⟨0, Nat.zero_le _, rfl, Lib.hid fun i y h => absurd h (Nat.not_lt_zero _), Lib.hid (Below.refl _ _)⟩
    case round =>
      obtain ⟨j, hj, rfl, HS, HBW⟩ := hrel
      obtain ⟨wo, rfl⟩ : ∃ wo : World, wo = wr := ⟨_, rfl⟩
      by_cases hjq : j < q
      · have hjn : ((j : Int) < (q : Int)) = True := eq_true (by omega)
        obtain ⟨y, hy⟩ : ∃ y, l[j]? = some y := ⟨_, List.getElem?_eq_getElem (by have := HQ.out; omega)⟩
        have HJ := Lib.hid hy
        obtain ⟨eb, eo, rfl, heb, hyc⟩ := ex_at HX.out hy
        have t0 : wo.cell? ⟨eb, eo + j * 10, none⟩ = some (.int .i64 y.kind) := cell_kept (hyc 0 _ rfl) HBW.out
        have t1 := cell_kept (hyc 1 _ rfl) HBW.out
        have t2 := cell_kept (hyc 2 _ rfl) HBW.out
        have t3 := cell_kept (hyc 3 _ rfl) HBW.out
        have t4 := cell_kept (hyc 4 _ rfl) HBW.out
        have t5 := cell_kept (hyc 5 _ rfl) HBW.out
        have t6 := cell_kept (hyc 6 _ rfl) HBW.out
        have t7 := cell_kept (hyc 7 _ rfl) HBW.out
        have t8 := cell_kept (hyc 8 _ rfl) HBW.out
        have t9 := cell_kept (hyc 9 _ rfl) HBW.out
        clear hyc hy
        have HC1 := Lib.hid (show ∀ O, Calls Tryz.prog 20 #[exV y, .int .i64 400] (wo.alloc O) (RetV (.int .i64 ((sizeR n y 400 : Nat) : Int)) (wo.alloc O)) from fun O => HC.out y (List.mem_of_getElem? HJ.out) _ (HBW.out.trans ((below1 wo O).mono HBW.out.size)))
        have HSZ := Lib.hid HBW.out.size
        have HF1 := Lib.hid (HF.out j y HJ.out)
        have HN1 := Lib.hid (show sizeR n y 400 ≤ 400 → ∀ i z, i < j + 1 → l[i]? = some z → sizeR n z 400 ≤ 400 from fun h i z hi hz => by
          by_cases e : i = j
          · subst e
            have := HJ.out
            rw [hz] at this
            cases this
            exact h
          · exact HS.out i z (by omega) hz)
        obtain ⟨z, hz⟩ : ∃ z, z = sizeR n y 400 := ⟨_, rfl⟩
        rw [← hz] at HC1 HF1 HN1
        clear hz
        by_cases hz4 : 400 < z
        · have hg2 : ((400 : Int) < (z : Int)) = True := eq_true (by omega)
          have hR2 := HF1.out hz4
          go_wp2_with (first
            | (go_at_call 20; (with_reducible refine (HC1.out _).mono ?_); rintro e w5 ⟨rfl, hB5⟩)
            | fail)
          go_ret
          exact ⟨by first | rfl | (rw [hR2]; rfl), HBW.out.trans (((below1 wo _).trans (hB5.mono (below1 wo _).size)).mono HSZ.out)⟩
        · have hg2 : ((400 : Int) < (z : Int)) = False := eq_false (by omega)
          have HN := Lib.hid (HN1.out (by omega))
          go_wp2_with (first
            | (go_at_call 20; (with_reducible refine (HC1.out _).mono ?_); rintro e w5 ⟨rfl, hB5⟩
               have HB5 := Lib.hid (HBW.out.trans (((below1 wo _).trans (hB5.mono (below1 wo _).size)).mono HSZ.out))
               clear hB5)
            | fail)
          go_roundw
          case rel => exact ⟨j + 1, by omega, by go_num, HN, HB5⟩
          case measure => simp [intOf] <;> omega
      · obtain rfl : j = q := by omega
        have hjn : ((j : Int) < (j : Int)) = False := eq_false (by omega)
        have hR2 : R = true := HT.out h30 fun x hx => by
          obtain ⟨i, hi, rfl⟩ := List.mem_iff_getElem.1 hx
          exact HS.out i _ (by have := HQ.out; omega) (List.getElem?_eq_getElem hi)
        go_wp2_with fail
        go_ret
        exact ⟨by first | rfl | (rw [hR2]; rfl), HBW.out⟩
  · have hg : ((30 : Int) < (q : Int)) = True := eq_true (by omega)
    have hR2 := HL.out (by omega)
    go_enter Tryz.func8, Tryz.ntmps8
    go_wp2_with fail
    go_ret
    exact ⟨by first | rfl | (rw [hR2]; rfl), Below.refl _ _⟩
def smallR (ts : List (Tab × List Col)) : Bool := decide (ts.length ≤ 12) && ts.all fun t => decide (t.2.length ≤ 12)
theorem small_iff {ts : List (Tab × List Col)} : smallR ts = true ↔ ts.length ≤ 12 ∧ ∀ t ∈ ts, t.2.length ≤ 12 := by
  unfold smallR
  simp [List.all_eq_true]
set_option maxRecDepth 100000 in
set_option maxHeartbeats 16000000 in
theorem small_any (A : Option Addr) (c : Nat) (ia : Option Addr) (il ik : Nat) (ts : List (Tab × List Col)) (w : World) (hD : DeepAt w A ts) : Calls Tryz.prog 7 #[.agg #[.slice A ts.length c, .slice ia il ik]] w (RetV (.bool (smallR ts)) w) := by
  obtain ⟨R, hR⟩ : ∃ R, R = smallR ts := ⟨_, rfl⟩
  rw [← hR]
  have HT : Hid (ts.length ≤ 12 → (∀ t ∈ ts, t.2.length ≤ 12) → R = true) := Lib.hid fun h1 h2 => by rw [hR]; exact small_iff.2 ⟨h1, h2⟩
  have HF : Hid (∀ (j : Nat) (t : Tab × List Col), ts[j]? = some t → 12 < t.2.length → R = false) := Lib.hid fun j x hj h => by
    rw [hR, Bool.eq_false_iff]
    intro h2
    have := (small_iff.1 h2).2 x (List.mem_of_getElem? hj)
    omega
  have HL : Hid (12 < ts.length → R = false) := Lib.hid fun h => by
    rw [hR, Bool.eq_false_iff]
    intro h2
    have := (small_iff.1 h2).1
    omega
  have HX := Lib.hid hD
  clear hD hR
  obtain ⟨q, hq⟩ : ∃ q, q = ts.length := ⟨_, rfl⟩
  have HQ := Lib.hid hq
  rw [← hq] at HL HT ⊢
  clear hq
  by_cases h30 : q ≤ 12
  · have hg : ((12 : Int) < (q : Int)) = False := eq_false (by omega)
    have sf := store_float
    go_enter Tryz.func7, Tryz.ntmps7
    go_wp2_with fail
    go_loopw [12] (fun i wr => ∃ (j : Nat), j ≤ q ∧ i = .int .i64 j ∧ Hid (∀ i t, i < j → ts[i]? = some t → t.2.length ≤ 12) ∧ Hid (Below w.heap.size w wr)) (fun i _ => q - (intOf i).toNat)
    case atStart => exact ⟨0, Nat.zero_le _, rfl, Lib.hid fun i y h => absurd h (Nat.not_lt_zero _), Lib.hid (below1 w _)⟩
    case round =>
      obtain ⟨j, hj, rfl, HS, HBW⟩ := hrel
      obtain ⟨wo, rfl⟩ : ∃ wo : World, wo = wr := ⟨_, rfl⟩
      by_cases hjq : j < q
      · have hjn : ((j : Int) < (q : Int)) = True := eq_true (by omega)
        obtain ⟨t, ht⟩ : ∃ t, ts[j]? = some t := ⟨_, List.getElem?_eq_getElem (by have := HQ.out; omega)⟩
        have HJ := Lib.hid ht
        obtain ⟨tb, tf, rfl, htb, hcells, hcn, _⟩ := deep_at HX.out ht
        obtain ⟨⟨tbn, tca, tcn, tcc, troot, tnext, trows⟩, cl⟩ := t
        dsimp only [tabL] at hcells hcn
        have t0 : wo.cell? ⟨tb, tf + j * 5, none⟩ = some (.string tbn) := cell_kept (hcells 0 _ rfl) HBW.out
        have t1 := cell_kept (hcells 1 _ rfl) HBW.out
        have t2 := cell_kept (hcells 2 _ rfl) HBW.out
        have t3 := cell_kept (hcells 3 _ rfl) HBW.out
        have t4 := cell_kept (hcells 4 _ rfl) HBW.out
        have HCN := Lib.hid hcn
        clear hcells ht hcn
        have HSZ := Lib.hid HBW.out.size
        by_cases hz4 : 12 < tcn
        · have hg2 : ((12 : Int) < (tcn : Int)) = True := eq_true (by omega)
          have hR2 := HF.out j _ HJ.out (by have := HCN.out; dsimp only; omega)
          go_wp2_with fail
          go_ret
          exact ⟨by first | rfl | (rw [hR2]; rfl), HBW.out.trans ((below1 wo _).mono HSZ.out)⟩
        · have hg2 : ((12 : Int) < (tcn : Int)) = False := eq_false (by omega)
          have HN := Lib.hid (show ∀ i t, i < j + 1 → ts[i]? = some t → t.2.length ≤ 12 from fun i z hi hz => by
            by_cases e : i = j
            · subst e
              have h1 := HJ.out
              rw [hz] at h1
              cases h1
              have := HCN.out
              dsimp only
              omega
            · exact HS.out i z (by omega) hz)
          have HB5 := fun O => Lib.hid (show Below w.heap.size w (wo.alloc O) from HBW.out.trans ((below1 wo O).mono HSZ.out))
          go_wp2_with fail
          go_roundw
          case rel => exact ⟨j + 1, by omega, by go_num, HN, HB5 _⟩
          case measure => simp [intOf] <;> omega
      · obtain rfl : j = q := by omega
        have hjn : ((j : Int) < (j : Int)) = False := eq_false (by omega)
        have hR2 : R = true := HT.out h30 fun x hx => by
          obtain ⟨i, hi, rfl⟩ := List.mem_iff_getElem.1 hx
          exact HS.out i _ (by have := HQ.out; omega) (List.getElem?_eq_getElem hi)
        go_wp2_with fail
        go_ret
        exact ⟨by first | rfl | (rw [hR2]; rfl), HBW.out⟩
  · have hg : ((12 : Int) < (q : Int)) = True := eq_true (by omega)
    have hR2 := HL.out (by omega)
    go_enter Tryz.func7, Tryz.ntmps7
    go_wp2_with fail
    go_ret
    exact ⟨by first | rfl | (rw [hR2]; rfl), below1 w _⟩
end Go.Proofs.YthdmfaepjemopaaGreatDoor
namespace Go.Proofs.YthdmfaepjemopaaGreatDoor
open Go.RowKit

def ExIn (ok : Nat → Prop) (W : World) : Nat → Ex → Prop
  | 0, _ => False
  | n + 1, x => CellsAt W 10 x.A (x.args.map exL) ∧ (x.args ≠ [] → ∀ a, x.A = some a → ok a.block) ∧ ∀ a ∈ x.args, ExIn ok W n a
theorem ExIn.at_ {ok : Nat → Prop} {W : World} : ∀ {n : Nat} {x : Ex}, ExIn ok W n x → ExAt W n x
  | 0, _, h => h.elim
  | _ + 1, _, h => ⟨h.1, fun a ha => (h.2.2 a ha).at_⟩
theorem ExIn.keep {ok : Nat → Prop} {W W' : World} (hB : Below W.heap.size W W') : ∀ {n : Nat} {x : Ex}, ExIn ok W n x → ExIn ok W' n x
  | 0, _, h => h.elim
  | _ + 1, _, h => ⟨CellsAt.keep hB h.1, h.2.1, fun a ha => (h.2.2 a ha).keep hB⟩
theorem ExIn.mono {ok ok' : Nat → Prop} {W : World} (hk : ∀ b, ok b → b < W.heap.size → ok' b) : ∀ {n : Nat} {x : Ex}, ExIn ok W n x → ExIn ok' W n x
  | 0, _, h => h.elim
  | _ + 1, _, h => ⟨h.1, fun hv a ha => hk _ (h.2.1 hv a ha) (h.1.block (by simpa using hv) a ha), fun a ha => (h.2.2 a ha).mono hk⟩
theorem ExIn.grown {ok : Nat → Prop} {W W' : World} {r : Option Nat} (hg : W.grownBy W' r) (hr : ∀ b, ok b → some b ≠ r) : ∀ {n : Nat} {x : Ex}, ExIn ok W n x → ExIn ok W' n x
  | 0, _, h => h.elim
  | _ + 1, _, h => ⟨h.1.grown hg (fun hv a ha => hr _ (h.2.1 (by simpa using hv) a ha)), h.2.1, fun a ha => (h.2.2 a ha).grown hg hr⟩
theorem ExIn.set {ok : Nat → Prop} {n : Nat} {W : World} {x : Ex} (h : ExIn ok W n x) {g i : Nat} {u : Value} (hg : ∀ b, ok b → b ≠ g) : ExIn ok (W.setCell ⟨g, i, none⟩ u) n x :=
  h.grown (set_grown W g i u) (fun b hb e => hg b hb (Option.some.inj e))
def CalO (n : Nat) (w : World) (was no : ByteArray) (x : Ex) (e : Ending) (w' : World) : Prop := Below w.heap.size w w' ∧ ∃ y, e = .returned (exV y) ∧ ExIn (fun b => w.heap.size ≤ b) w' n y ∧ CallsX was no n x y
def exprZ : Value := .agg #[.int .i64 0, .string ⟨#[]⟩, .int .i64 0, .int .i64 0, .float .f64 0, .string ⟨#[]⟩, .string ⟨#[]⟩, .string ⟨#[]⟩, .bool false, .slice none 0 0]
theorem info41 : (Tryz.prog.info? 41).map (fun i => (i.zero, i.size, i.bytes)) = some (some exprZ, 10, 128) := by kernel_rfl
structure CR (ok : Nat → Prop) (n : Nat) (w : World) (bs : List Obj) (base : Nat) (v : Value) (ys : List Ex) (W : World) : Prop where
  bx : BX w bs W
  own : W.ownsRow base 41 10 v ys.length (ys.map exL).flatten
  ins : ∀ y ∈ ys, ExIn (fun b => ok b ∧ v.ownBlock ≠ some b) W n y
theorem CR.keep {ok : Nat → Prop} {n : Nat} {w : World} {bs : List Obj} {base : Nat} {v : Value} {ys : List Ex} {W W' : World} (h : CR ok n w bs base v ys W) (hB : Below W.heap.size W W') : CR ok n w bs base v ys W' :=
  ⟨h.bx.keep hB, own_kept h.own hB (Nat.le_refl _), fun y hy => (h.ins y hy).keep hB⟩
theorem BX.grown2 {w W W' : World} {bs : List Obj} (h : BX w bs W) {r : Option Nat} (hg : W.grownBy W' r) (hr : ∀ b, r = some b → w.heap.size + bs.length ≤ b) (hz : w.heap.size + bs.length ≤ W.heap.size) : BX w bs W' := by
  refine ⟨h.1.grown hg (by omega) (fun b e => by have := hr b e; omega), fun k o hk => ?_⟩
  have hl := (List.getElem?_eq_some_iff.1 hk).1
  exact (hg.block _ (by omega) (fun e => by have := hr _ e.symm; omega)).trans (h.2 k o hk)
theorem CR.more {ok : Nat → Prop} {n : Nat} {w : World} {bs : List Obj} {base : Nat} {v : Value} {ys : List Ex} {W W1 W2 : World} {y : Ex} (h : CR ok n w bs base v ys W) (hb0 : base = w.heap.size + bs.length) (hz : base ≤ W.heap.size) (hB : Below W.heap.size W W1) (hy : ExIn (fun b => W.heap.size ≤ b ∧ ok b) W1 n y)
    {v' : Value} (hown : W2.ownsRow base 41 10 v' (ys.length + 1) ((ys.map exL).flatten ++ exL y)) (hg : W1.grownBy W2 v.ownBlock) (hv : v'.ownBlock = v.ownBlock ∨ v'.ownBlock = some W1.heap.size) : CR ok n w bs base v' (ys ++ [y]) W2 := by
  have h1 := h.keep hB
  have hb := own_base h1.own
  have hbo := own_base h.own
  have hsz := hB.size
  refine ⟨h1.bx.grown2 hg (fun b e => by have := (hb b e).1; omega) (by omega), ?_, ?_⟩
  · rw [List.length_append, List.map_append, List.flatten_append]
    simpa using hown
  · have ok' : ∀ b, b < W1.heap.size → v.ownBlock ≠ some b → v'.ownBlock ≠ some b := fun b h1 h2 e => by
      rcases hv with hv | hv
      · rw [hv] at e; exact h2 e
      · rw [hv] at e; cases e; omega
    intro z hz'
    rcases List.mem_append.1 hz' with hz' | hz'
    · have g1 : ExIn (fun b => (ok b ∧ v.ownBlock ≠ some b) ∧ b < W1.heap.size) W1 n z := (h1.ins z hz').mono fun b hk hl => ⟨hk, hl⟩
      have g2 := g1.grown hg (fun b hk e => hk.1.2 e.symm)
      exact g2.mono fun b hk _ => ⟨hk.1.1, ok' b hk.2 hk.1.2⟩
    · obtain rfl : z = y := by simpa using hz'
      have hne : ∀ b, W.heap.size ≤ b → v.ownBlock ≠ some b := fun b hk e => by have := (hbo b e).2; omega
      have g1 : ExIn (fun b => (W.heap.size ≤ b ∧ ok b) ∧ b < W1.heap.size) W1 n z := hy.mono fun b hk hl => ⟨hk, hl⟩
      have g2 := g1.grown hg (fun b hk e => hne b hk.1.1 e.symm)
      exact g2.mono fun b hk _ => ⟨hk.1.2, ok' b hk.2 (hne b hk.1.1)⟩
theorem pair_snoc {R : Ex → Ex → Prop} {l ys : List Ex} {j : Nat} {a b : Ex} (h : Pair R (l.take j) ys) (ha : l[j]? = some a) (hab : R a b) : Pair R (l.take (j + 1)) (ys ++ [b]) := by
  have hj := (List.getElem?_eq_some_iff.1 ha).1
  have hl : ys.length = j := by rw [h.1, List.length_take]; omega
  refine ⟨by rw [List.length_append, hl, List.length_take]; simp; omega, fun i x y hx hy => ?_⟩
  rw [List.take_add_one, ha, Option.toList_some] at hx
  by_cases hi : i < j
  · rw [List.getElem?_append_left (by rw [List.length_take]; omega)] at hx
    rw [List.getElem?_append_left (by omega)] at hy
    exact h.2 i x y hx hy
  · rw [List.getElem?_append_right (by rw [List.length_take]; omega)] at hx
    rw [List.getElem?_append_right (by omega)] at hy
    have hi0 : i - ys.length = 0 := by
      have := (List.getElem?_eq_some_iff.1 hy).1
      simpa using this
    rw [hi0] at hy
    rw [show i - (l.take j).length = 0 by rw [← h.1]; exact hi0] at hx
    cases hx
    cases hy
    exact hab
noncomputable def caC (k : Nat) : Code := dropC k (Tryz.f13.body.getD .skip)
set_option maxRecDepth 100000 in
theorem open65 {a : Act} (h : a.tmps.size = 65) : ∃ u : Nat → Value, a.tmps = #[u 0, u 1, u 2, u 3, u 4, u 5, u 6, u 7, u 8, u 9, u 10, u 11, u 12, u 13, u 14, u 15, u 16, u 17, u 18, u 19, u 20, u 21, u 22, u 23, u 24, u 25, u 26, u 27, u 28, u 29, u 30, u 31, u 32, u 33, u 34, u 35, u 36, u 37, u 38, u 39, u 40, u 41, u 42, u 43, u 44, u 45, u 46, u 47, u 48, u 49, u 50, u 51, u 52, u 53, u 54, u 55, u 56, u 57, u 58, u 59, u 60, u 61, u 62, u 63, u 64] ∧ ∀ t, t < 65 → a.tmps.getD t undef = u t := by
  refine ⟨fun t => a.tmps.getD t undef, ?_, fun t _ => rfl⟩
  have e : a.tmps = ((List.range 65).map fun t => a.tmps.getD t undef).toArray := by
    apply Array.ext
    · simp [h]
    · intro i h1 h2
      simp [h1]
  exact e
theorem res_x {fn : Func} {i : Nat} (h : fn.results = #[.cell i 41]) {tm : Array Value} {W : World} {eb : Nat} (he : tm[i]?.getD undef = .pointer (some ⟨eb, 0, none⟩)) {u0 u1 u2 u3 u4 u5 u6 u7 u8 u9 : Value} {ty : TypeId} (h2 : W.heap[eb]? = some (.cells #[u0, u1, u2, u3, u4, u5, u6, u7, u8, u9] ty)) :
    (results fn tm).run Tryz.prog W = .ok (.agg #[u0, u1, u2, u3, u4, u5, u6, u7, u8, u9]) W := by
  obtain ⟨b0, b1, b2, b3, b4, b5, b6, b7, b8, b9⟩ := row10 h2
  simp [results, h, go_sem, he, b0, b1, b2, b3, b4, b5, b6, b7, b8, b9]
structure S13 (w : World) (was no : ByteArray) (a : Act) : Prop where
  size : a.tmps.size = 65
  df : a.defers = []
  s1 : a.tmps.getD 1 undef = .string was
  s2 : a.tmps.getD 2 undef = .string no
  s3 : a.tmps.getD 3 undef = .pointer (some ⟨w.heap.size, 0, none⟩)
  s6 : a.tmps.getD 6 undef = .pointer (some ⟨w.heap.size + 1, 0, none⟩)
set_option maxRecDepth 100000 in
set_option maxHeartbeats 16000000 in
theorem cal5 (n : Nat) (w : World) (was no : ByteArray) (x0 : Ex) (k : Int) (op : ByteArray) (lk ln : Int) (lf : Nat) (ls t1 nm : ByteArray) (ng : Bool) (xa : Option Addr) (q xc : Nat) (hq : q = x0.args.length) (hx0 : x0.kind = k ∧ x0.op = op ∧ x0.lit = ⟨lk, ln, lf, ls⟩ ∧ x0.name = nm ∧ x0.neg = ng ∧ t1 = turnT was no x0.kind x0.table) (v : Value) (ys : List Ex) (a : Act) (W : World) (hS : S13 w was no a) (h7 : a.tmps.getD 7 undef = v) (_hz : w.heap.size + 2 ≤ W.heap.size)
    (hA : CR (fun b => w.heap.size + 2 ≤ b) n w [.cells #[.int .i64 k, .string op, .int .i64 lk, .int .i64 ln, .float .f64 lf, .string ls, .string t1, .string nm, .bool ng, .slice xa q xc] 41, .cells #[.int .i64 0, .string ⟨#[]⟩, .int .i64 0, .int .i64 0, .float .f64 0, .string ⟨#[]⟩, .string ⟨#[]⟩, .string ⟨#[]⟩, .bool false, .slice none 0 0] 41] (w.heap.size + 2) v ys W) (hP : Pair (CallsX was no n) x0.args ys) : (caC 5).wp Tryz.prog (bodyPost Tryz.prog Tryz.f13 (CalO (n + 1) w was no x0)) a W := by
  obtain ⟨A, c, rfl, _, hC, hbl, _⟩ := own_cells hA.own (fun x hx => by obtain ⟨y, _, rfl⟩ := List.mem_map.1 hx; rfl) (by rw [List.length_map])
  have HF := Lib.hid ((hA.bx.set (k := 0) rfl 9 (.slice A ys.length c)).set10 (k := 1) (v0 := .int .i64 k) (v1 := .string op) (v2 := .int .i64 lk) (v3 := .int .i64 ln) (v4 := .float .f64 lf) (v5 := .string ls) (v6 := .string t1) (v7 := .string nm) (v8 := .bool ng) (v9 := .slice A ys.length c) rfl)
  have HE := Lib.hid (show ExIn (fun b => w.heap.size + 2 ≤ b) W (n + 1) (.mk k op ⟨lk, ln, lf, ls⟩ t1 nm ng A c ys) from ⟨hC, fun _ a ha => (hbl a ha).1, fun a ha => (hA.ins a ha).mono fun b hb _ => hb.1⟩)
  have HP := Lib.hid hP
  have HX := Lib.hid hx0
  obtain ⟨b0, b1, b2, b3, b4, b5, b6, b7, b8, b9⟩ := row10 (hA.bx.row0 _ _ rfl)
  obtain ⟨f0, f1, f2, f3, f4, f5, f6, f7, f8, f9⟩ := free10 (hA.bx.row0 _ _ rfl)
  obtain ⟨c0, c1, c2, c3, c4, c5, c6, c7, c8, c9⟩ := row10 (hA.bx.row 1 _ _ rfl)
  obtain ⟨e0, e1, e2, e3, e4, e5, e6, e7, e8, e9⟩ := free10 (hA.bx.row 1 _ _ rfl)
  have l0 := heap_lt (hA.bx.row0 _ _ rfl)
  have l1 := heap_lt (hA.bx.row 1 _ _ rfl)
  clear hA hC hbl hP hx0
  obtain ⟨u, hu, hug⟩ := open65 hS.size
  have p1 := hS.s1; have p2 := hS.s2; have p3 := hS.s3; have p6 := hS.s6
  have hdf := hS.df
  rw [hug _ (by omega)] at p1 p2 p3 p6 h7
  obtain ⟨tm, df⟩ := a
  dsimp only at hu hdf
  subst hu hdf
  clear hS hug
  rw [p1, p2, p3, p6, h7]
  clear p1 p2 p3 p6 h7
  have sf := store_float
  conv => arg 2; whnf
  go_wp2_with fail
  refine bodyPost_ret (res_x (fn := Tryz.f13) rfl rfl (HF.out.row 1 _ _ rfl)) rfl ⟨HF.out.below, .mk k op ⟨lk, ln, lf, ls⟩ t1 nm ng A c ys, rfl, ?_, ?_⟩
  · refine ExIn.mono (ok := fun b => w.heap.size + 2 ≤ b) (fun b hb _ => by omega) ?_
    iterate 11 refine ExIn.set ?_ (fun b hb => by omega)
    exact HE.out
  · obtain ⟨h1, h2, h3, h4, h5, h6⟩ := HX.out
    exact ⟨⟨h1.symm, h2.symm, h3.symm, h4.symm, h5.symm, h6⟩, HP.out⟩
set_option maxRecDepth 100000 in
set_option maxHeartbeats 16000000 in
theorem cal3 (n : Nat) (w : World) (was no : ByteArray) (x0 : Ex) (k : Int) (op : ByteArray) (lk ln : Int) (lf : Nat) (ls t1 nm : ByteArray) (ng : Bool) (xa : Option Addr) (q xc : Nat) (hq : q = x0.args.length) (hq1 : q ≤ 1000) (hxa : xa = x0.A) (hx0 : x0.kind = k ∧ x0.op = op ∧ x0.lit = ⟨lk, ln, lf, ls⟩ ∧ x0.name = nm ∧ x0.neg = ng ∧ t1 = turnT was no x0.kind x0.table) (hX : CellsAt w 10 x0.A (x0.args.map exL)) (HI : ∀ y ∈ x0.args, ∀ W, Below w.heap.size w W → Calls Tryz.prog 13 #[exV y, .string was, .string no] W (CalO n W was no y)) (a : Act) (W : World) (hS : S13 w was no a) (hM : BX w [.cells #[.int .i64 k, .string op, .int .i64 lk, .int .i64 ln, .float .f64 lf, .string ls, .string t1, .string nm, .bool ng, .slice xa q xc] 41, .cells #[.int .i64 0, .string ⟨#[]⟩, .int .i64 0, .int .i64 0, .float .f64 0, .string ⟨#[]⟩, .string ⟨#[]⟩, .string ⟨#[]⟩, .bool false, .slice none 0 0] 41] W) (hz : w.heap.size + 2 ≤ W.heap.size) : (caC 3).wp Tryz.prog (bodyPost Tryz.prog Tryz.f13 (CalO (n + 1) w was no x0)) a W := by
  have HSEG := Lib.hid (show ∀ v ys a W', S13 w was no a → a.tmps.getD 7 undef = v → w.heap.size + 2 ≤ W'.heap.size → CR (fun b => w.heap.size + 2 ≤ b) n w [.cells #[.int .i64 k, .string op, .int .i64 lk, .int .i64 ln, .float .f64 lf, .string ls, .string t1, .string nm, .bool ng, .slice xa q xc] 41, .cells #[.int .i64 0, .string ⟨#[]⟩, .int .i64 0, .int .i64 0, .float .f64 0, .string ⟨#[]⟩, .string ⟨#[]⟩, .string ⟨#[]⟩, .bool false, .slice none 0 0] 41] (w.heap.size + 2) v ys W' → Pair (CallsX was no n) x0.args ys → (caC 5).wp Tryz.prog (bodyPost Tryz.prog Tryz.f13 (CalO (n + 1) w was no x0)) a W' from fun v ys a W' hS h7 hz hA hP => cal5 n w was no x0 k op lk ln lf ls t1 nm ng xa q xc hq hx0 v ys a W' hS h7 hz hA hP)
  have HQ := Lib.hid hq
  have HX := Lib.hid (show CellsAt w 10 xa (x0.args.map exL) from by rw [hxa]; exact hX)
  have HY := Lib.hid HI
  have HST := Lib.hid (show CR (fun b => w.heap.size + 2 ≤ b) n w [.cells #[.int .i64 k, .string op, .int .i64 lk, .int .i64 ln, .float .f64 lf, .string ls, .string t1, .string nm, .bool ng, .slice xa q xc] 41, .cells #[.int .i64 0, .string ⟨#[]⟩, .int .i64 0, .int .i64 0, .float .f64 0, .string ⟨#[]⟩, .string ⟨#[]⟩, .string ⟨#[]⟩, .bool false, .slice none 0 0] 41] (w.heap.size + 2) (.slice none 0 0) [] W from ⟨hM, World.ownsRow_nil _ _ _ _, fun y hy => by cases hy⟩)
  have b9 : W.cell? ⟨w.heap.size, 9, none⟩ = some (.slice xa q xc) := cell_of_row _ _ 9 _ _ _ (hM.row0 _ _ rfl)
  clear hq hxa hx0 hX HI hM
  obtain ⟨u, hu, hug⟩ := open65 hS.size
  have p1 := hS.s1; have p2 := hS.s2; have p3 := hS.s3; have p6 := hS.s6
  have hdf := hS.df
  rw [hug _ (by omega)] at p1 p2 p3 p6
  obtain ⟨tm, df⟩ := a
  dsimp only at hu hdf
  subst hu hdf
  clear hS hug
  rw [p1, p2, p3, p6]
  clear p1 p2 p3 p6
  conv => arg 2; whnf
  refine wp_seq_k fun K0 hK0 => ?_
  have HK0 := Lib.hid hK0
  clear hK0
  go_wp2_with fail
  refine HK0.out _ _ ?_
  refine wp_seq_k fun K hK => ?_
  have HK := Lib.hid (show ∀ a w', (caC 5).wp Tryz.prog (bodyPost Tryz.prog Tryz.f13 (CalO (n + 1) w was no x0)) a w' → K a w' from hK)
  clear hK
  go_wp2_with fail
  clear b9
  refine wp_loop (fun a' wr => S13 w was no a' ∧ a'.tmps.getD 48 undef = .slice xa q xc ∧ a'.tmps.getD 49 undef = .int .i64 q ∧ ∃ (j : Nat) (v : Value) (ys : List Ex), j ≤ q ∧ a'.tmps.getD 50 undef = .int .i64 j ∧ a'.tmps.getD 7 undef = v ∧ ys.length = j ∧ w.heap.size + 2 ≤ wr.heap.size ∧ Hid (Pair (CallsX was no n) (x0.args.take j) ys) ∧ Hid (CR (fun b => w.heap.size + 2 ≤ b) n w [.cells #[.int .i64 k, .string op, .int .i64 lk, .int .i64 ln, .float .f64 lf, .string ls, .string t1, .string nm, .bool ng, .slice xa q xc] 41, .cells #[.int .i64 0, .string ⟨#[]⟩, .int .i64 0, .int .i64 0, .float .f64 0, .string ⟨#[]⟩, .string ⟨#[]⟩, .string ⟨#[]⟩, .bool false, .slice none 0 0] 41] (w.heap.size + 2) v ys wr)) (fun a' _ => q - (intOf (a'.tmps.getD 50 undef)).toNat) ?start ?round
  case start =>
    refine ⟨⟨?_, ?_, ?_, ?_, ?_, ?_⟩, ?_, ?_, 0, .slice none 0 0, [], Nat.zero_le _, ?_, ?_, rfl, hz, Lib.hid ⟨rfl, fun i a b h => by cases h⟩, HST⟩
    all_goals rfl
  case round =>
    clear HST hz
    rintro a wr ⟨hS, hsl, hln, j, v, ys, hj, hix, h7, hyl, hz, HP, HA⟩
    obtain ⟨u, hu, hug⟩ := open65 hS.size
    have p1 := hS.s1; have p2 := hS.s2; have p3 := hS.s3; have p6 := hS.s6
    have hdf := hS.df
    rw [hug _ (by omega)] at p1 p2 p3 p6 hsl hln hix h7
    obtain ⟨tm, df⟩ := a
    dsimp only at hu hdf
    subst hu hdf
    clear hS hug
    rw [p1, p2, p3, p6, hsl, hln, hix, h7]
    clear p1 p2 p3 p6 hsl hln hix h7
    have HYL := Lib.hid hyl
    clear hyl
    by_cases hjq : j < q
    · have hjn : ((j : Int) < (q : Int)) = True := eq_true (by omega)
      obtain ⟨y, hy⟩ : ∃ y, x0.args[j]? = some y := ⟨_, List.getElem?_eq_getElem (by have := HQ.out; omega)⟩
      have HJ := Lib.hid hy
      obtain ⟨eb, eo, rfl, heb, hyc⟩ := ex_at HX.out hy
      have t0 : wr.cell? ⟨eb, eo + j * 10, none⟩ = some (.int .i64 y.kind) := cell_kept (hyc 0 _ rfl) HA.out.bx.below
      have t1 := cell_kept (hyc 1 _ rfl) HA.out.bx.below
      have t2 := cell_kept (hyc 2 _ rfl) HA.out.bx.below
      have t3 := cell_kept (hyc 3 _ rfl) HA.out.bx.below
      have t4 := cell_kept (hyc 4 _ rfl) HA.out.bx.below
      have t5 := cell_kept (hyc 5 _ rfl) HA.out.bx.below
      have t6 := cell_kept (hyc 6 _ rfl) HA.out.bx.below
      have t7 := cell_kept (hyc 7 _ rfl) HA.out.bx.below
      have t8 := cell_kept (hyc 8 _ rfl) HA.out.bx.below
      have t9 := cell_kept (hyc 9 _ rfl) HA.out.bx.below
      have sf := store_float
      have HC := Lib.hid (show ∀ O, Calls Tryz.prog 13 #[exV y, .string was, .string no] (wr.alloc O) (CalO n (wr.alloc O) was no y) from fun O => HY.out y (List.mem_of_getElem? hy) _ (HA.out.bx.below.trans ((below1 wr O).mono HA.out.bx.below.size)))
      clear hyc hy
      go_wp2_with (first
        | (go_at_call 13; (with_reducible refine (HC.out _).mono ?_); rintro e w5 ⟨hB5, z, rfl, hN5, hC5⟩
           have HB5 := fun O => Lib.hid (show Below wr.heap.size wr (w5.alloc O) from ((below1 wr _).trans (hB5.mono (below1 wr _).size)).alloc (Nat.le_trans (below1 wr _).size hB5.size) O)
           have HN5 := fun O => Lib.hid (show ExIn (fun b => wr.heap.size ≤ b ∧ w.heap.size + 2 ≤ b) (w5.alloc O) n z from (hN5.keep (below1 w5 O)).mono fun b h1 _ => ⟨Nat.le_trans (below1 wr _).size h1, Nat.le_trans hz (Nat.le_trans (below1 wr _).size h1)⟩)
           have HZ5 := Lib.hid (show wr.heap.size ≤ w5.heap.size from Nat.le_trans (below1 wr _).size hB5.size)
           have HP5 := Lib.hid (pair_snoc HP.out HJ.out hC5)
           clear hB5 hN5 hC5)
        | (at_builtin; refine list_one 29 41 10 128 exprZ Tryz.underlying29 info41 rfl (by omega) (by omega) _ rfl _ _ rfl (w.heap.size + 2) v ys.length (ys.map exL).flatten rfl (HA.out.keep (HB5 _).out).own _ 1 (exL z) rfl rfl rfl (heap_alloc_new w5 _) ?c3 ?c4 ?_)
        | fail)
      case c3 => have := HYL.out; omega
      case c4 => have := HZ5.out; simp; omega
      intro v8 w8 hown hgr hv8
      have HM := Lib.hid (HA.out.more rfl hz (HB5 _).out (HN5 _).out hown hgr (by rw [World.size_alloc]; exact hv8))
      have HZ8 := Lib.hid (show w.heap.size + 2 ≤ w8.heap.size from by have := hgr.size; have := HZ5.out; rw [World.size_alloc] at *; omega)
      clear hown hgr hv8
      go_wp2_with fail
      refine ⟨⟨⟨?_, ?_, ?_, ?_, ?_, ?_⟩, ?_, ?_, j + 1, v8, ys ++ [z], by omega, ?_, ?_, by rw [List.length_append, HYL.out]; rfl, HZ8.out, HP5, HM⟩, ?_⟩
      all_goals first | rfl | skip
      show q - (intOf (.int .i64 _)).toNat < q - (intOf (.int .i64 _)).toNat
      simp [intOf] <;> omega
    · obtain rfl : j = q := by omega
      have hjn : ((j : Int) < (j : Int)) = False := eq_false (by omega)
      have HPF := HP.out
      rw [List.take_of_length_le (by have := HQ.out; omega)] at HPF
      go_wp2_with fail
      refine HK.out _ _ (HSEG.out v ys _ _ ⟨?_, ?_, ?_, ?_, ?_, ?_⟩ ?_ hz HA.out HPF)
      all_goals rfl
theorem str_ne {s t : ByteArray} (h : s ≠ t) : (s.toList == t.toList) = false := by
  rw [beq_eq_false_iff_ne]
  intro e
  exact h (sameN_iff.1 (show sameN s t = true by unfold sameN; rw [e]; exact beq_self_eq_true _))
theorem str_neP {s t : ByteArray} (h : s ≠ t) : (s.toList = t.toList) = False := eq_false (beq_eq_false_iff_ne.1 (str_ne h))
theorem str_nil {s : ByteArray} (h : s ≠ ⟨#[]⟩) : (s.toList = []) = False := eq_false (fun e => h (by rw [ByteArray.toList_eq] at e; exact ByteArray.ext (Array.toList_inj.1 e)))
set_option maxRecDepth 100000 in
set_option maxHeartbeats 16000000 in
theorem cal_a (n : Nat) (w : World) (was no : ByteArray) (x0 : Ex) (k : Int) (op : ByteArray) (lk ln : Int) (lf : Nat) (ls tn nm : ByteArray) (ng : Bool) (xa : Option Addr) (q xc : Nat) (hk : (k == 2) = false)
    (HSEG : ∀ a W, S13 w was no a → BX w [.cells #[.int .i64 k, .string op, .int .i64 lk, .int .i64 ln, .float .f64 lf, .string ls, .string tn, .string nm, .bool ng, .slice xa q xc] 41, .cells #[.int .i64 0, .string ⟨#[]⟩, .int .i64 0, .int .i64 0, .float .f64 0, .string ⟨#[]⟩, .string ⟨#[]⟩, .string ⟨#[]⟩, .bool false, .slice none 0 0] 41] W → w.heap.size + 2 ≤ W.heap.size → (caC 3).wp Tryz.prog (bodyPost Tryz.prog Tryz.f13 (CalO (n + 1) w was no x0)) a W) : Calls Tryz.prog 13 #[.agg #[.int .i64 k, .string op, .int .i64 lk, .int .i64 ln, .float .f64 lf, .string ls, .string tn, .string nm, .bool ng, .slice xa q xc], .string was, .string no] w (CalO (n + 1) w was no x0) := by
  have HS := Lib.hid HSEG
  have HB := Lib.hid (BX.two w (.cells #[.int .i64 k, .string op, .int .i64 lk, .int .i64 ln, .float .f64 lf, .string ls, .string tn, .string nm, .bool ng, .slice xa q xc] 41) (.cells #[.int .i64 0, .string ⟨#[]⟩, .int .i64 0, .int .i64 0, .float .f64 0, .string ⟨#[]⟩, .string ⟨#[]⟩, .string ⟨#[]⟩, .bool false, .slice none 0 0] 41))
  clear HSEG

  go_enter Tryz.func13, Tryz.ntmps13
  refine wp_seq_k fun K0 hK0 => ?_
  have HK0 := Lib.hid hK0
  clear hK0
  go_wp2_with fail
  refine HK0.out _ _ ?_
  refine wp_seq_k fun K1 hK1 => ?_
  have HK1 := Lib.hid hK1
  clear hK1
  go_wp2_with fail
  refine HK1.out _ _ ?_
  refine wp_seq_k fun K2 hK2 => ?_
  have HK2 := Lib.hid (show ∀ a w', (caC 3).wp Tryz.prog (bodyPost Tryz.prog Tryz.f13 (CalO (n + 1) w was no x0)) a w' → K2 a w' from hK2)
  clear hK2
  go_wp2_with fail
  all_goals (refine HK2.out _ _ (HS.out _ _ ⟨?_, ?_, ?_, ?_, ?_, ?_⟩ HB.out (by simp only [World.size_alloc]; omega)) <;> rfl)
set_option maxRecDepth 100000 in
set_option maxHeartbeats 16000000 in
theorem cal_b1 (n : Nat) (w : World) (no : ByteArray) (x0 : Ex) (op : ByteArray) (lk ln : Int) (lf : Nat) (ls _tn nm : ByteArray) (ng : Bool) (xa : Option Addr) (q xc : Nat) (hno : no ≠ ⟨#[]⟩)
    (HSEG : ∀ a W, S13 w ⟨#[]⟩ no a → BX w [.cells #[.int .i64 2, .string op, .int .i64 lk, .int .i64 ln, .float .f64 lf, .string ls, .string (⟨#[]⟩ : ByteArray), .string nm, .bool ng, .slice xa q xc] 41, .cells #[.int .i64 0, .string ⟨#[]⟩, .int .i64 0, .int .i64 0, .float .f64 0, .string ⟨#[]⟩, .string ⟨#[]⟩, .string ⟨#[]⟩, .bool false, .slice none 0 0] 41] W → w.heap.size + 2 ≤ W.heap.size → (caC 3).wp Tryz.prog (bodyPost Tryz.prog Tryz.f13 (CalO (n + 1) w ⟨#[]⟩ no x0)) a W) : Calls Tryz.prog 13 #[.agg #[.int .i64 2, .string op, .int .i64 lk, .int .i64 ln, .float .f64 lf, .string ls, .string ⟨#[]⟩, .string nm, .bool ng, .slice xa q xc], .string ⟨#[]⟩, .string no] w (CalO (n + 1) w ⟨#[]⟩ no x0) := by
  have HS := Lib.hid HSEG
  have HB := Lib.hid (BX.two w (.cells #[.int .i64 2, .string op, .int .i64 lk, .int .i64 ln, .float .f64 lf, .string ls, .string (⟨#[]⟩ : ByteArray), .string nm, .bool ng, .slice xa q xc] 41) (.cells #[.int .i64 0, .string ⟨#[]⟩, .int .i64 0, .int .i64 0, .float .f64 0, .string ⟨#[]⟩, .string ⟨#[]⟩, .string ⟨#[]⟩, .bool false, .slice none 0 0] 41))
  clear HSEG
  have g0 := str_nil hno
  have g1 := str_ne hno
  go_enter Tryz.func13, Tryz.ntmps13
  refine wp_seq_k fun K0 hK0 => ?_
  have HK0 := Lib.hid hK0
  clear hK0
  go_wp2_with fail
  refine HK0.out _ _ ?_
  refine wp_seq_k fun K1 hK1 => ?_
  have HK1 := Lib.hid hK1
  clear hK1
  go_wp2_with fail
  refine HK1.out _ _ ?_
  refine wp_seq_k fun K2 hK2 => ?_
  have HK2 := Lib.hid (show ∀ a w', (caC 3).wp Tryz.prog (bodyPost Tryz.prog Tryz.f13 (CalO (n + 1) w ⟨#[]⟩ no x0)) a w' → K2 a w' from hK2)
  clear hK2
  go_wp2_with fail
  all_goals (refine HK2.out _ _ (HS.out _ _ ⟨?_, ?_, ?_, ?_, ?_, ?_⟩ HB.out (by simp only [World.size_alloc]; omega)) <;> rfl)
set_option maxRecDepth 100000 in
set_option maxHeartbeats 16000000 in
theorem cal_b2 (n : Nat) (w : World) (was no : ByteArray) (x0 : Ex) (op : ByteArray) (lk ln : Int) (lf : Nat) (ls _tn nm : ByteArray) (ng : Bool) (xa : Option Addr) (q xc : Nat) (hw : was ≠ ⟨#[]⟩)
    (HSEG : ∀ a W, S13 w was no a → BX w [.cells #[.int .i64 2, .string op, .int .i64 lk, .int .i64 ln, .float .f64 lf, .string ls, .string no, .string nm, .bool ng, .slice xa q xc] 41, .cells #[.int .i64 0, .string ⟨#[]⟩, .int .i64 0, .int .i64 0, .float .f64 0, .string ⟨#[]⟩, .string ⟨#[]⟩, .string ⟨#[]⟩, .bool false, .slice none 0 0] 41] W → w.heap.size + 2 ≤ W.heap.size → (caC 3).wp Tryz.prog (bodyPost Tryz.prog Tryz.f13 (CalO (n + 1) w was no x0)) a W) : Calls Tryz.prog 13 #[.agg #[.int .i64 2, .string op, .int .i64 lk, .int .i64 ln, .float .f64 lf, .string ls, .string was, .string nm, .bool ng, .slice xa q xc], .string was, .string no] w (CalO (n + 1) w was no x0) := by
  have HS := Lib.hid HSEG
  have HB := Lib.hid (BX.two w (.cells #[.int .i64 2, .string op, .int .i64 lk, .int .i64 ln, .float .f64 lf, .string ls, .string no, .string nm, .bool ng, .slice xa q xc] 41) (.cells #[.int .i64 0, .string ⟨#[]⟩, .int .i64 0, .int .i64 0, .float .f64 0, .string ⟨#[]⟩, .string ⟨#[]⟩, .string ⟨#[]⟩, .bool false, .slice none 0 0] 41))
  clear HSEG
  have g0 := str_nil hw
  have g1 := str_ne hw
  go_enter Tryz.func13, Tryz.ntmps13
  refine wp_seq_k fun K0 hK0 => ?_
  have HK0 := Lib.hid hK0
  clear hK0
  go_wp2_with fail
  refine HK0.out _ _ ?_
  refine wp_seq_k fun K1 hK1 => ?_
  have HK1 := Lib.hid hK1
  clear hK1
  go_wp2_with fail
  refine HK1.out _ _ ?_
  refine wp_seq_k fun K2 hK2 => ?_
  have HK2 := Lib.hid (show ∀ a w', (caC 3).wp Tryz.prog (bodyPost Tryz.prog Tryz.f13 (CalO (n + 1) w was no x0)) a w' → K2 a w' from hK2)
  clear hK2
  go_wp2_with fail
  all_goals (refine HK2.out _ _ (HS.out _ _ ⟨?_, ?_, ?_, ?_, ?_, ?_⟩ HB.out (by simp only [World.size_alloc]; omega)) <;> rfl)
set_option maxRecDepth 100000 in
set_option maxHeartbeats 16000000 in
theorem cal_b3 (n : Nat) (w : World) (was no : ByteArray) (x0 : Ex) (op : ByteArray) (lk ln : Int) (lf : Nat) (ls _tn nm : ByteArray) (ng : Bool) (xa : Option Addr) (q xc : Nat) (h1 : no ≠ was) (h2 : (⟨#[63]⟩ : ByteArray) ≠ no)
    (HSEG : ∀ a W, S13 w was no a → BX w [.cells #[.int .i64 2, .string op, .int .i64 lk, .int .i64 ln, .float .f64 lf, .string ls, .string (⟨#[63]⟩ : ByteArray), .string nm, .bool ng, .slice xa q xc] 41, .cells #[.int .i64 0, .string ⟨#[]⟩, .int .i64 0, .int .i64 0, .float .f64 0, .string ⟨#[]⟩, .string ⟨#[]⟩, .string ⟨#[]⟩, .bool false, .slice none 0 0] 41] W → w.heap.size + 2 ≤ W.heap.size → (caC 3).wp Tryz.prog (bodyPost Tryz.prog Tryz.f13 (CalO (n + 1) w was no x0)) a W) : Calls Tryz.prog 13 #[.agg #[.int .i64 2, .string op, .int .i64 lk, .int .i64 ln, .float .f64 lf, .string ls, .string no, .string nm, .bool ng, .slice xa q xc], .string was, .string no] w (CalO (n + 1) w was no x0) := by
  have HS := Lib.hid HSEG
  have HB := Lib.hid (BX.two w (.cells #[.int .i64 2, .string op, .int .i64 lk, .int .i64 ln, .float .f64 lf, .string ls, .string (⟨#[63]⟩ : ByteArray), .string nm, .bool ng, .slice xa q xc] 41) (.cells #[.int .i64 0, .string ⟨#[]⟩, .int .i64 0, .int .i64 0, .float .f64 0, .string ⟨#[]⟩, .string ⟨#[]⟩, .string ⟨#[]⟩, .bool false, .slice none 0 0] 41))
  clear HSEG
  have g1 := str_ne h1
  have g2 := str_neP h1
  have g3 := str_ne h2
  have g4 := str_neP h2
  have g5 : (([63] : List UInt8) == no.toList) = false := by rw [show ([63] : List UInt8) = (⟨#[63]⟩ : ByteArray).toList from by kernel_rfl]; exact g3
  have g6 : (([63] : List UInt8) = no.toList) = False := eq_false (beq_eq_false_iff_ne.1 g5)
  go_enter Tryz.func13, Tryz.ntmps13
  refine wp_seq_k fun K0 hK0 => ?_
  have HK0 := Lib.hid hK0
  clear hK0
  go_wp2_with fail
  refine HK0.out _ _ ?_
  refine wp_seq_k fun K1 hK1 => ?_
  have HK1 := Lib.hid hK1
  clear hK1
  go_wp2_with fail
  refine HK1.out _ _ ?_
  refine wp_seq_k fun K2 hK2 => ?_
  have HK2 := Lib.hid (show ∀ a w', (caC 3).wp Tryz.prog (bodyPost Tryz.prog Tryz.f13 (CalO (n + 1) w was no x0)) a w' → K2 a w' from hK2)
  clear hK2
  go_wp2_with fail
  all_goals (refine HK2.out _ _ (HS.out _ _ ⟨?_, ?_, ?_, ?_, ?_, ?_⟩ HB.out (by simp only [World.size_alloc]; omega)) <;> rfl)
set_option maxRecDepth 100000 in
set_option maxHeartbeats 16000000 in
theorem cal_b4 (n : Nat) (w : World) (was no : ByteArray) (x0 : Ex) (op : ByteArray) (lk ln : Int) (lf : Nat) (ls tn nm : ByteArray) (ng : Bool) (xa : Option Addr) (q xc : Nat) (h1 : tn ≠ was) (h2 : tn ≠ no)
    (HSEG : ∀ a W, S13 w was no a → BX w [.cells #[.int .i64 2, .string op, .int .i64 lk, .int .i64 ln, .float .f64 lf, .string ls, .string tn, .string nm, .bool ng, .slice xa q xc] 41, .cells #[.int .i64 0, .string ⟨#[]⟩, .int .i64 0, .int .i64 0, .float .f64 0, .string ⟨#[]⟩, .string ⟨#[]⟩, .string ⟨#[]⟩, .bool false, .slice none 0 0] 41] W → w.heap.size + 2 ≤ W.heap.size → (caC 3).wp Tryz.prog (bodyPost Tryz.prog Tryz.f13 (CalO (n + 1) w was no x0)) a W) : Calls Tryz.prog 13 #[.agg #[.int .i64 2, .string op, .int .i64 lk, .int .i64 ln, .float .f64 lf, .string ls, .string tn, .string nm, .bool ng, .slice xa q xc], .string was, .string no] w (CalO (n + 1) w was no x0) := by
  have HS := Lib.hid HSEG
  have HB := Lib.hid (BX.two w (.cells #[.int .i64 2, .string op, .int .i64 lk, .int .i64 ln, .float .f64 lf, .string ls, .string tn, .string nm, .bool ng, .slice xa q xc] 41) (.cells #[.int .i64 0, .string ⟨#[]⟩, .int .i64 0, .int .i64 0, .float .f64 0, .string ⟨#[]⟩, .string ⟨#[]⟩, .string ⟨#[]⟩, .bool false, .slice none 0 0] 41))
  clear HSEG
  have g1 := str_ne h1
  have g2 := str_neP h1
  have g3 := str_ne h2
  have g4 := str_neP h2
  go_enter Tryz.func13, Tryz.ntmps13
  refine wp_seq_k fun K0 hK0 => ?_
  have HK0 := Lib.hid hK0
  clear hK0
  go_wp2_with fail
  refine HK0.out _ _ ?_
  refine wp_seq_k fun K1 hK1 => ?_
  have HK1 := Lib.hid hK1
  clear hK1
  go_wp2_with fail
  refine HK1.out _ _ ?_
  refine wp_seq_k fun K2 hK2 => ?_
  have HK2 := Lib.hid (show ∀ a w', (caC 3).wp Tryz.prog (bodyPost Tryz.prog Tryz.f13 (CalO (n + 1) w was no x0)) a w' → K2 a w' from hK2)
  clear hK2
  go_wp2_with fail
  all_goals (refine HK2.out _ _ (HS.out _ _ ⟨?_, ?_, ?_, ?_, ?_, ?_⟩ HB.out (by simp only [World.size_alloc]; omega)) <;> rfl)
theorem turn_other {was no : ByteArray} {k : Int} (hk : k ≠ 2) (t : ByteArray) : turnT was no k t = t := by
  unfold turnT
  rw [if_neg (fun h => hk h.1), if_neg (fun h => hk h.1), if_neg (fun h => hk h.1)]
theorem called_any (was : ByteArray) (hw : was ≠ otherN) : ∀ (n : Nat) (x : Ex) (w : World), ExAt w n x → SmallX n x → Calls Tryz.prog 13 #[exV x, .string was, .string otherN] w (CalO n w was otherN x)
  | 0, _, _, h, _ => h.elim
  | n + 1, x, w, h, hm => by
    have HI : ∀ y ∈ x.args, ∀ W, Below w.heap.size w W → Calls Tryz.prog 13 #[exV y, .string was, .string otherN] W (CalO n W was otherN y) := fun y hy W hB => called_any was hw n y W ((h.2 y hy).keep hB) (hm.2 y hy)
    have e1 : (⟨#[63]⟩ : ByteArray) ≠ otherN := by decide
    have e4 : otherN ≠ (⟨#[]⟩ : ByteArray) := by decide
    have hX := h.1
    have hl := hm.1
    obtain ⟨x0, hx0⟩ : ∃ x0, x0 = x := ⟨_, rfl⟩
    have hseg : ∀ t1, t1 = turnT was otherN x.kind x.table → ∀ a W, S13 w was otherN a → BX w [.cells #[.int .i64 x.kind, .string x.op, .int .i64 x.lit.k, .int .i64 x.lit.n, .float .f64 x.lit.f, .string x.lit.s, .string t1, .string x.name, .bool x.neg, .slice x.A x.args.length x.c] 41, .cells #[.int .i64 0, .string ⟨#[]⟩, .int .i64 0, .int .i64 0, .float .f64 0, .string ⟨#[]⟩, .string ⟨#[]⟩, .string ⟨#[]⟩, .bool false, .slice none 0 0] 41] W → w.heap.size + 2 ≤ W.heap.size → (caC 3).wp Tryz.prog (bodyPost Tryz.prog Tryz.f13 (CalO (n + 1) w was otherN x)) a W := fun t1 ht a W hS hM hz => cal3 n w was otherN x x.kind x.op x.lit.k x.lit.n x.lit.f x.lit.s t1 x.name x.neg x.A x.args.length x.c rfl hl rfl ⟨rfl, rfl, rfl, rfl, rfl, ht⟩ hX HI a W hS hM hz
    clear hx0 x0
    by_cases hk : x.kind = 2
    · rw [hk] at hseg
      have hv : exV x = .agg #[.int .i64 2, .string x.op, .int .i64 x.lit.k, .int .i64 x.lit.n, .float .f64 x.lit.f, .string x.lit.s, .string x.table, .string x.name, .bool x.neg, .slice x.A x.args.length x.c] := by unfold exV; rw [hk]
      rw [hv]
      by_cases h1 : x.table = was
      · rw [h1]
        by_cases h2 : was = ⟨#[]⟩
        · subst h2
          exact cal_b1 n w otherN x x.op x.lit.k x.lit.n x.lit.f x.lit.s x.table x.name x.neg x.A x.args.length x.c e4 (hseg _ (by rw [h1]; unfold turnT; simp))
        · exact cal_b2 n w was otherN x x.op x.lit.k x.lit.n x.lit.f x.lit.s x.table x.name x.neg x.A x.args.length x.c h2 (hseg _ (by rw [h1]; unfold turnT; simp [h2]))
      · by_cases h2 : x.table = otherN
        · rw [h2]
          exact cal_b3 n w was otherN x x.op x.lit.k x.lit.n x.lit.f x.lit.s x.table x.name x.neg x.A x.args.length x.c (fun e => hw e.symm) e1 (hseg _ (by rw [h2]; unfold turnT; simp [Ne.symm hw, e1]))
        · exact cal_b4 n w was otherN x x.op x.lit.k x.lit.n x.lit.f x.lit.s x.table x.name x.neg x.A x.args.length x.c h1 h2 (hseg _ (by unfold turnT; simp [h1, h2]))
    · exact cal_a n w was otherN x x.kind x.op x.lit.k x.lit.n x.lit.f x.lit.s x.table x.name x.neg x.A x.args.length x.c (beq_eq_false_iff_ne.2 hk) (hseg _ (turn_other hk _).symm)
end Go.Proofs.YthdmfaepjemopaaGreatDoor
namespace Go.Proofs.YthdmfaepjemopaaGreatDoor
open Go.RowKit

def TurnO (n : Nat) (w : World) (was : ByteArray) (l : List Ex) (e : Ending) (w' : World) : Prop := Below w.heap.size w w' ∧ ∃ (B : Option Addr) (cB : Nat) (ys : List Ex), e = .returned (.slice B ys.length cB) ∧ CellsAt w' 10 B (ys.map exL) ∧ (∀ a, B = some a → w.heap.size ≤ a.block) ∧ (∀ y ∈ ys, ExIn (fun b => w.heap.size ≤ b) w' n y) ∧ Pair (CallsX was otherN n) l ys
set_option maxRecDepth 100000 in
set_option maxHeartbeats 16000000 in
theorem turn_any (n : Nat) (A : Option Addr) (c : Nat) (l : List Ex) (was _tn : ByteArray) (hw : was ≠ otherN) (xb fb fo fc : Nat) (w : World) (hX : ExsAt w n A l) (hl : l.length ≤ 30) (hm : ∀ x ∈ l, SmallX n x) (h7 : w.cell? ⟨xb, 7, none⟩ = some (.slice (some ⟨fb, fo, none⟩) 1 fc)) (hf : w.cell? ⟨fb, fo + 1, none⟩ = some (.string was)) :
    Calls Tryz.prog 12 #[.slice A l.length c, .pointer (some ⟨xb, 0, none⟩)] w (TurnO n w was l) := by
  have HX := Lib.hid hX.1
  have HC := Lib.hid (show ∀ y ∈ l, ∀ W, Below w.heap.size w W → Calls Tryz.prog 13 #[exV y, .string was, .string otherN] W (CalO n W was otherN y) from fun y hy W hB => called_any was hw n y W ((hX.2 y hy).keep hB) (hm y hy))
  have hxb := World.block_lt_of_cell? w _ h7
  have hfb := World.block_lt_of_cell? w _ hf
  obtain ⟨q, hq⟩ : ∃ q, q = l.length := ⟨_, rfl⟩
  have HQ := Lib.hid hq
  rw [← hq] at hl ⊢
  clear hX hm hq
  have H7 := Lib.hid h7
  have HF := Lib.hid hf
  have sf := store_float
  have HST := Lib.hid (show CR (fun b => w.heap.size ≤ b) n w [] w.heap.size (.slice none 0 0) [] w from ⟨BX.nil w, World.ownsRow_nil _ _ _ _, fun y hy => by cases hy⟩)
  clear h7 hf
  unfold otherN at HC
  go_enter Tryz.func12, Tryz.ntmps12
  go_wp2_with fail
  go_loopw [4, 9] (fun v i wr => ∃ (j : Nat) (ys : List Ex), j ≤ q ∧ i = .int .i64 j ∧ ys.length = j ∧ Hid (Pair (CallsX was otherN n) (l.take j) ys) ∧ Hid (CR (fun b => w.heap.size ≤ b) n w [] w.heap.size v ys wr)) (fun _ i _ => q - (intOf i).toNat)
  case atStart => exact ⟨0, [], Nat.zero_le _, rfl, rfl, Lib.hid ⟨rfl, fun i a b h => by cases h⟩, HST⟩
  case round =>
    clear HST
    obtain ⟨j, ys, hj, rfl, hyl, HP, HA⟩ := hrel
    obtain ⟨wo, rfl⟩ : ∃ wo : World, wo = wr := ⟨_, rfl⟩
    have HYL := Lib.hid hyl
    clear hyl
    by_cases hjq : j < q
    · have hjn : ((j : Int) < (q : Int)) = True := eq_true (by omega)
      obtain ⟨x, hx⟩ : ∃ y, l[j]? = some y := ⟨_, List.getElem?_eq_getElem (by have := HQ.out; omega)⟩
      have HJ := Lib.hid hx
      obtain ⟨eb, eo, rfl, heb, hyc⟩ := ex_at HX.out hx
      have t0 : wo.cell? ⟨eb, eo + j * 10, none⟩ = some (.int .i64 x.kind) := cell_kept (hyc 0 _ rfl) HA.out.bx.below
      have t1 := cell_kept (hyc 1 _ rfl) HA.out.bx.below
      have t2 := cell_kept (hyc 2 _ rfl) HA.out.bx.below
      have t3 := cell_kept (hyc 3 _ rfl) HA.out.bx.below
      have t4 := cell_kept (hyc 4 _ rfl) HA.out.bx.below
      have t5 := cell_kept (hyc 5 _ rfl) HA.out.bx.below
      have t6 := cell_kept (hyc 6 _ rfl) HA.out.bx.below
      have t7 := cell_kept (hyc 7 _ rfl) HA.out.bx.below
      have t8 := cell_kept (hyc 8 _ rfl) HA.out.bx.below
      have t9 := cell_kept (hyc 9 _ rfl) HA.out.bx.below
      have HCX := Lib.hid (HC.out x (List.mem_of_getElem? hx))
      clear hyc hx
      go_wp2_with fail
      clear t0 t1 t2 t3 t4 t5 t6 t7 t8 t9
      have HBX := Lib.hid (heap_alloc_new wo (.cells #[.int .i64 x.kind, .string x.op, .int .i64 x.lit.k, .int .i64 x.lit.n, .float .f64 x.lit.f, .string x.lit.s, .string x.table, .string x.name, .bool x.neg, .slice x.A x.args.length x.c] 41))
      have HBW := Lib.hid (below1 wo (.cells #[.int .i64 x.kind, .string x.op, .int .i64 x.lit.k, .int .i64 x.lit.n, .float .f64 x.lit.f, .string x.lit.s, .string x.table, .string x.name, .bool x.neg, .slice x.A x.args.length x.c] 41))
      obtain ⟨zb, hzb⟩ : ∃ b, b = wo.heap.size := ⟨_, rfl⟩
      rw [← hzb] at HBX ⊢
      clear hzb
      generalize wo.alloc (.cells #[.int .i64 x.kind, .string x.op, .int .i64 x.lit.k, .int .i64 x.lit.n, .float .f64 x.lit.f, .string x.lit.s, .string x.table, .string x.name, .bool x.neg, .slice x.A x.args.length x.c] 41) = w3 at HBX HBW ⊢
      have HAB := Lib.hid HA.out.bx.below
      have HD3 := Lib.hid (show Below wo.heap.size wo w3.drew from HBW.out.drew)
      have HCL := Lib.hid (HCX.out w3.drew (HAB.out.trans (HD3.out.mono HAB.out.size)))
      have hw3 : Below w.heap.size w w3 := HAB.out.trans (HBW.out.mono HAB.out.size)
      have s7 := cell_kept H7.out hw3
      have s1 := cell_kept HF.out hw3
      have HW3 := Lib.hid hw3
      clear hw3 HCX
      obtain ⟨x0, x1, x2, x3, x4, x5, x6, x7, x8, x9⟩ := row10 HBX.out
      go_region_law (first
        | (go_simp; go_at_call 13; (with_reducible refine HCL.out.mono ?_); rintro e w5 ⟨hB5, z, rfl, hN5, hC5⟩
           have HB5 := fun O => Lib.hid (show Below wo.heap.size wo (w5.alloc O) from (HD3.out.trans (hB5.mono HD3.out.size)).alloc (Nat.le_trans HD3.out.size hB5.size) O)
           have HN5 := fun O => Lib.hid (show ExIn (fun b => wo.heap.size ≤ b ∧ w.heap.size ≤ b) (w5.alloc O) n z from (hN5.keep (below1 w5 O)).mono fun b h1 _ => ⟨Nat.le_trans HD3.out.size h1, Nat.le_trans HAB.out.size (Nat.le_trans HD3.out.size h1)⟩)
           have HZ5 := Lib.hid (show w.heap.size ≤ w5.heap.size from Nat.le_trans HAB.out.size (Nat.le_trans HD3.out.size hB5.size))
           have HP5 := Lib.hid (pair_snoc HP.out HJ.out hC5)
           clear hB5 hN5 hC5)
        | (refine step_one 29 41 10 128 exprZ Tryz.underlying29 info41 rfl (by omega) (by omega) _ (by rfl) (.tmp 13) (.tmp 21) (by rfl) w.heap.size u4 ys.length (ys.map exL).flatten (by rfl) (HA.out.keep (HB5 _).out).own _ 1 (exL z) (by rfl) (by rfl) (by rfl) (heap_alloc_new w5 _) (by have := HYL.out; omega) (by have := HZ5.out; simp; omega) ?_
           intro v8 w8 hown hgr hv8
           have HM := Lib.hid (HA.out.more rfl HAB.out.size (HB5 _).out (HN5 _).out hown hgr (by first | exact hv8 | simpa using hv8))
           clear hown hgr hv8)
        | fail)
      all_goals
        go_wp2_with fail
        go_roundw
        case rel => exact ⟨j + 1, ys ++ [z], by omega, by go_num, by rw [List.length_append, HYL.out]; rfl, HP5, HM⟩
        case measure => simp [intOf] <;> omega
    · obtain rfl : j = q := by omega
      have hjn : ((j : Int) < (j : Int)) = False := eq_false (by omega)
      have HPF := HP.out
      rw [List.take_of_length_le (by have := HQ.out; omega)] at HPF
      obtain ⟨B, cB, hv, _, hCC, hbl, _⟩ := own_cells HA.out.own (fun x hx => by obtain ⟨y, _, rfl⟩ := List.mem_map.1 hx; rfl) (by rw [List.length_map])
      subst hv
      go_wp2_with fail
      go_ret
      exact ⟨HA.out.bx.below, B, cB, ys, rfl, hCC, fun a ha => (hbl a ha).1, fun y hy => (HA.out.ins y hy).mono fun b hb _ => hb.1, HPF⟩
end Go.Proofs.YthdmfaepjemopaaGreatDoor
