/- Sizes: what size and few compute, and what they bound. The walks of size, few and small. The document's parser at the words of one text: WHERE and a condition. The document's parser at the words of one text: two tables. -/
import Derived.Test.YthdmfaepjemopaaGreatDoorQAY
import Derived.Test.YthdmfaepjemopaaGreatDoorQAK
import Derived.Test.YthdmfaepjemopaaGreatDoorQAX
namespace Go.Proofs.YthdmfaepjemopaaGreatDoor
open Go.RowKit

def sumR (g : Ex → Nat → Nat) (m : Nat) : Nat → List Ex → Nat
  | n, [] => n
  | n, y :: l => if m < n then n else sumR g m (n + g y (m - n)) l
def sizeR : Nat → Ex → Nat → Nat
  | 0, _, _ => 1
  | f + 1, x, m => sumR (sizeR f) m (1 + x.name.size + x.table.size + x.op.size) x.args
def StrX : Nat → Ex → Prop
  | 0, _ => True
  | f + 1, x => (x.name.size ≤ 2 ^ 47 ∧ x.table.size ≤ 2 ^ 47 ∧ x.op.size ≤ 2 ^ 47) ∧ ∀ a ∈ x.args, StrX f a
def cntX : Nat → Ex → Nat
  | 0, _ => 1
  | f + 1, x => 1 + (x.args.map (cntX f)).sum
theorem sum_cnt {g : Ex → Nat → Nat} {c : Ex → Nat} {m : Nat} : ∀ {l : List Ex} (n : Nat), (∀ y ∈ l, ∀ k, g y k ≤ k → c y ≤ g y k) → sumR g m n l ≤ m → n + (l.map c).sum ≤ sumR g m n l
  | [], n, _, _ => by simp [sumR]
  | y :: l, n, hg, h => by
    unfold sumR at h ⊢
    by_cases hn : m < n
    · rw [if_pos hn] at h; omega
    · rw [if_neg hn] at h ⊢
      have ih := sum_cnt (n + g y (m - n)) (fun z hz => hg z (by simp [hz])) h
      have := hg y (by simp) (m - n) (by omega)
      rw [List.map_cons, List.sum_cons]
      omega
theorem size_cnt : ∀ (f : Nat) (x : Ex) (m : Nat), sizeR f x m ≤ m → cntX f x ≤ sizeR f x m
  | 0, _, _, _ => by unfold cntX sizeR; omega
  | f + 1, x, m, h => by
    unfold sizeR at h ⊢
    have := sum_cnt (c := cntX f) _ (fun y _ k hk => size_cnt f y k hk) h
    unfold cntX
    omega
theorem sum_le {g : Ex → Nat → Nat} {m K : Nat} : ∀ {l : List Ex} (n : Nat), (∀ y ∈ l, ∀ k, g y k ≤ k + K) → n ≤ m + K → sumR g m n l ≤ m + K
  | [], n, _, h => h
  | y :: l, n, hg, h => by
    unfold sumR
    by_cases hn : m < n
    · rw [if_pos hn]; exact h
    · rw [if_neg hn]
      have := hg y (by simp) (m - n)
      exact sum_le _ (fun z hz => hg z (by simp [hz])) (by omega)
theorem size_le : ∀ {f : Nat} {x : Ex} (m : Nat), StrX f x → sizeR f x m ≤ m + (1 + 3 * 2 ^ 47)
  | 0, _, m, _ => by unfold sizeR; omega
  | f + 1, x, m, h => by
    unfold sizeR
    have := h.1
    exact sum_le _ (fun y hy k => size_le k (h.2 y hy)) (by omega)
theorem cnt_pos (f : Nat) (x : Ex) : 0 < cntX f x := by cases f <;> unfold cntX <;> omega
theorem len_sum {c : Ex → Nat} (hc : ∀ x, 0 < c x) : ∀ l : List Ex, l.length ≤ (l.map c).sum
  | [] => by simp
  | y :: l => by have := len_sum hc l; have := hc y; rw [List.map_cons, List.sum_cons, List.length_cons]; omega
theorem mem_sum {c : Ex → Nat} : ∀ {l : List Ex} {y : Ex}, y ∈ l → c y ≤ (l.map c).sum
  | z :: l, y, h => by
    rw [List.map_cons, List.sum_cons]
    rcases List.mem_cons.1 h with rfl | h
    · omega
    · have := mem_sum (c := c) h; omega
theorem small_cnt : ∀ {f : Nat} {x : Ex}, cntX f x ≤ 400 → SmallX f x
  | 0, _, _ => trivial
  | f + 1, x, h => by
    unfold cntX at h
    have := len_sum (cnt_pos f) x.args
    exact ⟨by omega, fun a ha => small_cnt (by have := mem_sum (c := cntX f) ha; omega)⟩
theorem bind_mem {f : Ex → Except Int Nd} : ∀ {l : List Ex} {ps : List Nd}, bindArgs f l = .ok ps → ∀ q ∈ ps, ∃ y ∈ l, f y = .ok q
  | [], ps, h, q, hq => by unfold bindArgs at h; cases h; cases hq
  | x :: l, ps, h, q, hq => by
    unfold bindArgs at h
    cases hx : f x with
    | error e => rw [hx] at h; cases h
    | ok p =>
      rw [hx] at h
      dsimp only at h
      cases hl : bindArgs f l with
      | error e => rw [hl] at h; cases h
      | ok qs =>
        rw [hl] at h
        cases h
        rcases List.mem_cons.1 hq with rfl | hq
        · exact ⟨x, by simp, hx⟩
        · obtain ⟨y, hy, h1⟩ := bind_mem hl q hq
          exact ⟨y, by simp [hy], h1⟩
theorem bindR_inv {n : Nat} {rows : List Row} {fo : Bool} {x : Ex} {p : Nd} (h : bindR (n + 1) rows fo x = .ok p) : ¬ (foldK x.kind = true ∧ fo = false) ∧ ((x.kind = 2 ∧ colR rows x = .ok p) ∨ (x.kind = 1 ∧ p = .mk 1 ⟨#[]⟩ x.lit 0 false (clK x.lit.k) []) ∨ (∃ m ps t, x.kind ≠ 2 ∧ x.kind ≠ 1 ∧ arity x.kind = some m ∧ x.args.length = m ∧ bindArgs (bindR n rows (fo && !foldK x.kind)) x.args = .ok ps ∧ typeR x.kind (ps.map Nd.ty) = .ok t ∧ p = .mk x.kind (if x.kind = 7 ∨ x.kind = 8 then x.op else ⟨#[]⟩) zeroV 0 (if x.kind = 9 then x.neg else false) t ps)) := by
  unfold bindR at h
  by_cases h1 : foldK x.kind = true ∧ fo = false
  · rw [if_pos h1] at h; cases h
  · rw [if_neg h1] at h
    refine ⟨h1, ?_⟩
    cases ha : arity x.kind with
    | none => rw [ha] at h; cases h
    | some m =>
      rw [ha] at h
      dsimp only at h
      by_cases h2 : opOk x.kind x.op = false
      · rw [if_pos h2] at h; cases h
      · rw [if_neg h2] at h
        by_cases h3 : x.kind = 2
        · rw [if_pos h3] at h
          exact Or.inl ⟨h3, h⟩
        · rw [if_neg h3] at h
          by_cases h4 : x.kind = 1
          · rw [if_pos h4] at h
            cases h
            exact Or.inr (Or.inl ⟨h4, rfl⟩)
          · rw [if_neg h4] at h
            by_cases h5 : x.args.length ≠ m
            · rw [if_pos h5] at h; cases h
            · rw [if_neg h5] at h
              cases hb : bindArgs (bindR n rows (fo && !foldK x.kind)) x.args with
              | error e => rw [hb] at h; cases h
              | ok ps =>
                rw [hb] at h
                dsimp only at h
                cases ht : typeR x.kind (ps.map Nd.ty) with
                | error e => rw [ht] at h; cases h
                | ok t =>
                  rw [ht] at h
                  cases h
                  exact Or.inr (Or.inr ⟨m, ps, t, h3, h4, rfl, Classical.byContradiction h5, rfl, ht, rfl⟩)
end Go.Proofs.YthdmfaepjemopaaGreatDoor
namespace Go.Proofs.YthdmfaepjemopaaGreatDoor
open Go.RowKit

theorem sum_drop {g : Ex → Nat → Nat} {m s : Nat} {l : List Ex} {j : Nat} {y : Ex} (hy : l[j]? = some y) (hs : s ≤ m) : sumR g m s (l.drop j) = sumR g m (s + g y (m - s)) (l.drop (j + 1)) := by
  have hj := (List.getElem?_eq_some_iff.1 hy).1
  rw [List.drop_eq_getElem_cons hj, (List.getElem?_eq_some_iff.1 hy).2]
  conv => lhs; unfold sumR
  rw [if_neg (by omega)]
theorem sum_over {g : Ex → Nat → Nat} {m s : Nat} {l : List Ex} {j : Nat} {y : Ex} (hy : l[j]? = some y) (hs : m < s) : sumR g m s (l.drop j) = s := by
  have hj := (List.getElem?_eq_some_iff.1 hy).1
  rw [List.drop_eq_getElem_cons hj]
  unfold sumR
  rw [if_pos hs]
theorem sum_end {g : Ex → Nat → Nat} {m s : Nat} {l : List Ex} {j : Nat} (hj : l.length ≤ j) : sumR g m s (l.drop j) = s := by
  rw [List.drop_eq_nil_of_le hj]
  rfl
set_option maxRecDepth 100000 in
set_option maxHeartbeats 16000000 in
theorem size_step (n : Nat) (x : Ex) (m : Nat) (w : World) (hx : ExAt w (n + 1) x) (hs : StrX (n + 1) x) (hm : m ≤ 400)
    (HI : ∀ y ∈ x.args, ∀ (k : Nat) (W : World), k ≤ 400 → Below w.heap.size w W → Calls Tryz.prog 20 #[exV y, .int .i64 k] W (RetV (.int .i64 ((sizeR n y k : Nat) : Int)) W)) :
    Calls Tryz.prog 20 #[exV x, .int .i64 m] w (RetV (.int .i64 ((sizeR (n + 1) x m : Nat) : Int)) w) := by
  obtain ⟨R, hR⟩ : ∃ R, R = sizeR (n + 1) x m := ⟨_, rfl⟩
  rw [← hR]
  have HR : Hid (R = sumR (sizeR n) m (1 + x.name.size + x.table.size + x.op.size) x.args) := Lib.hid (by rw [hR]; rfl)
  have HB : Hid (∀ y ∈ x.args, ∀ k, sizeR n y k ≤ k + (1 + 3 * 2 ^ 47)) := Lib.hid fun y hy k => size_le k (hs.2 y hy)
  have HX := Lib.hid hx.1
  have HY := Lib.hid HI
  have hs1 := hs.1
  clear hR hx HI hs
  obtain ⟨k, op, ⟨lk, ln, lf, ls⟩, tn, nm, ng, xa, xc, xs⟩ := x
  unfold exV
  dsimp only [Ex.kind, Ex.op, Ex.lit, Ex.table, Ex.name, Ex.neg, Ex.A, Ex.c, Ex.args] at HR HB HX HY hs1 ⊢
  obtain ⟨hn, ht, ho⟩ := hs1
  have hn : nm.size ≤ 140737488355328 := hn
  have ht : tn.size ≤ 140737488355328 := ht
  have ho : op.size ≤ 140737488355328 := ho
  have HLN : Hid (xs.length ≤ maxLen) := Lib.hid (by have := HX.out.1; rwa [List.length_map] at this)
  obtain ⟨q, hq⟩ : ∃ q, q = xs.length := ⟨_, rfl⟩
  have HQ := Lib.hid hq
  rw [← hq] at HLN ⊢
  have hqm : q ≤ 9223372036854775807 := HLN.out
  clear hq
  have sf := store_float
  go_enter Tryz.func20, Tryz.ntmps20
  go_wp2_with fail
  go_loopw [5, 23] (fun v i wr => ∃ (j s : Nat), j ≤ q ∧ i = .int .i64 j ∧ v = .int .i64 s ∧ s ≤ 422212465065985 + 400 ∧ Hid (R = sumR (sizeR n) m s (xs.drop j)) ∧ Hid (Below w.heap.size w wr)) (fun _ i _ => q - (intOf i).toNat)
  case atStart => exact ⟨0, 1 + nm.size + tn.size + op.size, Nat.zero_le _, rfl, by push_cast; rfl, by omega, HR, Lib.hid (below1 w _)⟩
  case round =>
    obtain ⟨j, s, hj, rfl, rfl, hsb, HS, HBW⟩ := hrel
    obtain ⟨wo, rfl⟩ : ∃ wo : World, wo = wr := ⟨_, rfl⟩
    by_cases hjq : j < q
    · have hjn : ((j : Int) < (q : Int)) = True := eq_true (by omega)
      obtain ⟨y, hy⟩ : ∃ y, xs[j]? = some y := ⟨_, List.getElem?_eq_getElem (by have := HQ.out; omega)⟩
      have HJ := Lib.hid hy
      obtain ⟨eb, eo, rfl, heb, hyc⟩ := ex_at HX.out hy
      have t0 : wo.cell? ⟨eb, eo + j * 10, none⟩ = some (.int .i64 y.kind) := cell_kept (hyc 0 _ rfl) HBW.out
      have t1 := cell_kept (hyc 1 _ rfl) HBW.out
      have t2 := cell_kept (hyc 2 _ rfl) HBW.out
      have t3 := cell_kept (hyc 3 _ rfl) HBW.out
      have t4 := cell_kept (hyc 4 _ rfl) HBW.out
      have t5 := cell_kept (hyc 5 _ rfl) HBW.out
      have t6 := cell_kept (hyc 6 _ rfl) HBW.out
      have t7 := cell_kept (hyc 7 _ rfl) HBW.out
      have t8 := cell_kept (hyc 8 _ rfl) HBW.out
      have t9 := cell_kept (hyc 9 _ rfl) HBW.out
      clear hyc hy
      by_cases hms : m < s
      · have hg : ((m : Int) < (s : Int)) = True := eq_true (by omega)
        have hR2 : R = s := HS.out.trans (sum_over HJ.out hms)
        go_wp2_with fail
        go_ret
        exact ⟨by first | rfl | (rw [hR2]; rfl), HBW.out.trans ((below1 wo _).mono HBW.out.size)⟩
      · have hg : ((m : Int) < (s : Int)) = False := eq_false (by omega)
        have hsub : (m : Int) - (s : Int) = ((m - s : Nat) : Int) := by omega
        have HC := Lib.hid (show ∀ O, Calls Tryz.prog 20 #[exV y, .int .i64 ((m : Int) - (s : Int))] (wo.alloc O) (RetV (.int .i64 ((sizeR n y (m - s) : Nat) : Int)) (wo.alloc O)) from fun O => by
          rw [hsub]
          exact HY.out y (List.mem_of_getElem? HJ.out) _ _ (by omega) (HBW.out.trans ((below1 wo O).mono HBW.out.size)))
        have HN := Lib.hid (HS.out.trans (sum_drop HJ.out (by omega)))
        have hb : sizeR n y (m - s) ≤ (m - s) + 422212465065985 := HB.out y (List.mem_of_getElem? HJ.out) (m - s)
        obtain ⟨z, hz⟩ : ∃ z, z = sizeR n y (m - s) := ⟨_, rfl⟩
        rw [← hz] at HC HN hb
        clear hz hsub
        have HSZ := Lib.hid HBW.out.size
        go_wp2_with (first
          | (go_at_call 20; (with_reducible refine (HC.out _).mono ?_); rintro e w5 ⟨rfl, hB5⟩
             have HB5 := Lib.hid (HBW.out.trans (((below1 wo _).trans (hB5.mono (below1 wo _).size)).mono HSZ.out))
             clear hB5)
          | fail)
        go_roundw
        case rel => exact ⟨j + 1, s + z, by omega, by go_num, by push_cast; rfl, by omega, HN, HB5⟩
        case measure => simp [intOf] <;> omega
    · obtain rfl : j = q := by omega
      have hjn : ((j : Int) < (j : Int)) = False := eq_false (by omega)
      have hR2 : R = s := HS.out.trans (sum_end (by have := HQ.out; omega))
      go_wp2_with fail
      go_ret
      exact ⟨by first | rfl | (rw [hR2]; rfl), HBW.out⟩
theorem size_any : ∀ (n : Nat) (x : Ex) (m : Nat) (w : World), ExAt w n x → StrX n x → m ≤ 400 → Calls Tryz.prog 20 #[exV x, .int .i64 m] w (RetV (.int .i64 ((sizeR n x m : Nat) : Int)) w)
  | 0, _, _, _, h, _, _ => h.elim
  | n + 1, x, m, w, h, hs, hm => size_step n x m w h hs hm fun y hy k W hk hB => size_any n y k W ((h.2 y hy).keep hB) (hs.2 y hy) hk
def fewR (n : Nat) (l : List Ex) : Bool := decide (l.length ≤ 30) && l.all fun x => decide (sizeR n x 400 ≤ 400)
theorem few_iff {n : Nat} {l : List Ex} : fewR n l = true ↔ l.length ≤ 30 ∧ ∀ x ∈ l, sizeR n x 400 ≤ 400 := by
  unfold fewR
  simp [List.all_eq_true]
set_option maxRecDepth 100000 in
set_option maxHeartbeats 16000000 in
theorem few_any (n : Nat) (A : Option Addr) (c : Nat) (l : List Ex) (w : World) (hx : ExsAt w n A l) (hs : ∀ x ∈ l, StrX n x) : Calls Tryz.prog 8 #[.slice A l.length c] w (RetV (.bool (fewR n l)) w) := by
  obtain ⟨R, hR⟩ : ∃ R, R = fewR n l := ⟨_, rfl⟩
  rw [← hR]
  have HT : Hid (l.length ≤ 30 → (∀ x ∈ l, sizeR n x 400 ≤ 400) → R = true) := Lib.hid fun h1 h2 => by rw [hR]; exact few_iff.2 ⟨h1, h2⟩
  have HF : Hid (∀ (j : Nat) (x : Ex), l[j]? = some x → 400 < sizeR n x 400 → R = false) := Lib.hid fun j x hj h => by
    rw [hR, Bool.eq_false_iff]
    intro h2
    have := (few_iff.1 h2).2 x (List.mem_of_getElem? hj)
    omega
  have HL : Hid (30 < l.length → R = false) := Lib.hid fun h => by
    rw [hR, Bool.eq_false_iff]
    intro h2
    have := (few_iff.1 h2).1
    omega
  have HX := Lib.hid hx.1
  have HC := Lib.hid (show ∀ y ∈ l, ∀ W, Below w.heap.size w W → Calls Tryz.prog 20 #[exV y, .int .i64 400] W (RetV (.int .i64 ((sizeR n y 400 : Nat) : Int)) W) from fun y hy W hB => size_any n y 400 W ((hx.2 y hy).keep hB) (hs y hy) (Nat.le_refl _))
  clear hx hs hR
  obtain ⟨q, hq⟩ : ∃ q, q = l.length := ⟨_, rfl⟩
  have HQ := Lib.hid hq
  rw [← hq] at HL HT ⊢
  clear hq
  by_cases h30 : q ≤ 30
  · have hg : ((30 : Int) < (q : Int)) = False := eq_false (by omega)
    have sf := store_float
    go_enter Tryz.func8, Tryz.ntmps8
    go_wp2_with fail
    go_loopw [10] (fun i wr => ∃ (j : Nat), j ≤ q ∧ i = .int .i64 j ∧ Hid (∀ i y, i < j → l[i]? = some y → sizeR n y 400 ≤ 400) ∧ Hid (Below w.heap.size w wr)) (fun i _ => q - (intOf i).toNat)
    case atStart => exact ⟨0, Nat.zero_le _, rfl, Lib.hid fun i y h => absurd h (Nat.not_lt_zero _), Lib.hid (Below.refl _ _)⟩
    case round =>
      obtain ⟨j, hj, rfl, HS, HBW⟩ := hrel
      obtain ⟨wo, rfl⟩ : ∃ wo : World, wo = wr := ⟨_, rfl⟩
      by_cases hjq : j < q
      · have hjn : ((j : Int) < (q : Int)) = True := eq_true (by omega)
        obtain ⟨y, hy⟩ : ∃ y, l[j]? = some y := ⟨_, List.getElem?_eq_getElem (by have := HQ.out; omega)⟩
        have HJ := Lib.hid hy
        obtain ⟨eb, eo, rfl, heb, hyc⟩ := ex_at HX.out hy
        have t0 : wo.cell? ⟨eb, eo + j * 10, none⟩ = some (.int .i64 y.kind) := cell_kept (hyc 0 _ rfl) HBW.out
        have t1 := cell_kept (hyc 1 _ rfl) HBW.out
        have t2 := cell_kept (hyc 2 _ rfl) HBW.out
        have t3 := cell_kept (hyc 3 _ rfl) HBW.out
        have t4 := cell_kept (hyc 4 _ rfl) HBW.out
        have t5 := cell_kept (hyc 5 _ rfl) HBW.out
        have t6 := cell_kept (hyc 6 _ rfl) HBW.out
        have t7 := cell_kept (hyc 7 _ rfl) HBW.out
        have t8 := cell_kept (hyc 8 _ rfl) HBW.out
        have t9 := cell_kept (hyc 9 _ rfl) HBW.out
        clear hyc hy
        have HC1 := Lib.hid (show ∀ O, Calls Tryz.prog 20 #[exV y, .int .i64 400] (wo.alloc O) (RetV (.int .i64 ((sizeR n y 400 : Nat) : Int)) (wo.alloc O)) from fun O => HC.out y (List.mem_of_getElem? HJ.out) _ (HBW.out.trans ((below1 wo O).mono HBW.out.size)))
        have HSZ := Lib.hid HBW.out.size
        have HF1 := Lib.hid (HF.out j y HJ.out)
        have HN1 := Lib.hid (show sizeR n y 400 ≤ 400 → ∀ i z, i < j + 1 → l[i]? = some z → sizeR n z 400 ≤ 400 from fun h i z hi hz => by
          by_cases e : i = j
          · subst e
            have := HJ.out
            rw [hz] at this
            cases this
            exact h
          · exact HS.out i z (by omega) hz)
        obtain ⟨z, hz⟩ : ∃ z, z = sizeR n y 400 := ⟨_, rfl⟩
        rw [← hz] at HC1 HF1 HN1
        clear hz
        by_cases hz4 : 400 < z
        · have hg2 : ((400 : Int) < (z : Int)) = True := eq_true (by omega)
          have hR2 := HF1.out hz4
          go_wp2_with (first
            | (go_at_call 20; (with_reducible refine (HC1.out _).mono ?_); rintro e w5 ⟨rfl, hB5⟩)
            | fail)
          go_ret
          exact ⟨by first | rfl | (rw [hR2]; rfl), HBW.out.trans (((below1 wo _).trans (hB5.mono (below1 wo _).size)).mono HSZ.out)⟩
        · have hg2 : ((400 : Int) < (z : Int)) = False := eq_false (by omega)
          have HN := Lib.hid (HN1.out (by omega))
          go_wp2_with (first
            | (go_at_call 20; (with_reducible refine (HC1.out _).mono ?_); rintro e w5 ⟨rfl, hB5⟩
               have HB5 := Lib.hid (HBW.out.trans (((below1 wo _).trans (hB5.mono (below1 wo _).size)).mono HSZ.out))
               clear hB5)
            | fail)
          go_roundw
          case rel => exact ⟨j + 1, by omega, by go_num, HN, HB5⟩
          case measure => simp [intOf] <;> omega
      · obtain rfl : j = q := by omega
        have hjn : ((j : Int) < (j : Int)) = False := eq_false (by omega)
        have hR2 : R = true := HT.out h30 fun x hx => by
          obtain ⟨i, hi, rfl⟩ := List.mem_iff_getElem.1 hx
          exact HS.out i _ (by have := HQ.out; omega) (List.getElem?_eq_getElem hi)
        go_wp2_with fail
        go_ret
        exact ⟨by first | rfl | (rw [hR2]; rfl), HBW.out⟩
  · have hg : ((30 : Int) < (q : Int)) = True := eq_true (by omega)
    have hR2 := HL.out (by omega)
    go_enter Tryz.func8, Tryz.ntmps8
    go_wp2_with fail
    go_ret
    exact ⟨by first | rfl | (rw [hR2]; rfl), Below.refl _ _⟩
end Go.Proofs.YthdmfaepjemopaaGreatDoor
namespace Go.Proofs.YthdmfaepjemopaaGreatDoor
open Go.RowKit

def BQ (x : Ex) (w : World) (e : Ending) (w' : World) : Prop := e = .returned (.slice (some ⟨w.heap.size + 1, 0, none⟩) 1 1) ∧ Below w.heap.size w w' ∧ w'.heap.size = w.heap.size + 2 ∧ w'.heap[w.heap.size + 1]? = some (.cells (exR x) 41)
set_option maxHeartbeats 16000000 in
theorem both_at (x : Ex) (w : World) : Calls Tryz.prog 85 #[.slice none 0 0, exV x] w (BQ x w) := by
  have sf := store_float
  go_enter Tryz.func85, Tryz.ntmps85
  go_wp2_with fail
  refine bodyPost_ret (v := .slice (some ⟨w.heap.size + 1, 0, none⟩) 1 1) (by simp [results, Tryz.results85, go_sem]) rfl ⟨rfl, (BX.two w _ _).below, by simp, (BX.two w _ _).row 1 _ _ rfl⟩
def CW (w : World) (h b o c : Nat) (z : Int) (x : Ex) (N : Nat) (f3 : Bool) (W : World) : Prop :=
  BX w [.cells (pC b o c z) 99, .cells pZ 99] W ∧ W.heap[h]? = some (.cells (exR x) 41) ∧ XA (w.heap.size + 2) W x ∧ (f3 = false → W.heap.size = N) ∧ (f3 = true → W.heap[N + 1]? = some (.cells (exR x) 41)) ∧ w.heap.size + 2 ≤ N
theorem CW.keep {w : World} {h b o c : Nat} {z : Int} {x : Ex} {N : Nat} {W W' : World} (hC : CW w h b o c z x N false W) (hB : Below W.heap.size W W') (h1 : W'.heap[N + 1]? = some (.cells (exR x) 41)) : CW w h b o c z x N true W' :=
  ⟨hC.1.keep hB, (hB.block _ (heap_lt hC.2.1)).trans hC.2.1, hC.2.2.1.far ((Far.refl _ W).keep hB), fun h => (by cases h), fun _ => h1, hC.2.2.2.2.2⟩
set_option maxHeartbeats 32000000 in
theorem where_one (b o c i : Nat) (z : Int) (hz : z = i) (w : World) (hT : TksAt w b o) (hi : i < 15) (hn : nx i ⟨#[87, 72, 69, 82, 69]⟩ = true) (Φ : Ex → Prop) (zz : Int) (hC : ∀ W, Below w.heap.size w W → Calls Tryz.prog 84 #[pV b o c (z + 1), .int .i64 1, .int .i64 0] W (XP Φ b o c zz W)) : Calls Tryz.prog 59 #[pV b o c z, .slice none 0 0] w (LP Φ b o c zz w) := by
  have HN := Lib.hid (show ∀ W, Below w.heap.size w W → Calls Tryz.prog 53 #[pV b o c z, .string ⟨#[87, 72, 69, 82, 69]⟩] W (RetV (.bool true) W) from fun W hB => by have := next_any b o c i z hz ⟨#[87, 72, 69, 82, 69]⟩ W (hT.keep hB) hi; rwa [hn] at this)
  have HM := Lib.hid (show ∀ W, Below w.heap.size w W → Calls Tryz.prog 55 #[pV b o c z, .string ⟨#[87, 72, 69, 82, 69]⟩] W (RetV (pV b o c (z + 1)) W) from fun W hB => must_yes b o c i z hz _ W (hT.keep hB) hi hn)
  have HC := Lib.hid hC
  clear hT hn hC
  have hz0 : 0 ≤ z := by omega
  have hz15 : z < 15 := by omega
  clear hz hi
  have sf := store_float
  go_enter Tryz.func59, Tryz.ntmps59
  go_upto_region 4 with (first
    | (go_at_call 53; (with_reducible refine Calls.mono (HN.out _ (BX.two w _ _).below) ?_); rintro e w2 ⟨rfl, hB2⟩
       have HB2 := Lib.hid ((BX.two w _ _).keep hB2)
       clear hB2
       obtain ⟨la, ra0, ra1, ra2, ra3, fa0, fa1, fa2, fa3⟩ := HB2.out.p4 0 rfl
       simp only [Nat.add_zero] at la ra0 ra1 ra2 ra3 fa0 fa1 fa2 fa3
)
    | (go_at_call 55; (with_reducible refine Calls.mono (HM.out _ HB2.out.below) ?_); rintro e w3 ⟨rfl, hB3⟩
       have HB3 := Lib.hid (HB2.out.keep hB3)
       clear hB3 la ra0 ra1 ra2 ra3 fa0 fa1 fa2 fa3 HB2)
    | (go_at_call 84; (with_reducible refine Calls.mono (HC.out _ HB3.out.below) ?_); rintro e w4 ⟨x, rfl, hB4, hx, hP⟩
       have HB4 := Lib.hid (HB3.out.keep hB4)
       have HX4 := Lib.hid (hx.mono (m := w.heap.size + 2) (by have := HB3.out.size 1 (by simp); omega))
       have HP := Lib.hid hP
       clear hB4 hx hP HB3
       obtain ⟨lb, rb0, rb1, rb2, rb3, fb0, fb1, fb2, fb3⟩ := HB4.out.p4 0 rfl
       simp only [Nat.add_zero] at lb rb0 rb1 rb2 rb3 fb0 fb1 fb2 fb3
       have hz2 := HB4.out.size 1 (by simp))
    | fail)
  obtain ⟨h, hh⟩ : ∃ h, h = w4.heap.size := ⟨_, rfl⟩
  have K8 := heap_alloc_new ((((w4.setCell ⟨w.heap.size, 0, none⟩ (.slice (some ⟨b, o, none⟩) 15 c)).setCell ⟨w.heap.size, 1, none⟩ (.int .i64 zz)).setCell ⟨w.heap.size, 2, none⟩ (.int .i64 0)).setCell ⟨w.heap.size, 3, none⟩ (.int .i64 0)) (.cells (exR x) 41)
  simp only [World.size_setCell] at K8
  rw [← hh] at K8 ⊢
  have HX5 := HX4.out.far (((Far.refl (w.heap.size + 2) w4).set4 (b := w.heap.size) (by omega) (.slice (some ⟨b, o, none⟩) 15 c) (.int .i64 zz) (.int .i64 0) (.int .i64 0)).alloc (.cells (exR x) 41))
  have HB5 := (HB4.out.setP (k := 0) rfl b o c zz).alloc (.cells (exR x) 41)
  have hN5 : w.heap.size + 2 ≤ (((((w4.setCell ⟨w.heap.size, 0, none⟩ (.slice (some ⟨b, o, none⟩) 15 c)).setCell ⟨w.heap.size, 1, none⟩ (.int .i64 zz)).setCell ⟨w.heap.size, 2, none⟩ (.int .i64 0)).setCell ⟨w.heap.size, 3, none⟩ (.int .i64 0)).alloc (.cells (exR x) 41)).heap.size := by simp only [World.size_alloc, World.size_setCell]; omega
  generalize ((((w4.setCell ⟨w.heap.size, 0, none⟩ (.slice (some ⟨b, o, none⟩) 15 c)).setCell ⟨w.heap.size, 1, none⟩ (.int .i64 zz)).setCell ⟨w.heap.size, 2, none⟩ (.int .i64 0)).setCell ⟨w.heap.size, 3, none⟩ (.int .i64 0)).alloc (.cells (exR x) 41) = w5 at K8 HX5 HB5 hN5 ⊢
  obtain ⟨N, hN⟩ : ∃ N, N = w5.heap.size := ⟨_, rfl⟩
  have HC0 : CW w h b o c zz x N false w5.drew := ⟨HB5.drew, K8, HX5, fun _ => hN.symm, fun h => (by cases h), by omega⟩
  clear hN hN5 HB5 HX5 K8 hh hz2 HB4 HX4 lb rb0 rb1 rb2 rb3 fb0 fb1 fb2 fb3
  refine wp_region_fl (n0 := 4) (n := 22) (fun fl W => CW w h b o c zz x N (fl 3) W) (fun j => (([pV b o c zz, .slice none 0 0, exV x, .slice (some ⟨N + 1, 0, none⟩) 1 1] : List Value)[j]?).getD undef) (by kernel_rfl) (by kernel_rfl) (Nat.le_of_eq rfl) HC0 ?step ?dst ?fin
  case step =>
    intro i o2 hi ho fl a w1 hfl hsb hC hpv
    have : i = 0 ∨ i = 1 ∨ i = 2 ∨ i = 3 := by omega
    rcases this with rfl | rfl | rfl | rfl
    · obtain rfl := Option.some.inj (ho.symm.trans (List.getElem?_toArray.trans rfl))
      have s2 : a.tmps[2]?.getD undef = .pointer (some ⟨w.heap.size, 0, none⟩) := hsb.get 2 (by kernel_rfl) rfl
      obtain ⟨la, ra0, ra1, ra2, ra3, -⟩ := hC.1.p4 0 rfl
      simp only [Nat.add_zero] at la ra0 ra1 ra2 ra3
      go_simp
      all_goals first | exact ⟨rfl, hC⟩ | exact rfl
    · obtain rfl := Option.some.inj (ho.symm.trans (List.getElem?_toArray.trans rfl))
      have s1 : a.tmps[1]?.getD undef = .slice none 0 0 := hsb.get 1 (by kernel_rfl) rfl
      go_simp
      all_goals first | exact ⟨rfl, hC⟩ | exact rfl
    · obtain rfl := Option.some.inj (ho.symm.trans (List.getElem?_toArray.trans rfl))
      have s6 : a.tmps[6]?.getD undef = .pointer (some ⟨h, 0, none⟩) := hsb.get 6 (by kernel_rfl) rfl
      obtain ⟨t0, t1, t2, t3, t4, t5, t6, t7, t8, t9⟩ := row10 hC.2.1
      go_simp
      all_goals first | exact ⟨rfl, hC⟩ | exact rfl
    · obtain rfl := Option.some.inj (ho.symm.trans (List.getElem?_toArray.trans rfl))
      have d19 : a.tmps[19]?.getD undef = .slice none 0 0 := (leftAt_get 19 rfl).trans (hpv ⟨1, .data⟩ (by simp) rfl (by decide))
      have d20 : a.tmps[20]?.getD undef = exV x := (leftAt_get 20 rfl).trans (hpv ⟨2, .data⟩ (by simp) rfl (by decide))
      have hsz := hC.2.2.2.1 hfl
      have hC3 : CW w h b o c zz x N (fl 3) w1 := hC
      rw [hfl] at hC3
      have HB := both_at x w1
      unfold BQ at HB
      rw [hsz] at HB
      have HZ := Lib.hid hsz
      clear hsz hC
      go_simp
      go_at_call 85
      with_reducible refine Calls.mono HB ?_
      rintro e w2 ⟨rfl, hB, _, hblk⟩
      exact ⟨rfl, hC3.keep (by rw [HZ.out]; exact hB) hblk⟩
  case dst =>
    intro i o2 hi ho hd
    have : i = 0 ∨ i = 1 ∨ i = 2 ∨ i = 3 := by omega
    rcases this with rfl | rfl | rfl | rfl <;> (obtain rfl := Option.some.inj (ho.symm.trans (List.getElem?_toArray.trans rfl)); cases hd)
  case fin =>
    intro fl a w1 hsb hfl hC hpv
    have hC3 : CW w h b o c zz x N (fl 3) w1 := hC
    rw [hfl 3 (by omega)] at hC3
    have d18 : a.tmps[18]?.getD undef = pV b o c zz := (leftAt_get 18 rfl).trans (hpv 0 (by omega))
    have d21 : a.tmps[21]?.getD undef = .slice (some ⟨N + 1, 0, none⟩) 1 1 := (leftAt_get 21 rfl).trans (hpv 3 (by omega))
    have s4 : a.tmps[4]?.getD undef = .pointer (some ⟨w.heap.size + 1, 0, none⟩) := hsb.get 4 (by kernel_rfl) rfl
    have hdf : a.defers = [] := hsb.1
    have HSZ := Lib.hid (show a.tmps.size = 22 from hsb.2.1)
    obtain ⟨lb, rb0, rb1, rb2, rb3, fb0, fb1, fb2, fb3⟩ := hC3.1.p4 1 rfl
    have HF := hC3.1.setP (k := 1) rfl b o c zz
    have hN := hC3.2.2.2.2.2
    have hfar := (Far.refl (w.heap.size + 2) w1).set4 (b := w.heap.size + 1) (by omega) (.slice (some ⟨b, o, none⟩) 15 c) (.int .i64 zz) (.int .i64 0) (.int .i64 0)
    have hSX : SX (w.heap.size + 2) w1 (some ⟨N + 1, 0, none⟩) x := ⟨N + 1, 41, rfl, by omega, hC3.2.2.2.2.1 rfl, hC3.2.2.1⟩
    have HS2 := hSX.far hfar
    clear hpv hC hC3 hsb hSX hfar
    simp only [List.drop_succ_cons, List.drop_zero]
    refine wpList_plain rfl fun R1 hR1 => ?_
    go_simp
    refine hR1 _ _ ?_
    refine wpList_plain rfl fun R2 hR2 => ?_
    go_simp
    refine hR2 _ _ ?_
    change Exit.then _ _ Exit.normal _ _
    simp only [Exit.then]
    rename_i K hK
    exact hK _ _ (wp_ret (bodyPost_ret (res_ps (fn := Tryz.f59) rfl ((put_ne (a := a) (t := 5) (by decide)).trans s4) (put_same (a := a) (t := 5) (by rw [HSZ.out]; decide)) (HF.row 1 _ _ rfl)) rfl ⟨_, x, rfl, HF.below, HS2.mono (by omega), HP.out⟩))
end Go.Proofs.YthdmfaepjemopaaGreatDoor
namespace Go.Proofs.YthdmfaepjemopaaGreatDoor
open Go.RowKit

theorem info60 : (Tryz.prog.info? 60).map (fun i => (i.zero, i.size, i.bytes)) = some (some (.agg #[.string ⟨#[]⟩, .string ⟨#[]⟩]), 2, 32) := by kernel_rfl
structure CTb (w : World) (h b o c : Nat) (z : Int) (s : ByteArray) (v : Value) (n : Nat) (xs : List Value) (W : World) : Prop where
  bx : BX w [.cells (pC b o c z) 99, .cells pZ 99] W
  t : W.heap[h]? = some (.cells #[.string s, .string s] 60)
  own : W.ownsRow (w.heap.size + 2) 60 2 v n xs
  ne : v.ownBlock ≠ some h
  far : w.heap.size + 2 ≤ h
theorem CTb.keep {w : World} {h b o c : Nat} {z : Int} {s : ByteArray} {v : Value} {n : Nat} {xs : List Value} {W W' : World} (hc : CTb w h b o c z s v n xs W) (hB : Below W.heap.size W W') : CTb w h b o c z s v n xs W' :=
  ⟨hc.bx.keep hB, (hB.block _ (heap_lt hc.t)).trans hc.t, own_kept hc.own hB (Nat.le_refl _), hc.ne, hc.far⟩
theorem own_ne {W : World} {base e K n : Nat} {v : Value} {xs : List Value} (h : W.ownsRow base e K v n xs) {b i : Nat} (hb : v.ownBlock ≠ some b) (u : Value) : (W.setCell ⟨b, i, none⟩ u).ownsRow base e K v n xs :=
  ⟨h.1, h.2.imp id fun ⟨g, cap, cur, e1, e2, e3, e4⟩ => ⟨g, cap, cur, e1, e2, (heap_setFar u (fun e => hb (by rw [e1, ← e]; rfl))).trans e3, e4⟩⟩
theorem BX.grown {w W W' : World} {bs : List Obj} (h : BX w bs W) {r : Option Nat} (hg : W.grownBy W' r) (hr : ∀ b, r = some b → w.heap.size + bs.length ≤ b) : BX w bs W' := by
  refine ⟨h.1.grown hg h.1.size (fun b e => by have := hr b e; omega), fun k o hk => ?_⟩
  have hl := (List.getElem?_eq_some_iff.1 hk).1
  exact (hg.block _ (heap_lt (h.2 k o hk)) (fun e => by have := hr _ e.symm; omega)).trans (h.2 k o hk)
theorem CTb.put {w : World} {h b o c : Nat} {z z2 : Int} {s s2 : ByteArray} {v : Value} {n : Nat} {xs : List Value} {W : World} (hc : CTb w h b o c z s v n xs W) : CTb w h b o c z2 s2 v n xs ((((((W.setCell ⟨w.heap.size, 0, none⟩ (.slice (some ⟨b, o, none⟩) 15 c)).setCell ⟨w.heap.size, 1, none⟩ (.int .i64 z2)).setCell ⟨w.heap.size, 2, none⟩ (.int .i64 0)).setCell ⟨w.heap.size, 3, none⟩ (.int .i64 0)).setCell ⟨h, 0, none⟩ (.string s2)).setCell ⟨h, 1, none⟩ (.string s2)) := by
  have hf := hc.far
  have hv : v.ownBlock ≠ some w.heap.size := fun e => by have := (own_base hc.own _ e).1; omega
  have b1 := (((hc.bx.setP (k := 0) rfl b o c z2).out (b := h) (i := 0) (v := .string s2) hf).out (b := h) (i := 1) (v := .string s2) hf)
  have t0 := (heap_far4 (b := w.heap.size) (g := h) (by omega) (v0 := .slice (some ⟨b, o, none⟩) 15 c) (v1 := .int .i64 z2) (v2 := .int .i64 0) (v3 := .int .i64 0)).trans hc.t
  refine ⟨b1, ?_, own_ne (own_ne (own_ne (own_ne (own_ne (own_ne hc.own hv _) hv _) hv _) hv _) hc.ne _) hc.ne _, hc.ne, hf⟩
  have key : ∀ (V : World) (cs : Array Value) (i : Nat) (x : Value), V.heap[h]? = some (.cells cs 60) → (V.setCell ⟨h, i, none⟩ x).heap[h]? = some (.cells (cs.setIfInBounds i x) 60) := fun V cs i x hV => by
    rw [setCell_eq_setRow V _ i _ 60 _ _ hV]
    exact setRow_heap V _ _ _ 60 _ hV
  exact key _ _ 1 (.string s2) (key _ _ 0 (.string s2) t0)
theorem CTb.app {w : World} {h b o c : Nat} {z : Int} {s : ByteArray} {v v2 : Value} {n n2 : Nat} {xs xs2 : List Value} {W W2 : World} (hc : CTb w h b o c z s v n xs W) (hown : W2.ownsRow (w.heap.size + 2) 60 2 v2 n2 xs2) (hg : W.grownBy W2 v.ownBlock) (hv : v2.ownBlock = v.ownBlock ∨ v2.ownBlock = some W.heap.size) : CTb w h b o c z s v2 n2 xs2 W2 := by
  have hl := heap_lt hc.t
  refine ⟨hc.bx.grown hg (fun b e => (own_base hc.own b e).1), (hg.block _ hl (fun e => hc.ne e.symm)).trans hc.t, hown, fun e => ?_, hc.far⟩
  rcases hv with hv | hv
  · exact hc.ne (hv ▸ e)
  · rw [hv] at e
    have := Option.some.inj e
    omega
theorem res_pss {fn : Func} {i j k : Nat} (h : fn.results = #[.cell i 99, .tmp j, .tmp k]) {tm : Array Value} {W : World} {pb : Nat} {s t : Value} (hp : tm[i]?.getD undef = .pointer (some ⟨pb, 0, none⟩)) (he : tm[j]?.getD undef = s) (hf : tm[k]?.getD undef = t) {v0 v1 v2 v3 : Value} {ty : TypeId} (h1 : W.heap[pb]? = some (.cells #[v0, v1, v2, v3] ty)) :
    (results fn tm).run Tryz.prog W = .ok (.tuple #[.agg #[v0, v1, v2, v3], s, t]) W := by
  obtain ⟨a0, a1, a2, a3⟩ := row4 h1
  simp [results, h, go_sem, hp, he, hf, a0, a1, a2, a3]
def lenV : Value → Nat
  | .slice _ n _ => n
  | _ => 0
def wT : ByteArray := ⟨#[116]⟩
def wU : ByteArray := ⟨#[117]⟩
set_option maxHeartbeats 32000000 in
theorem tables_two (b o c : Nat) (w : World) (hT : TksAt w b o) : Calls Tryz.prog 80 #[pV b o c 3] w (fun e w' => ∃ (A : Option Addr) (k : Nat), e = .returned (.tuple #[pV b o c 6, .slice A 2 k, .slice none 0 0]) ∧ Below w.heap.size w w' ∧ w'.ownsRow w.heap.size 60 2 (.slice A 2 k) 2 [.string wT, .string wT, .string wU, .string wU]) := by
  have HF1 := Lib.hid (show ∀ W, Below w.heap.size w W → Calls Tryz.prog 94 #[pV b o c 3] W (RetV (.tuple #[pV b o c 4, .agg #[.string wT, .string wT]]) W) from fun W hB => from_yes b o c 3 3 rfl wT 14 W (hT.keep hB) rfl (by omega) (by decide +kernel))
  have HF2 := Lib.hid (show ∀ W, Below w.heap.size w W → Calls Tryz.prog 94 #[pV b o c 5] W (RetV (.tuple #[pV b o c 6, .agg #[.string wU, .string wU]]) W) from fun W hB => from_yes b o c 5 5 rfl wU 17 W (hT.keep hB) rfl (by omega) (by decide +kernel))
  have HN4 := Lib.hid (show ∀ W, Below w.heap.size w W → Calls Tryz.prog 53 #[pV b o c 4, .string ⟨#[44]⟩] W (RetV (.bool true) W) from fun W hB => by have := next_any b o c 4 4 rfl ⟨#[44]⟩ W (hT.keep hB) (by omega); rwa [show nx 4 ⟨#[44]⟩ = true by decide +kernel] at this)
  have HN6 := Lib.hid (show ∀ W, Below w.heap.size w W → Calls Tryz.prog 53 #[pV b o c 6, .string ⟨#[44]⟩] W (RetV (.bool false) W) from fun W hB => by have := next_any b o c 6 6 rfl ⟨#[44]⟩ W (hT.keep hB) (by omega); rwa [show nx 6 ⟨#[44]⟩ = false by decide +kernel] at this)
  have HJ6 := Lib.hid (show ∀ W, Below w.heap.size w W → Calls Tryz.prog 53 #[pV b o c 6, .string ⟨#[74, 79, 73, 78]⟩] W (RetV (.bool false) W) from fun W hB => by have := next_any b o c 6 6 rfl ⟨#[74, 79, 73, 78]⟩ W (hT.keep hB) (by omega); rwa [show nx 6 ⟨#[74, 79, 73, 78]⟩ = false by decide +kernel] at this)
  have HM4 := Lib.hid (show ∀ W, Below w.heap.size w W → Calls Tryz.prog 55 #[pV b o c 4, .string ⟨#[44]⟩] W (RetV (pV b o c 5) W) from fun W hB => must_yes b o c 4 4 rfl _ W (hT.keep hB) (by omega) (by decide +kernel))
  clear hT
  obtain ⟨sT, hsT⟩ : ∃ s, s = wT := ⟨_, rfl⟩
  obtain ⟨sU, hsU⟩ : ∃ s, s = wU := ⟨_, rfl⟩
  rw [← hsT] at HF1
  rw [← hsU] at HF2
  rw [← hsT, ← hsU]
  clear hsT hsU
  go_enter Tryz.func80, Tryz.ntmps80
  go_wp2_with (first
    | (go_at_call 94; (with_reducible refine Calls.mono (HF1.out _ (BX.two w _ _).below) ?_); rintro e w2 ⟨rfl, hB2⟩
       have HB2 := Lib.hid ((BX.two w _ _).keep hB2)
       clear hB2
       obtain ⟨la, ra0, ra1, ra2, ra3, fa0, fa1, fa2, fa3⟩ := HB2.out.p4 0 rfl
       simp only [Nat.add_zero] at la ra0 ra1 ra2 ra3 fa0 fa1 fa2 fa3
       have hz2 := HB2.out.size 1 (by simp))
    | fail)
  have HC := Lib.hid (show CTb w w2.heap.size b o c 4 sT (.slice (some ⟨w2.heap.size + 1, 0, none⟩) 1 1) 1 [.string sT, .string sT] ((((((w2.setCell ⟨w.heap.size, 0, none⟩ (.slice (some ⟨b, o, none⟩) 15 c)).setCell ⟨w.heap.size, 1, none⟩ (.int .i64 4)).setCell ⟨w.heap.size, 2, none⟩ (.int .i64 0)).setCell ⟨w.heap.size, 3, none⟩ (.int .i64 0)).alloc (.cells #[.string sT, .string sT] 60)).alloc (.cells #[.string sT, .string sT] 60)) from by
    have K1 := heap_alloc_new ((((w2.setCell ⟨w.heap.size, 0, none⟩ (.slice (some ⟨b, o, none⟩) 15 c)).setCell ⟨w.heap.size, 1, none⟩ (.int .i64 4)).setCell ⟨w.heap.size, 2, none⟩ (.int .i64 0)).setCell ⟨w.heap.size, 3, none⟩ (.int .i64 0)) (.cells #[.string sT, .string sT] 60)
    have K2 := heap_alloc_new (((((w2.setCell ⟨w.heap.size, 0, none⟩ (.slice (some ⟨b, o, none⟩) 15 c)).setCell ⟨w.heap.size, 1, none⟩ (.int .i64 4)).setCell ⟨w.heap.size, 2, none⟩ (.int .i64 0)).setCell ⟨w.heap.size, 3, none⟩ (.int .i64 0)).alloc (.cells #[.string sT, .string sT] 60)) (.cells #[.string sT, .string sT] 60)
    simp only [World.size_alloc, World.size_setCell] at K1 K2
    refine ⟨((HB2.out.setP (k := 0) rfl b o c 4).alloc _).alloc _, (heap_alloc_old _ _ (by simp)).trans K1, ⟨rfl, Or.inr ⟨w2.heap.size + 1, 1, _, rfl, by omega, K2, Nat.le_refl _, by decide, rfl, rfl⟩⟩, fun h => ?_, by omega⟩
    have := Option.some.inj h
    simp at this)
  obtain ⟨h, hh⟩ : ∃ h, h = w2.heap.size := ⟨_, rfl⟩
  rw [← hh] at HC ⊢
  generalize ((((((w2.setCell ⟨w.heap.size, 0, none⟩ (.slice (some ⟨b, o, none⟩) 15 c)).setCell ⟨w.heap.size, 1, none⟩ (.int .i64 4)).setCell ⟨w.heap.size, 2, none⟩ (.int .i64 0)).setCell ⟨w.heap.size, 3, none⟩ (.int .i64 0)).alloc (.cells #[.string sT, .string sT] 60)).alloc (.cells #[.string sT, .string sT] 60)) = w3 at HC ⊢
  clear hz2 HB2 hh la ra0 ra1 ra2 ra3 fa0 fa1 fa2 fa3
  obtain ⟨v, hv⟩ : ∃ v : Value, v = .slice (some ⟨h + 1, 0, none⟩) 1 1 := ⟨_, rfl⟩
  rw [← hv] at HC ⊢
  have HV := Lib.hid hv
  clear hv
  go_loopw [6, 7] (fun x y wr => y = .slice none 0 0 ∧ ((x = v ∧ Hid (CTb w h b o c 4 sT v 1 [.string sT, .string sT] wr)) ∨ (∃ (A : Option Addr) (k : Nat), x = .slice A 2 k ∧ Hid (CTb w h b o c 6 sU (.slice A 2 k) 2 [.string sT, .string sT, .string sU, .string sU] wr)))) (fun x _ _ => 2 - lenV x)
  case atStart => exact ⟨rfl, Or.inl ⟨rfl, HC⟩⟩
  case round =>
    clear HC
    obtain ⟨wo, rfl⟩ : ∃ wo : World, wo = wr := ⟨_, rfl⟩
    rcases hrel with ⟨rfl, ⟨rfl, HC⟩ | ⟨A, k, rfl, HC⟩⟩
    · obtain ⟨la, ra0, ra1, ra2, ra3, fa0, fa1, fa2, fa3⟩ := HC.out.bx.p4 0 rfl
      simp only [Nat.add_zero] at la ra0 ra1 ra2 ra3 fa0 fa1 fa2 fa3
      go_upto_region 7 with (first
        | (go_at_call 53; (with_reducible refine Calls.mono (HN4.out _ HC.out.bx.below) ?_); rintro e w5 ⟨rfl, hB5⟩
           have HC5 := Lib.hid (HC.out.keep hB5)
           clear hB5 la ra0 ra1 ra2 ra3 fa0 fa1 fa2 fa3
           obtain ⟨lb, rb0, rb1, rb2, rb3, fb0, fb1, fb2, fb3⟩ := HC5.out.bx.p4 0 rfl
           simp only [Nat.add_zero] at lb rb0 rb1 rb2 rb3 fb0 fb1 fb2 fb3
)
        | (go_at_call 53; (with_reducible refine Calls.mono (HN4.out _ HC5.out.bx.below) ?_); rintro e w6 ⟨rfl, hB6⟩
           have HC6 := Lib.hid (HC5.out.keep hB6)
           clear hB6 lb rb0 rb1 rb2 rb3 fb0 fb1 fb2 fb3
           obtain ⟨lc, rc0, rc1, rc2, rc3, fc0, fc1, fc2, fc3⟩ := HC6.out.bx.p4 0 rfl
           simp only [Nat.add_zero] at lc rc0 rc1 rc2 rc3 fc0 fc1 fc2 fc3
)
        | (go_at_call 55; (with_reducible refine Calls.mono (HM4.out _ HC6.out.bx.below) ?_); rintro e w7 ⟨rfl, hB7⟩
           have HC7 := Lib.hid (HC6.out.keep hB7)
           clear hB7 lc rc0 rc1 rc2 rc3 fc0 fc1 fc2 fc3)
        | (go_at_call 94; (with_reducible refine Calls.mono (HF2.out _ HC7.out.bx.below) ?_); rintro e w8 ⟨rfl, hB8⟩
           have HC8 := Lib.hid (HC7.out.keep hB8)
           have HC9 := Lib.hid (show CTb w h b o c 6 sU _ 1 [.string sT, .string sT] ((((((w8.setCell ⟨w.heap.size, 0, none⟩ (.slice (some ⟨b, o, none⟩) 15 c)).setCell ⟨w.heap.size, 1, none⟩ (.int .i64 6)).setCell ⟨w.heap.size, 2, none⟩ (.int .i64 0)).setCell ⟨w.heap.size, 3, none⟩ (.int .i64 0)).setCell ⟨h, 0, none⟩ (.string sU)).setCell ⟨h, 1, none⟩ (.string sU)) from HC8.out.put)
           clear hB8
           have t0 := cell_of_row _ _ 0 _ _ _ HC8.out.t
           have t1 := cell_of_row _ _ 1 _ _ _ HC8.out.t
           have y0 := frozen_of_row _ _ 0 _ _ HC8.out.t
           have y1 := frozen_of_row _ _ 1 _ _ HC8.out.t
           have hlt := heap_lt HC8.out.t
           have hfar := HC8.out.far
           have n1 : h ≠ w.heap.size := by omega
           have n2 : w.heap.size ≠ h := by omega
           obtain ⟨ld, rd0, rd1, rd2, rd3, fd0, fd1, fd2, fd3⟩ := HC8.out.bx.p4 0 rfl
           simp only [Nat.add_zero] at ld rd0 rd1 rd2 rd3 fd0 fd1 fd2 fd3
)
        | fail)
      clear HC8 t0 t1 y0 y1 hlt n1 n2 ld rd0 rd1 rd2 rd3 fd0 fd1 fd2 fd3
      generalize ((((((w8.setCell ⟨w.heap.size, 0, none⟩ (.slice (some ⟨b, o, none⟩) 15 c)).setCell ⟨w.heap.size, 1, none⟩ (.int .i64 6)).setCell ⟨w.heap.size, 2, none⟩ (.int .i64 0)).setCell ⟨w.heap.size, 3, none⟩ (.int .i64 0)).setCell ⟨h, 0, none⟩ (.string sU)).setCell ⟨h, 1, none⟩ (.string sU)) = w10 at HC9 ⊢
      have t0 := cell_of_row _ _ 0 _ _ _ HC9.out.t
      have t1 := cell_of_row _ _ 1 _ _ _ HC9.out.t
      have hz10 := HC9.out.bx.size 1 (by simp)
      go_wp2_with (first
        | (at_builtin
           refine list_one 30 60 2 32 (.agg #[.string ⟨#[]⟩, .string ⟨#[]⟩]) Tryz.underlying30 info60 rfl (by omega) (by omega) _ rfl _ _ rfl (w.heap.size + 2) _ 1 [.string sT, .string sT] rfl (HC9.out.keep (below1 w10 _)).own _ 1 [.string sU, .string sU] rfl rfl rfl (heap_alloc_new w10 _) ?c3 ?c4 ?_)
        | fail)
      case c3 => omega
      case c4 => simp only [World.size_alloc]; omega
      intro v9 w9 hown hgr hv9
      have HC10 := Lib.hid ((HC9.out.keep (below1 w10 _)).app hown hgr (by rw [World.size_alloc]; exact hv9))
      obtain ⟨A9, c9, rfl⟩ := own_slice hown
      clear hown hgr hv9
      go_wp2_with fail
      go_roundw
      case rel => exact ⟨rfl, Or.inr ⟨_, _, rfl, HC10⟩⟩
      case measure => rw [HV.out]; simp [lenV]
    · obtain ⟨la, ra0, ra1, ra2, ra3, fa0, fa1, fa2, fa3⟩ := HC.out.bx.p4 0 rfl
      simp only [Nat.add_zero] at la ra0 ra1 ra2 ra3 fa0 fa1 fa2 fa3
      go_wp2_with (first
        | (go_at_call 53; (with_reducible refine Calls.mono (HN6.out _ HC.out.bx.below) ?_); rintro e w5 ⟨rfl, hB5⟩
           have HC5 := Lib.hid (HC.out.keep hB5)
           clear hB5 la ra0 ra1 ra2 ra3 fa0 fa1 fa2 fa3
           obtain ⟨lb, rb0, rb1, rb2, rb3, fb0, fb1, fb2, fb3⟩ := HC5.out.bx.p4 0 rfl
           simp only [Nat.add_zero] at lb rb0 rb1 rb2 rb3 fb0 fb1 fb2 fb3
)
        | (go_at_call 53; (with_reducible refine Calls.mono (HJ6.out _ HC5.out.bx.below) ?_); rintro e w6 ⟨rfl, hB6⟩
           have HC6 := Lib.hid (HC5.out.keep hB6)
           clear hB6 lb rb0 rb1 rb2 rb3 fb0 fb1 fb2 fb3
           obtain ⟨lc, rc0, rc1, rc2, rc3, fc0, fc1, fc2, fc3⟩ := HC6.out.bx.p4 0 rfl
           simp only [Nat.add_zero] at lc rc0 rc1 rc2 rc3 fc0 fc1 fc2 fc3
           obtain ⟨le, re0, re1, re2, re3, fe0, fe1, fe2, fe3⟩ := HC6.out.bx.p4 1 rfl
)
        | fail)
      have HF := HC6.out.bx.setP (k := 1) rfl b o c 6
      have hown := own_ne (own_ne (own_ne (own_ne HC6.out.own (b := w.heap.size + 1) (i := 0) (fun e => by have := (own_base HC6.out.own _ e).1; omega) (.slice (some ⟨b, o, none⟩) 15 c)) (b := w.heap.size + 1) (i := 1) (fun e => by have := (own_base HC6.out.own _ e).1; omega) (.int .i64 6)) (b := w.heap.size + 1) (i := 2) (fun e => by have := (own_base HC6.out.own _ e).1; omega) (.int .i64 0)) (b := w.heap.size + 1) (i := 3) (fun e => by have := (own_base HC6.out.own _ e).1; omega) (.int .i64 0)
      exact bodyPost_ret (res_pss (fn := Tryz.f80) rfl rfl rfl rfl (HF.row 1 _ _ rfl)) rfl ⟨A, k, rfl, HF.below, own_low hown (by omega)⟩
end Go.Proofs.YthdmfaepjemopaaGreatDoor
