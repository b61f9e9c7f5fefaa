/- The walks of slices.IndexFunc and slices.ContainsFunc over nodes, indexes, orders. -/
import Derived.Test.YtcnkghcdjicldaaTable
import Derived.Shelf.GgClosure.Gives
namespace Go.Proofs.Ytcnkghcdjicldaa
open Go.RowKit

/-- a slice reads as elements of K cells -/
def CellsAt (w : World) (K : Nat) (A : Option Addr) (ls : List (List Value)) : Prop := ls.length ≤ maxLen ∧ (ls = [] ∨ ∃ b off, A = some ⟨b, off, none⟩ ∧ b < w.heap.size ∧ ∀ (j : Nat) (x : List Value), ls[j]? = some x → x.length = K ∧ ∀ (i : Nat) (v : Value), x[i]? = some v → w.cell? ⟨b, off + j * K + i, none⟩ = some v)
theorem CellsAt.keep {w w' : World} (hB : Below w.heap.size w w') {K : Nat} {A : Option Addr} {ls : List (List Value)} (h : CellsAt w K A ls) : CellsAt w' K A ls :=
  ⟨h.1, h.2.imp id fun ⟨b, off, h1, h2, h3⟩ => ⟨b, off, h1, Nat.lt_of_lt_of_le h2 hB.size, fun j x hx => ⟨(h3 j x hx).1, fun i v hv => (hB.cell (p := ⟨b, off + j * K + i, none⟩) h2).trans ((h3 j x hx).2 i v hv)⟩⟩⟩
def FoundP (b : Bool) (w : World) (e : Ending) (w' : World) : Prop := ∃ r : Int, e = .returned (.int .i64 r) ∧ decide (0 ≤ r) = b ∧ Below w.heap.size w w'
theorem range_any_hit (P : Nat → Bool) (n k : Nat) (hk : k < n) (h : P k = true) : (List.range n).any P = true := by
  rw [List.any_eq_true]; exact ⟨k, List.mem_range.2 hk, h⟩
theorem range_any_miss (P : Nat → Bool) (n : Nat) (h : ∀ j, j < n → P j = false) : (List.range n).any P = false := by
  rw [List.any_eq_false]; intro j hj; rw [h j (List.mem_range.1 hj)]; decide
def atR {α : Type} (l : List α) (p : α → Bool) (j : Nat) : Bool := match l[j]? with | some t => p t | none => false
theorem atR_some {α : Type} {l : List α} {p : α → Bool} {j : Nat} {t : α} (h : l[j]? = some t) : atR l p j = p t := by unfold atR; rw [h]
theorem range_any {α : Type} (l : List α) (p : α → Bool) : (List.range l.length).any (atR l p) = l.any p := by
  cases h : l.any p with
  | true =>
    obtain ⟨x, hx, hp⟩ := List.any_eq_true.1 h
    obtain ⟨j, hj, rfl⟩ := List.mem_iff_getElem.1 hx
    exact range_any_hit _ _ j hj (by rw [atR_some (List.getElem?_eq_getElem hj)]; exact hp)
  | false =>
    refine range_any_miss _ _ fun j hj => ?_
    rw [atR_some (List.getElem?_eq_getElem hj)]
    have := List.any_eq_false.1 h _ (List.getElem_mem hj)
    simpa using this
theorem list10 {x : List Value} (h : x.length = 10) : ∃ v0 v1 v2 v3 v4 v5 v6 v7 v8 v9, x = [v0, v1, v2, v3, v4, v5, v6, v7, v8, v9] := by
  match x, h with
  | [v0, v1, v2, v3, v4, v5, v6, v7, v8, v9], _ => exact ⟨v0, v1, v2, v3, v4, v5, v6, v7, v8, v9, rfl⟩
theorem list3 {x : List Value} (h : x.length = 3) : ∃ v0 v1 v2, x = [v0, v1, v2] := by
  match x, h with
  | [v0, v1, v2], _ => exact ⟨v0, v1, v2, rfl⟩
theorem list2 {x : List Value} (h : x.length = 2) : ∃ v0 v1, x = [v0, v1] := by
  match x, h with
  | [v0, v1], _ => exact ⟨v0, v1, rfl⟩

set_option maxHeartbeats 2000000 in
theorem index_node (P : Nat → Bool) (g : Nat) (lb : Array Value) (eg : ∀ args w, (callFunc g args).run Try.prog w = .ok (.enter g args) w) (A : Option Addr) (c : Nat) (ls : List (List Value)) (w : World) (hc : CellsAt w 10 A ls)
    (hp : ∀ (j : Nat) (x : List Value), ls[j]? = some x → ∀ W, Below w.heap.size w W → Calls Try.prog g (#[.agg x.toArray] ++ lb) W (RetV (.bool (P j)) W)) :
    Calls Try.prog 52 #[.slice A ls.length c, .func (.func g) #[] lb] w (FoundP ((List.range ls.length).any P) w) := by
  obtain ⟨n, hn⟩ : ∃ n, n = ls.length := ⟨_, rfl⟩
  have hs : n ≤ maxLen := by rw [hn]; exact hc.1
  unfold maxLen at hs
  have H := Lib.hid hc.2
  have HP := Lib.hid hp
  rw [← hn]
  have HN := Lib.hid hn
  clear hc hp hn
  go_enter Try.func52, Try.ntmps52
  go_wp2_with fail
  go_loopw [8] (fun i wr => ∃ k : Nat, k ≤ n ∧ i = .int .i64 k ∧ Below w.heap.size w wr ∧ Hid (∀ j, j < k → P j = false)) (fun i _ => n - (intOf i).toNat)
  case atStart => exact ⟨0, Nat.zero_le _, rfl, Below.refl _ _, Lib.hid (fun j hj => absurd hj (Nat.not_lt_zero _))⟩
  case round =>
    obtain ⟨k, hk, rfl, hB, HC⟩ := hrel
    obtain ⟨wo, rfl⟩ : ∃ wo : World, wo = wr := ⟨_, rfl⟩
    have HB := Lib.hid hB
    clear hB
    by_cases hlt : k < n
    · rcases H.out with h0 | ⟨b, off, rfl, hbl, hc⟩
      · exfalso; have := HN.out; rw [h0] at this; simp at this; omega
      · obtain ⟨x, hx⟩ : ∃ x, ls[k]? = some x := ⟨_, List.getElem?_eq_getElem (by have := HN.out; omega)⟩
        have HK := hc k x hx
        obtain ⟨v0, v1, v2, v3, v4, v5, v6, v7, v8, v9, rfl⟩ := list10 HK.1
        have hcc : ∀ (i : Nat) (v : Value), [v0, v1, v2, v3, v4, v5, v6, v7, v8, v9][i]? = some v → wo.cell? ⟨b, off + k * 10 + i, none⟩ = some v := fun i v hi => (HB.out.cell (p := ⟨b, off + k * 10 + i, none⟩) hbl).trans (HK.2 i v hi)
        have k0 : wo.cell? ⟨b, off + k * 10, none⟩ = some v0 := hcc 0 v0 rfl
        have k1 : wo.cell? ⟨b, off + k * 10 + 1, none⟩ = some v1 := hcc 1 v1 rfl
        have k2 : wo.cell? ⟨b, off + k * 10 + 2, none⟩ = some v2 := hcc 2 v2 rfl
        have k3 : wo.cell? ⟨b, off + k * 10 + 3, none⟩ = some v3 := hcc 3 v3 rfl
        have k4 : wo.cell? ⟨b, off + k * 10 + 4, none⟩ = some v4 := hcc 4 v4 rfl
        have k5 : wo.cell? ⟨b, off + k * 10 + 5, none⟩ = some v5 := hcc 5 v5 rfl
        have k6 : wo.cell? ⟨b, off + k * 10 + 6, none⟩ = some v6 := hcc 6 v6 rfl
        have k7 : wo.cell? ⟨b, off + k * 10 + 7, none⟩ = some v7 := hcc 7 v7 rfl
        have k8 : wo.cell? ⟨b, off + k * 10 + 8, none⟩ = some v8 := hcc 8 v8 rfl
        have k9 : wo.cell? ⟨b, off + k * 10 + 9, none⟩ = some v9 := hcc 9 v9 rfl
        clear hcc HK
        have HCC := Lib.hid (HP.out k _ hx wo HB.out)
        clear hx hc
        cases hq : P k with
        | true =>
          rw [hq] at HCC
          have HR := Lib.hid (range_any_hit P n k hlt hq)
          clear hq
          go_wp2_with (first
            | (go_at_fn g; (with_reducible refine HCC.out.mono ?_); rintro e w2 ⟨rfl, hB2⟩)
            | fail)
          go_ret
          exact ⟨k, rfl, by rw [HR.out]; simp, HB.out.trans (hB2.mono HB.out.size)⟩
        | false =>
          rw [hq] at HCC
          have HD := Lib.hid (show ∀ j, j < k + 1 → P j = false from fun j hj => by
            by_cases e : j = k
            · rw [e]; exact hq
            · exact HC.out j (by omega))
          clear hq
          go_wp2_with (first
            | (go_at_fn g; (with_reducible refine HCC.out.mono ?_); rintro e w2 ⟨rfl, hB2⟩)
            | fail)
          go_roundw
          case rel => exact ⟨k + 1, by omega, by go_num, HB.out.trans (hB2.mono HB.out.size), HD⟩
          case measure => simp [intOf] <;> omega
    · have HR := Lib.hid (range_any_miss P n (fun j hj => HC.out j (by omega)))
      go_wp2_with fail
      go_ret
      exact ⟨-1, rfl, by rw [HR.out]; rfl, HB.out⟩
set_option maxHeartbeats 2000000 in
theorem contains_node (P : Nat → Bool) (g : Nat) (lb : Array Value) (eg : ∀ args w, (callFunc g args).run Try.prog w = .ok (.enter g args) w) (A : Option Addr) (c : Nat) (ls : List (List Value)) (w : World) (hc : CellsAt w 10 A ls)
    (hp : ∀ (j : Nat) (x : List Value), ls[j]? = some x → ∀ W, Below w.heap.size w W → Calls Try.prog g (#[.agg x.toArray] ++ lb) W (RetV (.bool (P j)) W)) :
    Calls Try.prog 48 #[.slice A ls.length c, .func (.func g) #[] lb] w (RetV (.bool ((List.range ls.length).any P)) w) := by
  have HI := Lib.hid (index_node P g lb eg A c ls w hc hp)
  generalize (List.range ls.length).any P = R at HI ⊢
  clear hc hp
  go_enter Try.func48, Try.ntmps48
  go_wp2_with (first
    | (go_at_call 52; (with_reducible refine HI.out.mono ?_); rintro e w2 ⟨r, rfl, hr, hB⟩; have HR := Lib.hid hr; clear hr)
    | fail)
  go_ret
  exact ⟨ret_bool (by rw [← HR.out]), hB⟩

set_option maxHeartbeats 2000000 in
theorem index_def (P : Nat → Bool) (g : Nat) (lb : Array Value) (eg : ∀ args w, (callFunc g args).run Try.prog w = .ok (.enter g args) w) (A : Option Addr) (c : Nat) (ls : List (List Value)) (w : World) (hc : CellsAt w 3 A ls)
    (hp : ∀ (j : Nat) (x : List Value), ls[j]? = some x → ∀ W, Below w.heap.size w W → Calls Try.prog g (#[.agg x.toArray] ++ lb) W (RetV (.bool (P j)) W)) :
    Calls Try.prog 51 #[.slice A ls.length c, .func (.func g) #[] lb] w (FoundP ((List.range ls.length).any P) w) := by
  obtain ⟨n, hn⟩ : ∃ n, n = ls.length := ⟨_, rfl⟩
  have hs : n ≤ maxLen := by rw [hn]; exact hc.1
  unfold maxLen at hs
  have H := Lib.hid hc.2
  have HP := Lib.hid hp
  rw [← hn]
  have HN := Lib.hid hn
  clear hc hp hn
  go_enter Try.func51, Try.ntmps51
  go_wp2_with fail
  go_loopw [8] (fun i wr => ∃ k : Nat, k ≤ n ∧ i = .int .i64 k ∧ Below w.heap.size w wr ∧ Hid (∀ j, j < k → P j = false)) (fun i _ => n - (intOf i).toNat)
  case atStart => exact ⟨0, Nat.zero_le _, rfl, Below.refl _ _, Lib.hid (fun j hj => absurd hj (Nat.not_lt_zero _))⟩
  case round =>
    obtain ⟨k, hk, rfl, hB, HC⟩ := hrel
    obtain ⟨wo, rfl⟩ : ∃ wo : World, wo = wr := ⟨_, rfl⟩
    have HB := Lib.hid hB
    clear hB
    by_cases hlt : k < n
    · rcases H.out with h0 | ⟨b, off, rfl, hbl, hc⟩
      · exfalso; have := HN.out; rw [h0] at this; simp at this; omega
      · obtain ⟨x, hx⟩ : ∃ x, ls[k]? = some x := ⟨_, List.getElem?_eq_getElem (by have := HN.out; omega)⟩
        have HK := hc k x hx
        obtain ⟨v0, v1, v2, rfl⟩ := list3 HK.1
        have hcc : ∀ (i : Nat) (v : Value), [v0, v1, v2][i]? = some v → wo.cell? ⟨b, off + k * 3 + i, none⟩ = some v := fun i v hi => (HB.out.cell (p := ⟨b, off + k * 3 + i, none⟩) hbl).trans (HK.2 i v hi)
        have k0 : wo.cell? ⟨b, off + k * 3, none⟩ = some v0 := hcc 0 v0 rfl
        have k1 : wo.cell? ⟨b, off + k * 3 + 1, none⟩ = some v1 := hcc 1 v1 rfl
        have k2 : wo.cell? ⟨b, off + k * 3 + 2, none⟩ = some v2 := hcc 2 v2 rfl
        clear hcc HK
        have HCC := Lib.hid (HP.out k _ hx wo HB.out)
        clear hx hc
        cases hq : P k with
        | true =>
          rw [hq] at HCC
          have HR := Lib.hid (range_any_hit P n k hlt hq)
          clear hq
          go_wp2_with (first
            | (go_at_fn g; (with_reducible refine HCC.out.mono ?_); rintro e w2 ⟨rfl, hB2⟩)
            | fail)
          go_ret
          exact ⟨k, rfl, by rw [HR.out]; simp, HB.out.trans (hB2.mono HB.out.size)⟩
        | false =>
          rw [hq] at HCC
          have HD := Lib.hid (show ∀ j, j < k + 1 → P j = false from fun j hj => by
            by_cases e : j = k
            · rw [e]; exact hq
            · exact HC.out j (by omega))
          clear hq
          go_wp2_with (first
            | (go_at_fn g; (with_reducible refine HCC.out.mono ?_); rintro e w2 ⟨rfl, hB2⟩)
            | fail)
          go_roundw
          case rel => exact ⟨k + 1, by omega, by go_num, HB.out.trans (hB2.mono HB.out.size), HD⟩
          case measure => simp [intOf] <;> omega
    · have HR := Lib.hid (range_any_miss P n (fun j hj => HC.out j (by omega)))
      go_wp2_with fail
      go_ret
      exact ⟨-1, rfl, by rw [HR.out]; rfl, HB.out⟩
set_option maxHeartbeats 2000000 in
theorem contains_def (P : Nat → Bool) (g : Nat) (lb : Array Value) (eg : ∀ args w, (callFunc g args).run Try.prog w = .ok (.enter g args) w) (A : Option Addr) (c : Nat) (ls : List (List Value)) (w : World) (hc : CellsAt w 3 A ls)
    (hp : ∀ (j : Nat) (x : List Value), ls[j]? = some x → ∀ W, Below w.heap.size w W → Calls Try.prog g (#[.agg x.toArray] ++ lb) W (RetV (.bool (P j)) W)) :
    Calls Try.prog 38 #[.slice A ls.length c, .func (.func g) #[] lb] w (RetV (.bool ((List.range ls.length).any P)) w) := by
  have HI := Lib.hid (index_def P g lb eg A c ls w hc hp)
  generalize (List.range ls.length).any P = R at HI ⊢
  clear hc hp
  go_enter Try.func38, Try.ntmps38
  go_wp2_with (first
    | (go_at_call 51; (with_reducible refine HI.out.mono ?_); rintro e w2 ⟨r, rfl, hr, hB⟩; have HR := Lib.hid hr; clear hr)
    | fail)
  go_ret
  exact ⟨ret_bool (by rw [← HR.out]), hB⟩

set_option maxHeartbeats 2000000 in
theorem index_sort (P : Nat → Bool) (g : Nat) (lb : Array Value) (eg : ∀ args w, (callFunc g args).run Try.prog w = .ok (.enter g args) w) (A : Option Addr) (c : Nat) (ls : List (List Value)) (w : World) (hc : CellsAt w 2 A ls)
    (hp : ∀ (j : Nat) (x : List Value), ls[j]? = some x → ∀ W, Below w.heap.size w W → Calls Try.prog g (#[.agg x.toArray] ++ lb) W (RetV (.bool (P j)) W)) :
    Calls Try.prog 42 #[.slice A ls.length c, .func (.func g) #[] lb] w (FoundP ((List.range ls.length).any P) w) := by
  obtain ⟨n, hn⟩ : ∃ n, n = ls.length := ⟨_, rfl⟩
  have hs : n ≤ maxLen := by rw [hn]; exact hc.1
  unfold maxLen at hs
  have H := Lib.hid hc.2
  have HP := Lib.hid hp
  rw [← hn]
  have HN := Lib.hid hn
  clear hc hp hn
  go_enter Try.func42, Try.ntmps42
  go_wp2_with fail
  go_loopw [8] (fun i wr => ∃ k : Nat, k ≤ n ∧ i = .int .i64 k ∧ Below w.heap.size w wr ∧ Hid (∀ j, j < k → P j = false)) (fun i _ => n - (intOf i).toNat)
  case atStart => exact ⟨0, Nat.zero_le _, rfl, Below.refl _ _, Lib.hid (fun j hj => absurd hj (Nat.not_lt_zero _))⟩
  case round =>
    obtain ⟨k, hk, rfl, hB, HC⟩ := hrel
    obtain ⟨wo, rfl⟩ : ∃ wo : World, wo = wr := ⟨_, rfl⟩
    have HB := Lib.hid hB
    clear hB
    by_cases hlt : k < n
    · rcases H.out with h0 | ⟨b, off, rfl, hbl, hc⟩
      · exfalso; have := HN.out; rw [h0] at this; simp at this; omega
      · obtain ⟨x, hx⟩ : ∃ x, ls[k]? = some x := ⟨_, List.getElem?_eq_getElem (by have := HN.out; omega)⟩
        have HK := hc k x hx
        obtain ⟨v0, v1, rfl⟩ := list2 HK.1
        have hcc : ∀ (i : Nat) (v : Value), [v0, v1][i]? = some v → wo.cell? ⟨b, off + k * 2 + i, none⟩ = some v := fun i v hi => (HB.out.cell (p := ⟨b, off + k * 2 + i, none⟩) hbl).trans (HK.2 i v hi)
        have k0 : wo.cell? ⟨b, off + k * 2, none⟩ = some v0 := hcc 0 v0 rfl
        have k1 : wo.cell? ⟨b, off + k * 2 + 1, none⟩ = some v1 := hcc 1 v1 rfl
        clear hcc HK
        have HCC := Lib.hid (HP.out k _ hx wo HB.out)
        clear hx hc
        cases hq : P k with
        | true =>
          rw [hq] at HCC
          have HR := Lib.hid (range_any_hit P n k hlt hq)
          clear hq
          go_wp2_with (first
            | (go_at_fn g; (with_reducible refine HCC.out.mono ?_); rintro e w2 ⟨rfl, hB2⟩)
            | fail)
          go_ret
          exact ⟨k, rfl, by rw [HR.out]; simp, HB.out.trans (hB2.mono HB.out.size)⟩
        | false =>
          rw [hq] at HCC
          have HD := Lib.hid (show ∀ j, j < k + 1 → P j = false from fun j hj => by
            by_cases e : j = k
            · rw [e]; exact hq
            · exact HC.out j (by omega))
          clear hq
          go_wp2_with (first
            | (go_at_fn g; (with_reducible refine HCC.out.mono ?_); rintro e w2 ⟨rfl, hB2⟩)
            | fail)
          go_roundw
          case rel => exact ⟨k + 1, by omega, by go_num, HB.out.trans (hB2.mono HB.out.size), HD⟩
          case measure => simp [intOf] <;> omega
    · have HR := Lib.hid (range_any_miss P n (fun j hj => HC.out j (by omega)))
      go_wp2_with fail
      go_ret
      exact ⟨-1, rfl, by rw [HR.out]; rfl, HB.out⟩
set_option maxHeartbeats 2000000 in
theorem contains_sort (P : Nat → Bool) (g : Nat) (lb : Array Value) (eg : ∀ args w, (callFunc g args).run Try.prog w = .ok (.enter g args) w) (A : Option Addr) (c : Nat) (ls : List (List Value)) (w : World) (hc : CellsAt w 2 A ls)
    (hp : ∀ (j : Nat) (x : List Value), ls[j]? = some x → ∀ W, Below w.heap.size w W → Calls Try.prog g (#[.agg x.toArray] ++ lb) W (RetV (.bool (P j)) W)) :
    Calls Try.prog 21 #[.slice A ls.length c, .func (.func g) #[] lb] w (RetV (.bool ((List.range ls.length).any P)) w) := by
  have HI := Lib.hid (index_sort P g lb eg A c ls w hc hp)
  generalize (List.range ls.length).any P = R at HI ⊢
  clear hc hp
  go_enter Try.func21, Try.ntmps21
  go_wp2_with (first
    | (go_at_call 42; (with_reducible refine HI.out.mono ?_); rintro e w2 ⟨r, rfl, hr, hB⟩; have HR := Lib.hid hr; clear hr)
    | fail)
  go_ret
  exact ⟨ret_bool (by rw [← HR.out]), hB⟩
end Go.Proofs.Ytcnkghcdjicldaa
