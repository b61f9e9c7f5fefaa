/- The walks of slices.IndexFunc over tables and columns, of ContainsFunc, of their closures, of Table. Columns: what a slice of them reads as; the walks of schema's Column and the document's. -/
import Derived.Test.YthdmfaepjemopaaGreatDoorQAC
import Derived.Shelf.GgClosure.Gives
import Derived.Outline
namespace Go.Proofs.YthdmfaepjemopaaGreatDoor
open Go.RowKit

def CellsAt (w : World) (K : Nat) (A : Option Addr) (ls : List (List Value)) : Prop := ls.length ≤ maxLen ∧ (ls = [] ∨ ∃ b off, A = some ⟨b, off, none⟩ ∧ b < w.heap.size ∧ ∀ (j : Nat) (x : List Value), ls[j]? = some x → x.length = K ∧ ∀ (i : Nat) (v : Value), x[i]? = some v → w.cell? ⟨b, off + j * K + i, none⟩ = some v)
theorem CellsAt.keep {w w' : World} (hB : Below w.heap.size w w') {K : Nat} {A : Option Addr} {ls : List (List Value)} (h : CellsAt w K A ls) : CellsAt w' K A ls :=
  ⟨h.1, h.2.imp id fun ⟨b, off, h1, h2, h3⟩ => ⟨b, off, h1, Nat.lt_of_lt_of_le h2 hB.size, fun j x hx => ⟨(h3 j x hx).1, fun i v hv => (hB.cell (p := ⟨b, off + j * K + i, none⟩) h2).trans ((h3 j x hx).2 i v hv)⟩⟩⟩
theorem CellsAt.nil_at (w : World) (K : Nat) (A : Option Addr) : CellsAt w K A [] := ⟨Nat.zero_le _, Or.inl rfl⟩
def FirstIs (P : Nat → Bool) (n : Nat) (r : Int) : Prop := (∃ k : Nat, k < n ∧ r = k ∧ P k = true ∧ ∀ j, j < k → P j = false) ∨ (r = -1 ∧ ∀ j, j < n → P j = false)
def FirstP (P : Nat → Bool) (n : Nat) (w : World) (e : Ending) (w' : World) : Prop := ∃ r : Int, e = .returned (.int .i64 r) ∧ FirstIs P n r ∧ Below w.heap.size w w'

theorem list5 {x : List Value} (h : x.length = 5) : ∃ v0 v1 v2 v3 v4, x = [v0, v1, v2, v3, v4] := by
  match x, h with
  | [v0, v1, v2, v3, v4], _ => exact ⟨v0, v1, v2, v3, v4, rfl⟩
set_option maxHeartbeats 2000000 in
theorem index_tab (P : Nat → Bool) (g : Nat) (lb : Array Value) (eg : ∀ args w, (callFunc g args).run Tryz.prog w = .ok (.enter g args) w) (A : Option Addr) (c : Nat) (ls : List (List Value)) (w : World) (hc : CellsAt w 5 A ls)
    (hp : ∀ (j : Nat) (x : List Value), ls[j]? = some x → ∀ W, Below w.heap.size w W → Calls Tryz.prog g (#[.agg x.toArray] ++ lb) W (RetV (.bool (P j)) W)) :
    Calls Tryz.prog 61 #[.slice A ls.length c, .func (.func g) #[] lb] w (FirstP P ls.length w) := by
  obtain ⟨n, hn⟩ : ∃ n, n = ls.length := ⟨_, rfl⟩
  have hs : n ≤ maxLen := by rw [hn]; exact hc.1
  unfold maxLen at hs
  have H := Lib.hid hc.2
  have HP := Lib.hid hp
  rw [← hn]
  have HN := Lib.hid hn
  clear hc hp hn
  go_enter Tryz.func61, Tryz.ntmps61
  go_wp2_with fail
  go_loopw [8] (fun i wr => ∃ k : Nat, k ≤ n ∧ i = .int .i64 k ∧ Below w.heap.size w wr ∧ Hid (∀ j, j < k → P j = false)) (fun i _ => n - (intOf i).toNat)
  case atStart => exact ⟨0, Nat.zero_le _, rfl, Below.refl _ _, Lib.hid (fun j hj => absurd hj (Nat.not_lt_zero _))⟩
  case round =>
    obtain ⟨k, hk, rfl, hB, HC⟩ := hrel
    obtain ⟨wo, rfl⟩ : ∃ wo : World, wo = wr := ⟨_, rfl⟩
    have HB := Lib.hid hB
    clear hB
    by_cases hlt : k < n
    · rcases H.out with h0 | ⟨b, off, rfl, hbl, hc⟩
      · exfalso; have := HN.out; rw [h0] at this; simp at this; omega
      · obtain ⟨x, hx⟩ : ∃ x, ls[k]? = some x := ⟨_, List.getElem?_eq_getElem (by have := HN.out; omega)⟩
        have HK := hc k x hx
        obtain ⟨v0, v1, v2, v3, v4, rfl⟩ := list5 HK.1
        have hcc : ∀ (i : Nat) (v : Value), [v0, v1, v2, v3, v4][i]? = some v → wo.cell? ⟨b, off + k * 5 + i, none⟩ = some v := fun i v hi => (HB.out.cell (p := ⟨b, off + k * 5 + i, none⟩) hbl).trans (HK.2 i v hi)
        have k0 : wo.cell? ⟨b, off + k * 5, none⟩ = some v0 := hcc 0 v0 rfl
        have k1 : wo.cell? ⟨b, off + k * 5 + 1, none⟩ = some v1 := hcc 1 v1 rfl
        have k2 : wo.cell? ⟨b, off + k * 5 + 2, none⟩ = some v2 := hcc 2 v2 rfl
        have k3 : wo.cell? ⟨b, off + k * 5 + 3, none⟩ = some v3 := hcc 3 v3 rfl
        have k4 : wo.cell? ⟨b, off + k * 5 + 4, none⟩ = some v4 := hcc 4 v4 rfl
        clear hcc HK
        have HCC := Lib.hid (HP.out k _ hx wo HB.out)
        clear hx hc
        cases hq : P k with
        | true =>
          rw [hq] at HCC
          have HR := Lib.hid (show FirstIs P n k from Or.inl ⟨k, hlt, rfl, hq, HC.out⟩)
          clear hq
          go_wp2_with (first
            | (go_at_fn g; (with_reducible refine HCC.out.mono ?_); rintro e w2 ⟨rfl, hB2⟩)
            | fail)
          go_ret
          exact ⟨k, rfl, HR.out, HB.out.trans (hB2.mono HB.out.size)⟩
        | false =>
          rw [hq] at HCC
          have HD := Lib.hid (show ∀ j, j < k + 1 → P j = false from fun j hj => by
            by_cases e : j = k
            · rw [e]; exact hq
            · exact HC.out j (by omega))
          clear hq
          go_wp2_with (first
            | (go_at_fn g; (with_reducible refine HCC.out.mono ?_); rintro e w2 ⟨rfl, hB2⟩)
            | fail)
          go_roundw
          case rel => exact ⟨k + 1, by omega, by go_num, HB.out.trans (hB2.mono HB.out.size), HD⟩
          case measure => simp [intOf] <;> omega
    · have HR := Lib.hid (show FirstIs P n (-1) from Or.inr ⟨rfl, fun j hj => HC.out j (by omega)⟩)
      go_wp2_with fail
      go_ret
      exact ⟨-1, rfl, HR.out, HB.out⟩
theorem list3 {x : List Value} (h : x.length = 3) : ∃ v0 v1 v2, x = [v0, v1, v2] := by
  match x, h with
  | [v0, v1, v2], _ => exact ⟨v0, v1, v2, rfl⟩
set_option maxHeartbeats 2000000 in
theorem index_col (P : Nat → Bool) (g : Nat) (lb : Array Value) (eg : ∀ args w, (callFunc g args).run Tryz.prog w = .ok (.enter g args) w) (A : Option Addr) (c : Nat) (ls : List (List Value)) (w : World) (hc : CellsAt w 3 A ls)
    (hp : ∀ (j : Nat) (x : List Value), ls[j]? = some x → ∀ W, Below w.heap.size w W → Calls Tryz.prog g (#[.agg x.toArray] ++ lb) W (RetV (.bool (P j)) W)) :
    Calls Tryz.prog 86 #[.slice A ls.length c, .func (.func g) #[] lb] w (FirstP P ls.length w) := by
  obtain ⟨n, hn⟩ : ∃ n, n = ls.length := ⟨_, rfl⟩
  have hs : n ≤ maxLen := by rw [hn]; exact hc.1
  unfold maxLen at hs
  have H := Lib.hid hc.2
  have HP := Lib.hid hp
  rw [← hn]
  have HN := Lib.hid hn
  clear hc hp hn
  go_enter Tryz.func86, Tryz.ntmps86
  go_wp2_with fail
  go_loopw [8] (fun i wr => ∃ k : Nat, k ≤ n ∧ i = .int .i64 k ∧ Below w.heap.size w wr ∧ Hid (∀ j, j < k → P j = false)) (fun i _ => n - (intOf i).toNat)
  case atStart => exact ⟨0, Nat.zero_le _, rfl, Below.refl _ _, Lib.hid (fun j hj => absurd hj (Nat.not_lt_zero _))⟩
  case round =>
    obtain ⟨k, hk, rfl, hB, HC⟩ := hrel
    obtain ⟨wo, rfl⟩ : ∃ wo : World, wo = wr := ⟨_, rfl⟩
    have HB := Lib.hid hB
    clear hB
    by_cases hlt : k < n
    · rcases H.out with h0 | ⟨b, off, rfl, hbl, hc⟩
      · exfalso; have := HN.out; rw [h0] at this; simp at this; omega
      · obtain ⟨x, hx⟩ : ∃ x, ls[k]? = some x := ⟨_, List.getElem?_eq_getElem (by have := HN.out; omega)⟩
        have HK := hc k x hx
        obtain ⟨v0, v1, v2, rfl⟩ := list3 HK.1
        have hcc : ∀ (i : Nat) (v : Value), [v0, v1, v2][i]? = some v → wo.cell? ⟨b, off + k * 3 + i, none⟩ = some v := fun i v hi => (HB.out.cell (p := ⟨b, off + k * 3 + i, none⟩) hbl).trans (HK.2 i v hi)
        have k0 : wo.cell? ⟨b, off + k * 3, none⟩ = some v0 := hcc 0 v0 rfl
        have k1 : wo.cell? ⟨b, off + k * 3 + 1, none⟩ = some v1 := hcc 1 v1 rfl
        have k2 : wo.cell? ⟨b, off + k * 3 + 2, none⟩ = some v2 := hcc 2 v2 rfl
        clear hcc HK
        have HCC := Lib.hid (HP.out k _ hx wo HB.out)
        clear hx hc
        cases hq : P k with
        | true =>
          rw [hq] at HCC
          have HR := Lib.hid (show FirstIs P n k from Or.inl ⟨k, hlt, rfl, hq, HC.out⟩)
          clear hq
          go_wp2_with (first
            | (go_at_fn g; (with_reducible refine HCC.out.mono ?_); rintro e w2 ⟨rfl, hB2⟩)
            | fail)
          go_ret
          exact ⟨k, rfl, HR.out, HB.out.trans (hB2.mono HB.out.size)⟩
        | false =>
          rw [hq] at HCC
          have HD := Lib.hid (show ∀ j, j < k + 1 → P j = false from fun j hj => by
            by_cases e : j = k
            · rw [e]; exact hq
            · exact HC.out j (by omega))
          clear hq
          go_wp2_with (first
            | (go_at_fn g; (with_reducible refine HCC.out.mono ?_); rintro e w2 ⟨rfl, hB2⟩)
            | fail)
          go_roundw
          case rel => exact ⟨k + 1, by omega, by go_num, HB.out.trans (hB2.mono HB.out.size), HD⟩
          case measure => simp [intOf] <;> omega
    · have HR := Lib.hid (show FirstIs P n (-1) from Or.inr ⟨rfl, fun j hj => HC.out j (by omega)⟩)
      go_wp2_with fail
      go_ret
      exact ⟨-1, rfl, HR.out, HB.out⟩
structure Tab where
  name : ByteArray
  ca : Option Addr
  cn : Nat
  cc : Nat
  root : Int
  next : Int
  rows : Int
def tabL (t : Tab) : List Value := [.string t.name, .slice t.ca t.cn t.cc, .int .i64 t.root, .int .i64 t.next, .int .i64 t.rows]
def sameN (a b : ByteArray) : Bool := a.toList == b.toList
theorem sameN_iff {a b : ByteArray} : sameN a b = true ↔ a = b := by
  unfold sameN
  rw [beq_iff_eq, ByteArray.toList_eq, ByteArray.toList_eq]
  constructor
  · intro h; cases a; cases b; simp at h; rw [h]
  · intro h; rw [h]
set_option maxRecDepth 100000 in
set_option maxHeartbeats 2000000 in
theorem same_tab (t : Tab) (b : Nat) (nm : ByteArray) (W : World) (h : W.cell? ⟨b, 0, none⟩ = some (.string nm)) : Calls Tryz.prog 62 (#[.agg (tabL t).toArray] ++ #[.pointer (some ⟨b, 0, none⟩)]) W (RetV (.bool (sameN t.name nm)) W) := by
  obtain ⟨tn, ta, tl, tc, tr, tx, ts⟩ := t
  show Calls Tryz.prog 62 #[.agg #[.string tn, .slice ta tl tc, .int .i64 tr, .int .i64 tx, .int .i64 ts], .pointer (some ⟨b, 0, none⟩)] W (RetV (.bool (sameN tn nm)) W)
  have HB := Lib.hid (show (tn.toList == nm.toList) = sameN tn nm from rfl)
  have h2 := cell_kept h (below1 W (.cells #[.string tn, .slice ta tl tc, .int .i64 tr, .int .i64 tx, .int .i64 ts] 65))
  go_enter Tryz.func62, Tryz.ntmps62
  go_wp2_with fail
  go_ret
  exact ⟨ret_bool HB.out, below1 W _⟩
def TabsAt (w : World) (A : Option Addr) (l : List Tab) : Prop := CellsAt w 5 A (l.map tabL)
def nameAt (l : List Tab) (nm : ByteArray) (j : Nat) : Bool := match l[j]? with | some t => sameN t.name nm | none => false
set_option maxRecDepth 100000 in
set_option maxHeartbeats 2000000 in
theorem table_any (A : Option Addr) (c : Nat) (l : List Tab) (ia : Option Addr) (il ic : Nat) (nm : ByteArray) (w : World) (h : TabsAt w A l) : Calls Tryz.prog 33 #[.agg #[.slice A l.length c, .slice ia il ic], .string nm] w (FirstP (nameAt l nm) l.length w) := by
  have HI := Lib.hid (show ∀ (b : Nat) (W : World), Below w.heap.size w W → W.cell? ⟨b, 0, none⟩ = some (.string nm) → Calls Tryz.prog 61 #[.slice A l.length c, .func (.func 62) #[] #[.pointer (some ⟨b, 0, none⟩)]] W (FirstP (nameAt l nm) l.length W) from fun b W hB hb => by
    have h1 := index_tab (nameAt l nm) 62 #[.pointer (some ⟨b, 0, none⟩)] (Go.Proofs.enters_of Tryz.func62 (by kernel_rfl) rfl) A c (l.map tabL) W (CellsAt.keep hB h) (fun j x hx W2 hB2 => by
      rw [List.getElem?_map, Option.map_eq_some_iff] at hx
      obtain ⟨t, ht, rfl⟩ := hx
      have e : nameAt l nm j = sameN t.name nm := by unfold nameAt; rw [ht]
      rw [e]
      exact same_tab t b nm W2 (cell_kept hb hB2))
    rw [List.length_map] at h1
    exact h1)
  clear h
  go_enter Tryz.func33, Tryz.ntmps33
  have HW := Lib.hid (show Below w.heap.size w ((w.alloc (.cells #[.slice A l.length c, .slice ia il ic] 25)).alloc (.cells #[.string nm] 9)) from (below1 w _).alloc (by simp) _)
  have h0 := heap_alloc_new (w.alloc (.cells #[.slice A l.length c, .slice ia il ic] 25)) (.cells #[.string nm] 9)
  rw [World.size_alloc] at h0
  have HC := Lib.hid (cell_of_row _ _ 0 _ _ _ h0)
  clear h0
  go_wp2_with (first
    | (go_at_call 61; (with_reducible refine (HI.out _ _ HW.out HC.out).mono ?_); rintro e w2 ⟨r, rfl, hr, hB⟩; have HR := Lib.hid hr; have HB := Lib.hid (HW.out.trans (hB.mono HW.out.size)); clear hr hB)
    | fail)
  go_ret
  exact ⟨r, rfl, HR.out, HB.out⟩
end Go.Proofs.YthdmfaepjemopaaGreatDoor
namespace Go.Proofs.YthdmfaepjemopaaGreatDoor
open Go.RowKit

structure Col where
  name : ByteArray
  ty : Int
  nn : Bool
def colL (c : Col) : List Value := [.string c.name, .int .i64 c.ty, .bool c.nn]
def ColsAt (w : World) (A : Option Addr) (l : List Col) : Prop := CellsAt w 3 A (l.map colL)
def cnameAt (l : List Col) (nm : ByteArray) (j : Nat) : Bool := match l[j]? with | some t => sameN t.name nm | none => false
set_option maxRecDepth 100000 in
set_option maxHeartbeats 2000000 in
theorem same_col2 (t : Col) (b : Nat) (nm : ByteArray) (W : World) (h : W.cell? ⟨b, 0, none⟩ = some (.string nm)) : Calls Tryz.prog 87 (#[.agg (colL t).toArray] ++ #[.pointer (some ⟨b, 0, none⟩)]) W (RetV (.bool (sameN t.name nm)) W) := by
  obtain ⟨tn, ty, nn⟩ := t
  show Calls Tryz.prog 87 #[.agg #[.string tn, .int .i64 ty, .bool nn], .pointer (some ⟨b, 0, none⟩)] W (RetV (.bool (sameN tn nm)) W)
  have HB := Lib.hid (show (tn.toList == nm.toList) = sameN tn nm from rfl)
  have h2 := cell_kept h (below1 W (.cells #[.string tn, .int .i64 ty, .bool nn] 81))
  go_enter Tryz.func87, Tryz.ntmps87
  go_wp2_with fail
  go_ret
  exact ⟨ret_bool HB.out, below1 W _⟩
set_option maxRecDepth 100000 in
set_option maxHeartbeats 2000000 in
theorem column_any (A : Option Addr) (c : Nat) (l : List Col) (tn : ByteArray) (tr tx tw : Int) (nm : ByteArray) (w : World) (h : ColsAt w A l) : Calls Tryz.prog 65 #[.agg #[.string tn, .slice A l.length c, .int .i64 tr, .int .i64 tx, .int .i64 tw], .string nm] w (FirstP (cnameAt l nm) l.length w) := by
  have HI := Lib.hid (show ∀ (b : Nat) (W : World), Below w.heap.size w W → W.cell? ⟨b, 0, none⟩ = some (.string nm) → Calls Tryz.prog 86 #[.slice A l.length c, .func (.func 87) #[] #[.pointer (some ⟨b, 0, none⟩)]] W (FirstP (cnameAt l nm) l.length W) from fun b W hB hb => by
    have h1 := index_col (cnameAt l nm) 87 #[.pointer (some ⟨b, 0, none⟩)] (Go.Proofs.enters_of Tryz.func87 (by kernel_rfl) rfl) A c (l.map colL) W (CellsAt.keep hB h) (fun j x hx W2 hB2 => by
      rw [List.getElem?_map, Option.map_eq_some_iff] at hx
      obtain ⟨t, ht, rfl⟩ := hx
      have e : cnameAt l nm j = sameN t.name nm := by unfold cnameAt; rw [ht]
      rw [e]
      exact same_col2 t b nm W2 (cell_kept hb hB2))
    rw [List.length_map] at h1
    exact h1)
  clear h
  go_enter Tryz.func65, Tryz.ntmps65
  have HW := Lib.hid (show Below w.heap.size w ((w.alloc (.cells #[.string tn, .slice A l.length c, .int .i64 tr, .int .i64 tx, .int .i64 tw] 65)).alloc (.cells #[.string nm] 9)) from (below1 w _).alloc (by simp) _)
  have h0 := heap_alloc_new (w.alloc (.cells #[.string tn, .slice A l.length c, .int .i64 tr, .int .i64 tx, .int .i64 tw] 65)) (.cells #[.string nm] 9)
  rw [World.size_alloc] at h0
  have HC := Lib.hid (cell_of_row _ _ 0 _ _ _ h0)
  clear h0
  go_wp2_with (first
    | (go_at_call 86; (with_reducible refine (HI.out _ _ HW.out HC.out).mono ?_); rintro e w2 ⟨r, rfl, hr, hB⟩; have HR := Lib.hid hr; have HB := Lib.hid (HW.out.trans (hB.mono HW.out.size)); clear hr hB)
    | fail)
  go_ret
  exact ⟨r, rfl, HR.out, HB.out⟩
end Go.Proofs.YthdmfaepjemopaaGreatDoor
