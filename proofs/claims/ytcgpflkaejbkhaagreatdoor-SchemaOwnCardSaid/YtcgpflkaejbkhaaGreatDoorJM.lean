/- The walks of slices.IndexFunc over tables and columns, of ContainsFunc, of their closures, of Table. The walk of Columns. -/
import Derived.Test.YtcgpflkaejbkhaaGreatDoorJL
namespace Go.Proofs.YtcgpflkaejbkhaaGreatDoor
open Go.RowKit

/-- a slice reads as elements of K cells -/
def CellsAt (w : World) (K : Nat) (A : Option Addr) (ls : List (List Value)) : Prop := ls.length ≤ maxLen ∧ (ls = [] ∨ ∃ b off, A = some ⟨b, off, none⟩ ∧ b < w.heap.size ∧ ∀ (j : Nat) (x : List Value), ls[j]? = some x → x.length = K ∧ ∀ (i : Nat) (v : Value), x[i]? = some v → w.cell? ⟨b, off + j * K + i, none⟩ = some v)
theorem CellsAt.keep {w w' : World} (hB : Below w.heap.size w w') {K : Nat} {A : Option Addr} {ls : List (List Value)} (h : CellsAt w K A ls) : CellsAt w' K A ls :=
  ⟨h.1, h.2.imp id fun ⟨b, off, h1, h2, h3⟩ => ⟨b, off, h1, Nat.lt_of_lt_of_le h2 hB.size, fun j x hx => ⟨(h3 j x hx).1, fun i v hv => (hB.cell (p := ⟨b, off + j * K + i, none⟩) h2).trans ((h3 j x hx).2 i v hv)⟩⟩⟩
theorem CellsAt.nil_at (w : World) (K : Nat) (A : Option Addr) : CellsAt w K A [] := ⟨Nat.zero_le _, Or.inl rfl⟩
/-- the first place at which P holds, or -1 -/
def FirstIs (P : Nat → Bool) (n : Nat) (r : Int) : Prop := (∃ k : Nat, k < n ∧ r = k ∧ P k = true ∧ ∀ j, j < k → P j = false) ∨ (r = -1 ∧ ∀ j, j < n → P j = false)
def FirstP (P : Nat → Bool) (n : Nat) (w : World) (e : Ending) (w' : World) : Prop := ∃ r : Int, e = .returned (.int .i64 r) ∧ FirstIs P n r ∧ Below w.heap.size w w'

theorem list5 {x : List Value} (h : x.length = 5) : ∃ v0 v1 v2 v3 v4, x = [v0, v1, v2, v3, v4] := by
  match x, h with
  | [v0, v1, v2, v3, v4], _ => exact ⟨v0, v1, v2, v3, v4, rfl⟩
set_option maxHeartbeats 2000000 in
theorem index_tab (P : Nat → Bool) (g : Nat) (lb : Array Value) (eg : ∀ args w, (callFunc g args).run Tryz.prog w = .ok (.enter g args) w) (A : Option Addr) (c : Nat) (ls : List (List Value)) (w : World) (hc : CellsAt w 5 A ls)
    (hp : ∀ (j : Nat) (x : List Value), ls[j]? = some x → ∀ W, Below w.heap.size w W → Calls Tryz.prog g (#[.agg x.toArray] ++ lb) W (RetV (.bool (P j)) W)) :
    Calls Tryz.prog 38 #[.slice A ls.length c, .func (.func g) #[] lb] w (FirstP P ls.length w) := by
  obtain ⟨n, hn⟩ : ∃ n, n = ls.length := ⟨_, rfl⟩
  have hs : n ≤ maxLen := by rw [hn]; exact hc.1
  unfold maxLen at hs
  have H := Lib.hid hc.2
  have HP := Lib.hid hp
  rw [← hn]
  have HN := Lib.hid hn
  clear hc hp hn
  go_enter Tryz.func38, Tryz.ntmps38
  go_wp2_with fail
  go_loopw [8] (fun i wr => ∃ k : Nat, k ≤ n ∧ i = .int .i64 k ∧ Below w.heap.size w wr ∧ Hid (∀ j, j < k → P j = false)) (fun i _ => n - (intOf i).toNat)
  case atStart => exact ⟨0, Nat.zero_le _, rfl, Below.refl _ _, Lib.hid (fun j hj => absurd hj (Nat.not_lt_zero _))⟩
  case round =>
    obtain ⟨k, hk, rfl, hB, HC⟩ := hrel
    obtain ⟨wo, rfl⟩ : ∃ wo : World, wo = wr := ⟨_, rfl⟩
    have HB := Lib.hid hB
    clear hB
    by_cases hlt : k < n
    · rcases H.out with h0 | ⟨b, off, rfl, hbl, hc⟩
      · exfalso; have := HN.out; rw [h0] at this; simp at this; omega
      · obtain ⟨x, hx⟩ : ∃ x, ls[k]? = some x := ⟨_, List.getElem?_eq_getElem (by have := HN.out; omega)⟩
        have HK := hc k x hx
        obtain ⟨v0, v1, v2, v3, v4, rfl⟩ := list5 HK.1
        have hcc : ∀ (i : Nat) (v : Value), [v0, v1, v2, v3, v4][i]? = some v → wo.cell? ⟨b, off + k * 5 + i, none⟩ = some v := fun i v hi => (HB.out.cell (p := ⟨b, off + k * 5 + i, none⟩) hbl).trans (HK.2 i v hi)
        have k0 : wo.cell? ⟨b, off + k * 5, none⟩ = some v0 := hcc 0 v0 rfl
        have k1 : wo.cell? ⟨b, off + k * 5 + 1, none⟩ = some v1 := hcc 1 v1 rfl
        have k2 : wo.cell? ⟨b, off + k * 5 + 2, none⟩ = some v2 := hcc 2 v2 rfl
        have k3 : wo.cell? ⟨b, off + k * 5 + 3, none⟩ = some v3 := hcc 3 v3 rfl
        have k4 : wo.cell? ⟨b, off + k * 5 + 4, none⟩ = some v4 := hcc 4 v4 rfl
        clear hcc HK
        have HCC := Lib.hid (HP.out k _ hx wo HB.out)
        clear hx hc
        cases hq : P k with
        | true =>
          rw [hq] at HCC
          have HR := Lib.hid (show FirstIs P n k from Or.inl ⟨k, hlt, rfl, hq, HC.out⟩)
          clear hq
          go_wp2_with (first
            | (go_at_fn g; (with_reducible refine HCC.out.mono ?_); rintro e w2 ⟨rfl, hB2⟩)
            | fail)
          go_ret
          exact ⟨k, rfl, HR.out, HB.out.trans (hB2.mono HB.out.size)⟩
        | false =>
          rw [hq] at HCC
          have HD := Lib.hid (show ∀ j, j < k + 1 → P j = false from fun j hj => by
            by_cases e : j = k
            · rw [e]; exact hq
            · exact HC.out j (by omega))
          clear hq
          go_wp2_with (first
            | (go_at_fn g; (with_reducible refine HCC.out.mono ?_); rintro e w2 ⟨rfl, hB2⟩)
            | fail)
          go_roundw
          case rel => exact ⟨k + 1, by omega, by go_num, HB.out.trans (hB2.mono HB.out.size), HD⟩
          case measure => simp [intOf] <;> omega
    · have HR := Lib.hid (show FirstIs P n (-1) from Or.inr ⟨rfl, fun j hj => HC.out j (by omega)⟩)
      go_wp2_with fail
      go_ret
      exact ⟨-1, rfl, HR.out, HB.out⟩
theorem list3 {x : List Value} (h : x.length = 3) : ∃ v0 v1 v2, x = [v0, v1, v2] := by
  match x, h with
  | [v0, v1, v2], _ => exact ⟨v0, v1, v2, rfl⟩
set_option maxHeartbeats 2000000 in
theorem index_col (P : Nat → Bool) (g : Nat) (lb : Array Value) (eg : ∀ args w, (callFunc g args).run Tryz.prog w = .ok (.enter g args) w) (A : Option Addr) (c : Nat) (ls : List (List Value)) (w : World) (hc : CellsAt w 3 A ls)
    (hp : ∀ (j : Nat) (x : List Value), ls[j]? = some x → ∀ W, Below w.heap.size w W → Calls Tryz.prog g (#[.agg x.toArray] ++ lb) W (RetV (.bool (P j)) W)) :
    Calls Tryz.prog 43 #[.slice A ls.length c, .func (.func g) #[] lb] w (FirstP P ls.length w) := by
  obtain ⟨n, hn⟩ : ∃ n, n = ls.length := ⟨_, rfl⟩
  have hs : n ≤ maxLen := by rw [hn]; exact hc.1
  unfold maxLen at hs
  have H := Lib.hid hc.2
  have HP := Lib.hid hp
  rw [← hn]
  have HN := Lib.hid hn
  clear hc hp hn
  go_enter Tryz.func43, Tryz.ntmps43
  go_wp2_with fail
  go_loopw [8] (fun i wr => ∃ k : Nat, k ≤ n ∧ i = .int .i64 k ∧ Below w.heap.size w wr ∧ Hid (∀ j, j < k → P j = false)) (fun i _ => n - (intOf i).toNat)
  case atStart => exact ⟨0, Nat.zero_le _, rfl, Below.refl _ _, Lib.hid (fun j hj => absurd hj (Nat.not_lt_zero _))⟩
  case round =>
    obtain ⟨k, hk, rfl, hB, HC⟩ := hrel
    obtain ⟨wo, rfl⟩ : ∃ wo : World, wo = wr := ⟨_, rfl⟩
    have HB := Lib.hid hB
    clear hB
    by_cases hlt : k < n
    · rcases H.out with h0 | ⟨b, off, rfl, hbl, hc⟩
      · exfalso; have := HN.out; rw [h0] at this; simp at this; omega
      · obtain ⟨x, hx⟩ : ∃ x, ls[k]? = some x := ⟨_, List.getElem?_eq_getElem (by have := HN.out; omega)⟩
        have HK := hc k x hx
        obtain ⟨v0, v1, v2, rfl⟩ := list3 HK.1
        have hcc : ∀ (i : Nat) (v : Value), [v0, v1, v2][i]? = some v → wo.cell? ⟨b, off + k * 3 + i, none⟩ = some v := fun i v hi => (HB.out.cell (p := ⟨b, off + k * 3 + i, none⟩) hbl).trans (HK.2 i v hi)
        have k0 : wo.cell? ⟨b, off + k * 3, none⟩ = some v0 := hcc 0 v0 rfl
        have k1 : wo.cell? ⟨b, off + k * 3 + 1, none⟩ = some v1 := hcc 1 v1 rfl
        have k2 : wo.cell? ⟨b, off + k * 3 + 2, none⟩ = some v2 := hcc 2 v2 rfl
        clear hcc HK
        have HCC := Lib.hid (HP.out k _ hx wo HB.out)
        clear hx hc
        cases hq : P k with
        | true =>
          rw [hq] at HCC
          have HR := Lib.hid (show FirstIs P n k from Or.inl ⟨k, hlt, rfl, hq, HC.out⟩)
          clear hq
          go_wp2_with (first
            | (go_at_fn g; (with_reducible refine HCC.out.mono ?_); rintro e w2 ⟨rfl, hB2⟩)
            | fail)
          go_ret
          exact ⟨k, rfl, HR.out, HB.out.trans (hB2.mono HB.out.size)⟩
        | false =>
          rw [hq] at HCC
          have HD := Lib.hid (show ∀ j, j < k + 1 → P j = false from fun j hj => by
            by_cases e : j = k
            · rw [e]; exact hq
            · exact HC.out j (by omega))
          clear hq
          go_wp2_with (first
            | (go_at_fn g; (with_reducible refine HCC.out.mono ?_); rintro e w2 ⟨rfl, hB2⟩)
            | fail)
          go_roundw
          case rel => exact ⟨k + 1, by omega, by go_num, HB.out.trans (hB2.mono HB.out.size), HD⟩
          case measure => simp [intOf] <;> omega
    · have HR := Lib.hid (show FirstIs P n (-1) from Or.inr ⟨rfl, fun j hj => HC.out j (by omega)⟩)
      go_wp2_with fail
      go_ret
      exact ⟨-1, rfl, HR.out, HB.out⟩
/-- a table's five cells; its columns are a slice that is not looked into -/
structure Tab where
  name : ByteArray
  ca : Option Addr
  cn : Nat
  cc : Nat
  root : Int
  next : Int
  rows : Int
def tabL (t : Tab) : List Value := [.string t.name, .slice t.ca t.cn t.cc, .int .i64 t.root, .int .i64 t.next, .int .i64 t.rows]
def sameN (a b : ByteArray) : Bool := a.toList == b.toList
theorem sameN_iff {a b : ByteArray} : sameN a b = true ↔ a = b := by
  unfold sameN
  rw [beq_iff_eq, ByteArray.toList_eq, ByteArray.toList_eq]
  constructor
  · intro h; cases a; cases b; simp at h; rw [h]
  · intro h; rw [h]
set_option maxRecDepth 100000 in
set_option maxHeartbeats 2000000 in
theorem same_tab (t : Tab) (b : Nat) (nm : ByteArray) (W : World) (h : W.cell? ⟨b, 0, none⟩ = some (.string nm)) : Calls Tryz.prog 39 (#[.agg (tabL t).toArray] ++ #[.pointer (some ⟨b, 0, none⟩)]) W (RetV (.bool (sameN t.name nm)) W) := by
  obtain ⟨tn, ta, tl, tc, tr, tx, ts⟩ := t
  show Calls Tryz.prog 39 #[.agg #[.string tn, .slice ta tl tc, .int .i64 tr, .int .i64 tx, .int .i64 ts], .pointer (some ⟨b, 0, none⟩)] W (RetV (.bool (sameN tn nm)) W)
  have HB := Lib.hid (show (tn.toList == nm.toList) = sameN tn nm from rfl)
  have h2 := cell_kept h (below1 W (.cells #[.string tn, .slice ta tl tc, .int .i64 tr, .int .i64 tx, .int .i64 ts] 25))
  go_enter Tryz.func39, Tryz.ntmps39
  go_wp2_with fail
  go_ret
  exact ⟨ret_b HB.out, below1 W _⟩
/-- tables that a slice reads as -/
def TabsAt (w : World) (A : Option Addr) (l : List Tab) : Prop := CellsAt w 5 A (l.map tabL)
def nameAt (l : List Tab) (nm : ByteArray) (j : Nat) : Bool := match l[j]? with | some t => sameN t.name nm | none => false
set_option maxRecDepth 100000 in
set_option maxHeartbeats 2000000 in
theorem table_any (A : Option Addr) (c : Nat) (l : List Tab) (ia : Option Addr) (il ic : Nat) (nm : ByteArray) (w : World) (h : TabsAt w A l) : Calls Tryz.prog 12 #[.agg #[.slice A l.length c, .slice ia il ic], .string nm] w (FirstP (nameAt l nm) l.length w) := by
  have HI := Lib.hid (show ∀ (b : Nat) (W : World), Below w.heap.size w W → W.cell? ⟨b, 0, none⟩ = some (.string nm) → Calls Tryz.prog 38 #[.slice A l.length c, .func (.func 39) #[] #[.pointer (some ⟨b, 0, none⟩)]] W (FirstP (nameAt l nm) l.length W) from fun b W hB hb => by
    have h1 := index_tab (nameAt l nm) 39 #[.pointer (some ⟨b, 0, none⟩)] (Go.Proofs.enters_of Tryz.func39 (by kernel_rfl) rfl) A c (l.map tabL) W (CellsAt.keep hB h) (fun j x hx W2 hB2 => by
      rw [List.getElem?_map, Option.map_eq_some_iff] at hx
      obtain ⟨t, ht, rfl⟩ := hx
      have e : nameAt l nm j = sameN t.name nm := by unfold nameAt; rw [ht]
      rw [e]
      exact same_tab t b nm W2 (cell_kept hb hB2))
    rw [List.length_map] at h1
    exact h1)
  clear h
  go_enter Tryz.func12, Tryz.ntmps12
  have HW := Lib.hid (show Below w.heap.size w ((w.alloc (.cells #[.slice A l.length c, .slice ia il ic] 36)).alloc (.cells #[.string nm] 9)) from (below1 w _).alloc (by simp) _)
  have h0 := heap_alloc_new (w.alloc (.cells #[.slice A l.length c, .slice ia il ic] 36)) (.cells #[.string nm] 9)
  rw [World.size_alloc] at h0
  have HC := Lib.hid (cell_of_row _ _ 0 _ _ _ h0)
  clear h0
  go_wp2_with (first
    | (go_at_call 38; (with_reducible refine (HI.out _ _ HW.out HC.out).mono ?_); rintro e w2 ⟨r, rfl, hr, hB⟩; have HR := Lib.hid hr; have HB := Lib.hid (HW.out.trans (hB.mono HW.out.size)); clear hr hB)
    | fail)
  go_ret
  exact ⟨r, rfl, HR.out, HB.out⟩
end Go.Proofs.YtcgpflkaejbkhaaGreatDoor
namespace Go.Proofs.YtcgpflkaejbkhaaGreatDoor
open Go.RowKit

structure Col where
  name : ByteArray
  ty : Int
  nn : Bool
def colL (c : Col) : List Value := [.string c.name, .int .i64 c.ty, .bool c.nn]
/-- columns that a slice reads as -/
def ColsAt (w : World) (A : Option Addr) (l : List Col) : Prop := CellsAt w 3 A (l.map colL)
def cnameAt (l : List Col) (nm : ByteArray) (j : Nat) : Bool := match l[j]? with | some t => sameN t.name nm | none => false
theorem CellsAt.take {w : World} {K : Nat} {A : Option Addr} {ls : List (List Value)} (h : CellsAt w K A ls) (n : Nat) : CellsAt w K A (ls.take n) := by
  refine ⟨Nat.le_trans (by rw [List.length_take]; exact Nat.min_le_right _ _) h.1, ?_⟩
  rcases h.2 with h0 | ⟨b, off, h1, h2, h3⟩
  · left; rw [h0]; simp
  · refine Or.inr ⟨b, off, h1, h2, fun j x hx => h3 j x ?_⟩
    rcases Nat.lt_or_ge j n with g | g
    · rwa [List.getElem?_take_of_lt g] at hx
    · rw [List.getElem?_take_eq_none g] at hx; cases hx
set_option maxRecDepth 100000 in
set_option maxHeartbeats 2000000 in
theorem same_col (t : Col) (b : Nat) (nm : ByteArray) (W : World) (h : W.cell? ⟨b, 0, none⟩ = some (.string nm)) : Calls Tryz.prog 46 (#[.agg (colL t).toArray] ++ #[.pointer (some ⟨b, 0, none⟩)]) W (RetV (.bool (sameN t.name nm)) W) := by
  obtain ⟨tn, ty, nn⟩ := t
  show Calls Tryz.prog 46 #[.agg #[.string tn, .int .i64 ty, .bool nn], .pointer (some ⟨b, 0, none⟩)] W (RetV (.bool (sameN tn nm)) W)
  have HB := Lib.hid (show (tn.toList == nm.toList) = sameN tn nm from rfl)
  have h2 := cell_kept h (below1 W (.cells #[.string tn, .int .i64 ty, .bool nn] 42))
  go_enter Tryz.func46, Tryz.ntmps46
  go_wp2_with fail
  go_ret
  exact ⟨ret_b HB.out, below1 W _⟩
set_option maxRecDepth 100000 in
set_option maxHeartbeats 2000000 in
theorem contains_col (A : Option Addr) (c : Nat) (l : List Col) (b : Nat) (nm : ByteArray) (w : World) (h : ColsAt w A l) (hb : w.cell? ⟨b, 0, none⟩ = some (.string nm)) : Calls Tryz.prog 45 #[.slice A l.length c, .func (.func 46) #[] #[.pointer (some ⟨b, 0, none⟩)]] w (RetV (.bool (l.any fun t => sameN t.name nm)) w) := by
  have HI := Lib.hid (show Calls Tryz.prog 43 #[.slice A l.length c, .func (.func 46) #[] #[.pointer (some ⟨b, 0, none⟩)]] w (FirstP (cnameAt l nm) l.length w) from by
    have h1 := index_col (cnameAt l nm) 46 #[.pointer (some ⟨b, 0, none⟩)] (Go.Proofs.enters_of Tryz.func46 (by kernel_rfl) rfl) A c (l.map colL) w h (fun j x hx W2 hB2 => by
      rw [List.getElem?_map, Option.map_eq_some_iff] at hx
      obtain ⟨t, ht, rfl⟩ := hx
      have e : cnameAt l nm j = sameN t.name nm := by unfold cnameAt; rw [ht]
      rw [e]
      exact same_col t b nm W2 (cell_kept hb hB2))
    rw [List.length_map] at h1
    exact h1)
  have HX := Lib.hid (show ∀ r : Int, FirstIs (cnameAt l nm) l.length r → decide (0 ≤ r) = l.any fun t => sameN t.name nm from fun r hr => by
    rcases hr with ⟨k, hk, rfl, hp, _⟩ | ⟨rfl, hp⟩
    · have : (l.any fun t => sameN t.name nm) = true := by
        rw [List.any_eq_true]
        refine ⟨l[k], List.getElem_mem hk, ?_⟩
        unfold cnameAt at hp
        rwa [List.getElem?_eq_getElem hk] at hp
      rw [this]; simp
    · have : (l.any fun t => sameN t.name nm) = false := by
        rw [List.any_eq_false]
        intro t ht
        obtain ⟨k, hk, rfl⟩ := List.mem_iff_getElem.1 ht
        have h := hp k hk
        unfold cnameAt at h
        rw [List.getElem?_eq_getElem hk] at h
        simpa using h
      rw [this]; rfl)
  generalize (l.any fun t => sameN t.name nm) = R at HX ⊢
  clear h
  go_enter Tryz.func45, Tryz.ntmps45
  go_wp2_with (first
    | (go_at_call 43; (with_reducible refine HI.out.mono ?_); rintro e w2 ⟨r, rfl, hr, hB⟩; have HR := Lib.hid hr; have HB := Lib.hid hB; clear hr hB)
    | fail)
  go_ret
  exact ⟨ret_b (HX.out r HR.out), HB.out⟩
/-- is a column none that may be? -/
def colBad (c : Col) : Bool := !nameB c.name.data.toList || decide (c.ty < 1) || decide (3 < c.ty)
/-- why columns may not be a table's, from a place on -/
def colsErr (l : List Col) : Nat → Nat → Int
  | 0, _ => 0
  | f + 1, k => match l[k]? with
    | none => 0
    | some c => if colBad c then 7 else if (l.take k).any (fun t => sameN t.name c.name) then 8 else colsErr l f (k + 1)
def colsR (l : List Col) : Int := if l = [] then 7 else if 6 < l.length then 11 else colsErr l (l.length + 1) 0
set_option maxRecDepth 100000 in
set_option maxHeartbeats 8000000 in
theorem columns_any (m : Int) (t : Nat → Nat) (ht : ∀ j, j < 23 → finD (Ieee.double.read (t j)) = true) (A : Option Addr) (c : Nat) (l : List Col) (w : World) (hG : Glob m t w) (h : ColsAt w A l) (hc : l.length ≤ c) : Calls Tryz.prog 20 #[.slice A l.length c] w (RetV (.int .i64 (colsR l)) w) := by
  have HG := Lib.hid hG
  have HNA := Lib.hid (fun s W g => name_any m t ht s W g)
  have HA := Lib.hid h
  have hlen := h.1
  unfold maxLen at hlen
  rw [List.length_map] at hlen
  clear hG ht h
  by_cases h0 : l.length = 0
  · have HE := Lib.hid (show colsR l = 7 by unfold colsR; rw [if_pos (List.length_eq_zero_iff.1 h0)])
    generalize colsR l = R at HE ⊢
    have hl : ((l.length : Nat) : Int) = 0 := by omega
    go_enter Tryz.func20, Tryz.ntmps20
    go_wp2_with fail
    go_ret
    exact ⟨by rw [HE.out]; rfl, Below.refl _ _⟩
  · have hl : (((l.length : Nat) : Int) == 0) = false := by rw [beq_eq_false_iff_ne]; omega
    by_cases h6 : 6 < l.length
    · have HE := Lib.hid (show colsR l = 11 by unfold colsR; rw [if_neg (fun h => h0 (by rw [h]; rfl)), if_pos h6])
      generalize colsR l = R at HE ⊢
      go_enter Tryz.func20, Tryz.ntmps20
      go_wp2_with fail
      go_ret
      exact ⟨by rw [HE.out]; rfl, Below.refl _ _⟩
    · have HE := Lib.hid (show colsR l = colsErr l (l.length + 1) 0 by unfold colsR; rw [if_neg (fun h => h0 (by rw [h]; rfl)), if_neg h6])
      generalize colsR l = R at HE ⊢
      obtain ⟨n, hn⟩ : ∃ n, n = l.length := ⟨_, rfl⟩
      have HN := Lib.hid hn
      rw [← hn] at HE hl hlen h0 h6 hc ⊢
      clear hn
      go_enter Tryz.func20, Tryz.ntmps20
      go_wp2_with fail
      go_loopw [13] (fun i wr => ∃ k : Nat, k ≤ n ∧ i = .int .i64 k ∧ Hid (Below w.heap.size w wr) ∧ Hid (R = colsErr l (n + 1 - k) k)) (fun i _ => n - (intOf i).toNat)
      case atStart => exact ⟨0, Nat.zero_le _, rfl, Lib.hid (Below.refl _ _), HE⟩
      case round =>
        obtain ⟨k, hk, rfl, HB, HR⟩ := hrel
        obtain ⟨wo, rfl⟩ : ∃ wo : World, wo = wr := ⟨_, rfl⟩
        by_cases hlt : k < n
        · obtain ⟨x, hx⟩ : ∃ x, l[k]? = some x := ⟨_, List.getElem?_eq_getElem (by have := HN.out; omega)⟩
          obtain ⟨b, off, rfl, hbl, hcells⟩ : ∃ b off, A = some ⟨b, off, none⟩ ∧ b < w.heap.size ∧ ∀ (i : Nat) (v : Value), (colL x)[i]? = some v → w.cell? ⟨b, off + k * 3 + i, none⟩ = some v := by
            rcases HA.out.2 with h0' | ⟨b, off, h1, h2, h3⟩
            · exfalso; have := HN.out; have := List.map_eq_nil_iff.1 h0'; subst this; simp at hx
            · exact ⟨b, off, h1, h2, (h3 k (colL x) (by rw [List.getElem?_map, hx]; rfl)).2⟩
          obtain ⟨xn, xt, xb⟩ := x
          have hcc : ∀ (i : Nat) (v : Value), [Value.string xn, .int .i64 xt, .bool xb][i]? = some v → wo.cell? ⟨b, off + k * 3 + i, none⟩ = some v := fun i v hi => (HB.out.cell (p := ⟨b, off + k * 3 + i, none⟩) hbl).trans (hcells i v hi)
          have k0 : wo.cell? ⟨b, off + k * 3, none⟩ = some (.string xn) := hcc 0 _ rfl
          have k1 : wo.cell? ⟨b, off + k * 3 + 1, none⟩ = some (.int .i64 xt) := hcc 1 _ rfl
          have k2 : wo.cell? ⟨b, off + k * 3 + 2, none⟩ = some (.bool xb) := hcc 2 _ rfl
          obtain ⟨nb, hnb⟩ : ∃ b, b = nameB xn.data.toList := ⟨_, rfl⟩
          have HNB := Lib.hid hnb
          have HNX := Lib.hid (HNA.out xn)
          rw [← hnb] at HNX
          have HST := Lib.hid (show R = if colBad ⟨xn, xt, xb⟩ then 7 else if (l.take k).any (fun t => sameN t.name xn) then 8 else colsErr l (n + 1 - (k + 1)) (k + 1) by
            rw [HR.out, show n + 1 - k = (n - k) + 1 by omega]
            conv => lhs; unfold colsErr
            rw [hx, show n + 1 - (k + 1) = n - k by omega])
          have HWA := Lib.hid (HB.out.alloc HB.out.size (.cells #[.string xn, .int .i64 xt, .bool xb] 42))
          have HQ := Lib.hid (heap_alloc_new wo (.cells #[.string xn, .int .i64 xt, .bool xb] 42))
          have hkc : k ≤ c := by omega
          have HTK := Lib.hid (show (l.take k).length = k by rw [List.length_take, ← HN.out]; omega)
          obtain ⟨cb, hcb⟩ : ∃ cb, cb = (l.take k).any (fun t => sameN t.name xn) := ⟨_, rfl⟩
          rw [← hcb] at HST
          have HCT := Lib.hid (show ∀ W, Below w.heap.size w W → W.cell? ⟨wo.heap.size, 0, none⟩ = some (.string xn) → Calls Tryz.prog 45 #[.slice (some ⟨b, off, none⟩) k c, .func (.func 46) #[] #[.pointer (some ⟨wo.heap.size, 0, none⟩)]] W (RetV (.bool cb) W) from fun W hB hb => by
            have h1 := contains_col (some ⟨b, off, none⟩) c (l.take k) wo.heap.size xn W (by unfold ColsAt; rw [List.map_take]; exact (CellsAt.keep hB HA.out).take k) hb
            rw [HTK.out, ← hcb] at h1
            exact h1)
          clear hx hcells hcc hnb hcb
          by_cases hbad : colBad ⟨xn, xt, xb⟩ = true
          · have HE0 := Lib.hid (show R = 7 by rw [HST.out, if_pos hbad])
            have hor : nb = false ∨ (nb = true ∧ xt < 1) ∨ (nb = true ∧ 1 ≤ xt ∧ 3 < xt) := by
              unfold colBad at hbad
              rw [show nameB xn.data.toList = nb from HNB.out.symm] at hbad
              simp only [Bool.or_eq_true, Bool.not_eq_true', decide_eq_true_iff] at hbad
              cases nb
              · exact Or.inl rfl
              · rcases hbad with (hbad | hbad) | hbad
                · cases hbad
                · exact Or.inr (Or.inl ⟨rfl, hbad⟩)
                · exact Or.inr (Or.inr ⟨rfl, by omega, hbad⟩)
            clear hbad
            rcases hor with rfl | ⟨rfl, h1⟩ | ⟨rfl, h1, h2⟩
            · go_wp2_with (first
                | (go_at_call 28; (with_reducible refine (HNX.out _ (HG.out.keep HWA.out)).mono ?_); rintro e w5 ⟨rfl, hB5⟩; have HW5 := Lib.hid (HWA.out.trans (hB5.mono HWA.out.size)); have hq := (hB5.block wo.heap.size (by simp)).trans HQ.out; have r0 := cell_of_row _ _ 0 _ _ _ hq; have r1 := cell_of_row _ _ 1 _ _ _ hq; have HR0 := Lib.hid (show w5.cell? ⟨wo.heap.size, 0, none⟩ = some (.string xn) from r0); clear hB5 hq)
                | fail)
              go_ret
              exact ⟨by rw [HE0.out]; rfl, HW5.out⟩
            · have h1' : (xt < 1) = True := eq_true h1
              go_wp2_with (first
                | (go_at_call 28; (with_reducible refine (HNX.out _ (HG.out.keep HWA.out)).mono ?_); rintro e w5 ⟨rfl, hB5⟩; have HW5 := Lib.hid (HWA.out.trans (hB5.mono HWA.out.size)); have hq := (hB5.block wo.heap.size (by simp)).trans HQ.out; have r0 := cell_of_row _ _ 0 _ _ _ hq; have r1 := cell_of_row _ _ 1 _ _ _ hq; have HR0 := Lib.hid (show w5.cell? ⟨wo.heap.size, 0, none⟩ = some (.string xn) from r0); clear hB5 hq)
                | fail)
              go_ret
              exact ⟨by rw [HE0.out]; rfl, HW5.out⟩
            · have h1' : (xt < 1) = False := eq_false (by omega)
              have h2' : (3 < xt) = True := eq_true h2
              go_wp2_with (first
                | (go_at_call 28; (with_reducible refine (HNX.out _ (HG.out.keep HWA.out)).mono ?_); rintro e w5 ⟨rfl, hB5⟩; have HW5 := Lib.hid (HWA.out.trans (hB5.mono HWA.out.size)); have hq := (hB5.block wo.heap.size (by simp)).trans HQ.out; have r0 := cell_of_row _ _ 0 _ _ _ hq; have r1 := cell_of_row _ _ 1 _ _ _ hq; have HR0 := Lib.hid (show w5.cell? ⟨wo.heap.size, 0, none⟩ = some (.string xn) from r0); clear hB5 hq)
                | fail)
              go_ret
              exact ⟨by rw [HE0.out]; rfl, HW5.out⟩
          · have hor : nb = true ∧ (xt < 1) = False ∧ (3 < xt) = False := by
              unfold colBad at hbad
              rw [show nameB xn.data.toList = nb from HNB.out.symm] at hbad
              simp only [Bool.or_eq_true, Bool.not_eq_true', decide_eq_true_iff] at hbad
              cases nb
              · exact absurd (Or.inl (Or.inl rfl)) hbad
              · exact ⟨rfl, eq_false (fun h => hbad (Or.inl (Or.inr h))), eq_false (fun h => hbad (Or.inr h))⟩
            obtain ⟨rfl, h1', h2'⟩ := hor
            cases cb with
            | true =>
              have HE0 := Lib.hid (show R = 8 by rw [HST.out, if_neg hbad, if_pos rfl])
              clear hbad
              go_wp2_with (first
                | (go_at_call 28; (with_reducible refine (HNX.out _ (HG.out.keep HWA.out)).mono ?_); rintro e w5 ⟨rfl, hB5⟩; have HW5 := Lib.hid (HWA.out.trans (hB5.mono HWA.out.size)); have hq := (hB5.block wo.heap.size (by simp)).trans HQ.out; have r0 := cell_of_row _ _ 0 _ _ _ hq; have r1 := cell_of_row _ _ 1 _ _ _ hq; have HR0 := Lib.hid (show w5.cell? ⟨wo.heap.size, 0, none⟩ = some (.string xn) from r0); clear hB5 hq)
                | (go_at_call 45; (with_reducible refine (HCT.out _ HW5.out HR0.out).mono ?_); rintro e w6 ⟨rfl, hB6⟩; have HW6 := Lib.hid (HW5.out.trans (hB6.mono HW5.out.size)); clear hB6)
                | fail)
              go_ret
              exact ⟨by rw [HE0.out]; rfl, HW6.out⟩
            | false =>
              have HE0 := Lib.hid (show R = colsErr l (n + 1 - (k + 1)) (k + 1) by rw [HST.out, if_neg hbad, if_neg (by decide)])
              clear hbad
              go_wp2_with (first
                | (go_at_call 28; (with_reducible refine (HNX.out _ (HG.out.keep HWA.out)).mono ?_); rintro e w5 ⟨rfl, hB5⟩; have HW5 := Lib.hid (HWA.out.trans (hB5.mono HWA.out.size)); have hq := (hB5.block wo.heap.size (by simp)).trans HQ.out; have r0 := cell_of_row _ _ 0 _ _ _ hq; have r1 := cell_of_row _ _ 1 _ _ _ hq; have HR0 := Lib.hid (show w5.cell? ⟨wo.heap.size, 0, none⟩ = some (.string xn) from r0); clear hB5 hq)
                | (go_at_call 45; (with_reducible refine (HCT.out _ HW5.out HR0.out).mono ?_); rintro e w6 ⟨rfl, hB6⟩; have HW6 := Lib.hid (HW5.out.trans (hB6.mono HW5.out.size)); clear hB6)
                | fail)
              go_roundw
              case rel => exact ⟨k + 1, by omega, by go_num, HW6, HE0⟩
              case measure => simp [intOf] <;> omega
        · have HE0 := Lib.hid (show R = 0 by
            rw [HR.out, show n + 1 - k = (n - k) + 1 by omega]
            unfold colsErr
            rw [List.getElem?_eq_none (by have := HN.out; omega)])
          go_wp2_with fail
          go_ret
          exact ⟨by rw [HE0.out]; rfl, HB.out⟩
end Go.Proofs.YtcgpflkaejbkhaaGreatDoor
