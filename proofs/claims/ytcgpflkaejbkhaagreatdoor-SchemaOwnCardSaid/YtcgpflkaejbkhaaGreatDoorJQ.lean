/- What some functions of the library answer, laid at this program: each a single application of the library's own contract. The walks of slices.IndexFunc over indexes, of Index and Column; of the document's Table, Index, Column. The walk of the document's Columns. -/
import Derived.Shelf.Slices.Clone
import Derived.Shelf.Slices.Turned
import Derived.Ground.Names2Prog
import Derived.Ground.SlgnProg
import Derived.Shelf.SlicesE.Clone
import Derived.Test.YtcgpflkaejbkhaaGreatDoorProg
import Derived.Test.YtcgpflkaejbkhaaGreatDoorJP
namespace Go.Proofs
open Go.Shelf
def Tryz.lays107_ren : Go.Shelf.Ren := ⟨fun | 107 => 48 | 108 => 71 | n => n, fun | 28 => 26 | 3 => 3 | 4 => 4 | 0 => 0 | n => n, fun | n => n⟩
theorem Tryz.lays107 : Go.Proofs.Lays.n107 Tryz.prog Tryz.lays107_ren := {
  mixed := by kernel_rfl
  f107 := Tryz.func48.trans (congrArg some (by kernel_rfl))
  f108 := Tryz.func71.trans (congrArg some (by kernel_rfl))
  t0 := Tryz.underlying0
  a0 := Tryz.isAgg0
  z0 := Tryz.sizeOf0
  v0 := Tryz.zeroValue0
  t3 := Tryz.underlying3
  a3 := Tryz.isAgg3
  z3 := Tryz.sizeOf3
  v3 := Tryz.zeroValue3
  t4 := Tryz.underlying4
  a4 := Tryz.isAgg4
  z4 := Tryz.sizeOf4
  v4 := Tryz.zeroValue4
  t28 := Tryz.underlying26
  a28 := Tryz.isAgg26
  z28 := Tryz.sizeOf26
  v28 := Tryz.zeroValue26 }
open Go.Lib in
theorem Tryz.slices_Contains_int (b off n c : Nat) (zs : List Int) (x : Int) (w : World) (hz : n ≤ zs.length) (hbig : n ≤ 9223372036854775807) (hc : ∀ j, j < zs.length → w.cell? ⟨b, off + j, none⟩ = some (.int .i64 (zs.getD j 0))) :
    Calls Tryz.prog 48 #[.slice (some ⟨b, off, none⟩) n c, .int .i64 x] w fun e w' => e = .returned (.bool ((zs.take n).contains x)) ∧ w' = w := Any.slices_Contains_int Tryz.lays107 b off n c zs x w hz hbig hc
open Go.Lib in
theorem Tryz.slices_Contains_int_empty (a : Option Addr) (c : Nat) (x : Int) (w : World) :
    Calls Tryz.prog 48 #[.slice a 0 c, .int .i64 x] w fun e w' => e = .returned (.bool false) ∧ w' = w := Any.slices_Contains_int_empty Tryz.lays107 a c x w
def Tryz.laysNm215_ren : Go.Shelf.Ren := ⟨fun | 15 => 69 | n => n, fun | 22 => 26 | 3 => 3 | 4 => 4 | n => n, fun | n => n⟩
theorem Tryz.laysNm215 : Go.Proofs.Lays2.n15 Tryz.prog Tryz.laysNm215_ren := {
  mixed := by kernel_rfl
  f15 := Tryz.func69.trans (congrArg some (by kernel_rfl))
  t3 := Tryz.underlying3
  a3 := Tryz.isAgg3
  z3 := Tryz.sizeOf3
  v3 := Tryz.zeroValue3
  t4 := Tryz.underlying4
  a4 := Tryz.isAgg4
  z4 := Tryz.sizeOf4
  v4 := Tryz.zeroValue4
  t22 := Tryz.underlying26
  a22 := Tryz.isAgg26
  z22 := Tryz.sizeOf26
  v22 := Tryz.zeroValue26
  i3 := by kernel_rfl }
open Go.RowKit Go.Lib in
theorem Tryz.slices_Clone_int (b off n c : Nat) (zs : List Int) (w : World) (hz : n ≤ zs.length) (hbig : n * 8 ≤ 140737488355328) (hc : ∀ j, j < zs.length → w.cell? ⟨b, off + j, none⟩ = some (.int .i64 (zs.getD j 0))) :
    Calls Tryz.prog 69 #[.slice (some ⟨b, off, none⟩) n c] w fun e w' => ∃ v', e = .returned v' ∧ w'.ownsRow w.heap.size 3 1 v' n ((zs.take n).map (Value.int .i64)) ∧ v' ≠ .slice none 0 0 ∧ Below w.heap.size w w' := Any.slices_Clone_int Tryz.laysNm215 b off n c zs w hz hbig hc
open Go.RowKit Go.Lib in
theorem Tryz.slices_Clone_int_nil (n c : Nat) (w : World) :
    Calls Tryz.prog 69 #[.slice none n c] w fun e w' => e = .returned (.slice none 0 0) ∧ w' = w := Any.slices_Clone_int_nil Tryz.laysNm215 n c w
open Go.RowKit Go.Lib in
theorem Tryz.slices_Clone_int_zero (a : Addr) (c : Nat) (w : World) :
    Calls Tryz.prog 69 #[.slice (some a) 0 c] w fun e w' => ∃ v', e = .returned v' ∧ w'.ownsRow w.heap.size 3 1 v' 0 [] ∧ v' ≠ .slice none 0 0 ∧ Below w.heap.size w w' := Any.slices_Clone_int_zero Tryz.laysNm215 a c w
end Go.Proofs
namespace Go.Proofs.YtcgpflkaejbkhaaGreatDoor
open Go.RowKit

theorem FirstIs.uniq {P : Nat → Bool} {n : Nat} {r s : Int} (h : FirstIs P n r) (k : FirstIs P n s) : r = s := by
  rcases h with ⟨a, ha, rfl, hp, hq⟩ | ⟨rfl, hp⟩ <;> rcases k with ⟨b, hb, rfl, kp, kq⟩ | ⟨rfl, kp⟩
  · rcases Nat.lt_trichotomy a b with h | h | h
    · rw [kq a h] at hp; cases hp
    · rw [h]
    · rw [hq b h] at kp; cases kp
  · rw [kp a ha] at hp; cases hp
  · rw [hp b hb] at kp; cases kp
  · rfl
/-- an index's six cells; its places are a slice that is not looked into -/
structure Idx where
  name : ByteArray
  table : ByteArray
  pa : Option Addr
  pn : Nat
  pc : Nat
  state : Int
  root : Int
  cursor : Int
def idxL (x : Idx) : List Value := [.string x.name, .string x.table, .slice x.pa x.pn x.pc, .int .i64 x.state, .int .i64 x.root, .int .i64 x.cursor]
/-- indexes that a slice reads as -/
def IdxsAt (w : World) (A : Option Addr) (l : List Idx) : Prop := CellsAt w 6 A (l.map idxL)
def inameAt (l : List Idx) (nm : ByteArray) (j : Nat) : Bool := match l[j]? with | some t => sameN t.name nm | none => false

theorem list6 {x : List Value} (h : x.length = 6) : ∃ v0 v1 v2 v3 v4 v5, x = [v0, v1, v2, v3, v4, v5] := by
  match x, h with
  | [v0, v1, v2, v3, v4, v5], _ => exact ⟨v0, v1, v2, v3, v4, v5, rfl⟩
set_option maxHeartbeats 2000000 in
theorem index_idx (P : Nat → Bool) (g : Nat) (lb : Array Value) (eg : ∀ args w, (callFunc g args).run Tryz.prog w = .ok (.enter g args) w) (A : Option Addr) (c : Nat) (ls : List (List Value)) (w : World) (hc : CellsAt w 6 A ls)
    (hp : ∀ (j : Nat) (x : List Value), ls[j]? = some x → ∀ W, Below w.heap.size w W → Calls Tryz.prog g (#[.agg x.toArray] ++ lb) W (RetV (.bool (P j)) W)) :
    Calls Tryz.prog 40 #[.slice A ls.length c, .func (.func g) #[] lb] w (FirstP P ls.length w) := by
  obtain ⟨n, hn⟩ : ∃ n, n = ls.length := ⟨_, rfl⟩
  have hs : n ≤ maxLen := by rw [hn]; exact hc.1
  unfold maxLen at hs
  have H := Lib.hid hc.2
  have HP := Lib.hid hp
  rw [← hn]
  have HN := Lib.hid hn
  clear hc hp hn
  go_enter Tryz.func40, Tryz.ntmps40
  go_wp2_with fail
  go_loopw [8] (fun i wr => ∃ k : Nat, k ≤ n ∧ i = .int .i64 k ∧ Below w.heap.size w wr ∧ Hid (∀ j, j < k → P j = false)) (fun i _ => n - (intOf i).toNat)
  case atStart => exact ⟨0, Nat.zero_le _, rfl, Below.refl _ _, Lib.hid (fun j hj => absurd hj (Nat.not_lt_zero _))⟩
  case round =>
    obtain ⟨k, hk, rfl, hB, HC⟩ := hrel
    obtain ⟨wo, rfl⟩ : ∃ wo : World, wo = wr := ⟨_, rfl⟩
    have HB := Lib.hid hB
    clear hB
    by_cases hlt : k < n
    · rcases H.out with h0 | ⟨b, off, rfl, hbl, hc⟩
      · exfalso; have := HN.out; rw [h0] at this; simp at this; omega
      · obtain ⟨x, hx⟩ : ∃ x, ls[k]? = some x := ⟨_, List.getElem?_eq_getElem (by have := HN.out; omega)⟩
        have HK := hc k x hx
        obtain ⟨v0, v1, v2, v3, v4, v5, rfl⟩ := list6 HK.1
        have hcc : ∀ (i : Nat) (v : Value), [v0, v1, v2, v3, v4, v5][i]? = some v → wo.cell? ⟨b, off + k * 6 + i, none⟩ = some v := fun i v hi => (HB.out.cell (p := ⟨b, off + k * 6 + i, none⟩) hbl).trans (HK.2 i v hi)
        have k0 : wo.cell? ⟨b, off + k * 6, none⟩ = some v0 := hcc 0 v0 rfl
        have k1 : wo.cell? ⟨b, off + k * 6 + 1, none⟩ = some v1 := hcc 1 v1 rfl
        have k2 : wo.cell? ⟨b, off + k * 6 + 2, none⟩ = some v2 := hcc 2 v2 rfl
        have k3 : wo.cell? ⟨b, off + k * 6 + 3, none⟩ = some v3 := hcc 3 v3 rfl
        have k4 : wo.cell? ⟨b, off + k * 6 + 4, none⟩ = some v4 := hcc 4 v4 rfl
        have k5 : wo.cell? ⟨b, off + k * 6 + 5, none⟩ = some v5 := hcc 5 v5 rfl
        clear hcc HK
        have HCC := Lib.hid (HP.out k _ hx wo HB.out)
        clear hx hc
        cases hq : P k with
        | true =>
          rw [hq] at HCC
          have HR := Lib.hid (show FirstIs P n k from Or.inl ⟨k, hlt, rfl, hq, HC.out⟩)
          clear hq
          go_wp2_with (first
            | (go_at_fn g; (with_reducible refine HCC.out.mono ?_); rintro e w2 ⟨rfl, hB2⟩)
            | fail)
          go_ret
          exact ⟨k, rfl, HR.out, HB.out.trans (hB2.mono HB.out.size)⟩
        | false =>
          rw [hq] at HCC
          have HD := Lib.hid (show ∀ j, j < k + 1 → P j = false from fun j hj => by
            by_cases e : j = k
            · rw [e]; exact hq
            · exact HC.out j (by omega))
          clear hq
          go_wp2_with (first
            | (go_at_fn g; (with_reducible refine HCC.out.mono ?_); rintro e w2 ⟨rfl, hB2⟩)
            | fail)
          go_roundw
          case rel => exact ⟨k + 1, by omega, by go_num, HB.out.trans (hB2.mono HB.out.size), HD⟩
          case measure => simp [intOf] <;> omega
    · have HR := Lib.hid (show FirstIs P n (-1) from Or.inr ⟨rfl, fun j hj => HC.out j (by omega)⟩)
      go_wp2_with fail
      go_ret
      exact ⟨-1, rfl, HR.out, HB.out⟩
set_option maxRecDepth 100000 in
set_option maxHeartbeats 2000000 in
theorem same_idx (t : Idx) (b : Nat) (nm : ByteArray) (W : World) (h : W.cell? ⟨b, 0, none⟩ = some (.string nm)) : Calls Tryz.prog 41 (#[.agg (idxL t).toArray] ++ #[.pointer (some ⟨b, 0, none⟩)]) W (RetV (.bool (sameN t.name nm)) W) := by
  obtain ⟨tn, tt, ta, tl, tc, tr, tx, ts⟩ := t
  show Calls Tryz.prog 41 #[.agg #[.string tn, .string tt, .slice ta tl tc, .int .i64 tr, .int .i64 tx, .int .i64 ts], .pointer (some ⟨b, 0, none⟩)] W (RetV (.bool (sameN tn nm)) W)
  have HB := Lib.hid (show (tn.toList == nm.toList) = sameN tn nm from rfl)
  have h2 := cell_kept h (below1 W (.cells #[.string tn, .string tt, .slice ta tl tc, .int .i64 tr, .int .i64 tx, .int .i64 ts] 28))
  go_enter Tryz.func41, Tryz.ntmps41
  go_wp2_with fail
  go_ret
  exact ⟨ret_b HB.out, below1 W _⟩
set_option maxRecDepth 100000 in
set_option maxHeartbeats 2000000 in
theorem index_any (A : Option Addr) (c : Nat) (l : List Idx) (ta : Option Addr) (tl tc : Nat) (nm : ByteArray) (w : World) (h : IdxsAt w A l) : Calls Tryz.prog 14 #[.agg #[.slice ta tl tc, .slice A l.length c], .string nm] w (FirstP (inameAt l nm) l.length w) := by
  have HI := Lib.hid (show ∀ (b : Nat) (W : World), Below w.heap.size w W → W.cell? ⟨b, 0, none⟩ = some (.string nm) → Calls Tryz.prog 40 #[.slice A l.length c, .func (.func 41) #[] #[.pointer (some ⟨b, 0, none⟩)]] W (FirstP (inameAt l nm) l.length W) from fun b W hB hb => by
    have h1 := index_idx (inameAt l nm) 41 #[.pointer (some ⟨b, 0, none⟩)] (Go.Proofs.enters_of Tryz.func41 (by kernel_rfl) rfl) A c (l.map idxL) W (CellsAt.keep hB h) (fun j x hx W2 hB2 => by
      rw [List.getElem?_map, Option.map_eq_some_iff] at hx
      obtain ⟨t, ht, rfl⟩ := hx
      have e : inameAt l nm j = sameN t.name nm := by unfold inameAt; rw [ht]
      rw [e]
      exact same_idx t b nm W2 (cell_kept hb hB2))
    rw [List.length_map] at h1
    exact h1)
  clear h
  go_enter Tryz.func14, Tryz.ntmps14
  have HW := Lib.hid (show Below w.heap.size w ((w.alloc (.cells #[.slice ta tl tc, .slice A l.length c] 36)).alloc (.cells #[.string nm] 9)) from (below1 w _).alloc (by simp) _)
  have h0 := heap_alloc_new (w.alloc (.cells #[.slice ta tl tc, .slice A l.length c] 36)) (.cells #[.string nm] 9)
  rw [World.size_alloc] at h0
  have HC := Lib.hid (cell_of_row _ _ 0 _ _ _ h0)
  clear h0
  go_wp2_with (first
    | (go_at_call 40; (with_reducible refine (HI.out _ _ HW.out HC.out).mono ?_); rintro e w2 ⟨r, rfl, hr, hB⟩; have HR := Lib.hid hr; have HB := Lib.hid (HW.out.trans (hB.mono HW.out.size)); clear hr hB)
    | fail)
  go_ret
  exact ⟨r, rfl, HR.out, HB.out⟩
set_option maxRecDepth 100000 in
set_option maxHeartbeats 2000000 in
theorem same_col2 (t : Col) (b : Nat) (nm : ByteArray) (W : World) (h : W.cell? ⟨b, 0, none⟩ = some (.string nm)) : Calls Tryz.prog 44 (#[.agg (colL t).toArray] ++ #[.pointer (some ⟨b, 0, none⟩)]) W (RetV (.bool (sameN t.name nm)) W) := by
  obtain ⟨tn, ty, nn⟩ := t
  show Calls Tryz.prog 44 #[.agg #[.string tn, .int .i64 ty, .bool nn], .pointer (some ⟨b, 0, none⟩)] W (RetV (.bool (sameN tn nm)) W)
  have HB := Lib.hid (show (tn.toList == nm.toList) = sameN tn nm from rfl)
  have h2 := cell_kept h (below1 W (.cells #[.string tn, .int .i64 ty, .bool nn] 42))
  go_enter Tryz.func44, Tryz.ntmps44
  go_wp2_with fail
  go_ret
  exact ⟨ret_b HB.out, below1 W _⟩
set_option maxRecDepth 100000 in
set_option maxHeartbeats 2000000 in
theorem column_any (A : Option Addr) (c : Nat) (l : List Col) (tn : ByteArray) (tr tx tw : Int) (nm : ByteArray) (w : World) (h : ColsAt w A l) : Calls Tryz.prog 18 #[.agg #[.string tn, .slice A l.length c, .int .i64 tr, .int .i64 tx, .int .i64 tw], .string nm] w (FirstP (cnameAt l nm) l.length w) := by
  have HI := Lib.hid (show ∀ (b : Nat) (W : World), Below w.heap.size w W → W.cell? ⟨b, 0, none⟩ = some (.string nm) → Calls Tryz.prog 43 #[.slice A l.length c, .func (.func 44) #[] #[.pointer (some ⟨b, 0, none⟩)]] W (FirstP (cnameAt l nm) l.length W) from fun b W hB hb => by
    have h1 := index_col (cnameAt l nm) 44 #[.pointer (some ⟨b, 0, none⟩)] (Go.Proofs.enters_of Tryz.func44 (by kernel_rfl) rfl) A c (l.map colL) W (CellsAt.keep hB h) (fun j x hx W2 hB2 => by
      rw [List.getElem?_map, Option.map_eq_some_iff] at hx
      obtain ⟨t, ht, rfl⟩ := hx
      have e : cnameAt l nm j = sameN t.name nm := by unfold cnameAt; rw [ht]
      rw [e]
      exact same_col2 t b nm W2 (cell_kept hb hB2))
    rw [List.length_map] at h1
    exact h1)
  clear h
  go_enter Tryz.func18, Tryz.ntmps18
  have HW := Lib.hid (show Below w.heap.size w ((w.alloc (.cells #[.string tn, .slice A l.length c, .int .i64 tr, .int .i64 tx, .int .i64 tw] 25)).alloc (.cells #[.string nm] 9)) from (below1 w _).alloc (by simp) _)
  have h0 := heap_alloc_new (w.alloc (.cells #[.string tn, .slice A l.length c, .int .i64 tr, .int .i64 tx, .int .i64 tw] 25)) (.cells #[.string nm] 9)
  rw [World.size_alloc] at h0
  have HC := Lib.hid (cell_of_row _ _ 0 _ _ _ h0)
  clear h0
  go_wp2_with (first
    | (go_at_call 43; (with_reducible refine (HI.out _ _ HW.out HC.out).mono ?_); rintro e w2 ⟨r, rfl, hr, hB⟩; have HR := Lib.hid hr; have HB := Lib.hid (HW.out.trans (hB.mono HW.out.size)); clear hr hB)
    | fail)
  go_ret
  exact ⟨r, rfl, HR.out, HB.out⟩
set_option maxRecDepth 100000 in
set_option maxHeartbeats 4000000 in
theorem rtable_any (A : Option Addr) (c : Nat) (l : List Tab) (ia : Option Addr) (il ic : Nat) (nm : ByteArray) (w : World) (h : TabsAt w A l) : Calls Tryz.prog 13 #[.agg #[.slice A l.length c, .slice ia il ic], .string nm] w (FirstP (nameAt l nm) l.length w) := by
  obtain ⟨n, hn⟩ : ∃ n, n = l.length := ⟨_, rfl⟩
  have hs := h.1
  rw [List.length_map, ← hn] at hs
  unfold maxLen at hs
  have H := Lib.hid h
  have HN := Lib.hid hn
  rw [← hn]
  clear h hn
  have hq := heap_alloc_new w (.cells #[.slice A n c, .slice ia il ic] 36)
  have q := cell_of_row _ _ 0 _ _ _ hq
  have HB := Lib.hid (below1 w (.cells #[.slice A n c, .slice ia il ic] 36))
  clear hq
  go_enter Tryz.func13, Tryz.ntmps13
  go_wp2_with fail
  go_loop [5] (fun i => ∃ k : Nat, k ≤ n ∧ i = .int .i64 k ∧ Hid (∀ j, j < k → nameAt l nm j = false)) (fun i => n - (intOf i).toNat)
  case atStart => exact ⟨0, Nat.zero_le _, rfl, Lib.hid (fun j hj => absurd hj (Nat.not_lt_zero _))⟩
  case round =>
    obtain ⟨k, hk, rfl, HC⟩ := hrel
    by_cases hlt : k < n
    · obtain ⟨x, hx⟩ : ∃ x, l[k]? = some x := ⟨_, List.getElem?_eq_getElem (by have := HN.out; omega)⟩
      rcases H.out.2 with h0 | ⟨b, off, rfl, hbl, hc⟩
      · exfalso
        have := List.map_eq_nil_iff.1 h0
        subst this
        simp at hx
      · have hcell := (HB.out.cell (p := ⟨b, off + k * 5 + 0, none⟩) hbl).trans ((hc k (tabL x) (by rw [List.getElem?_map, hx]; rfl)).2 0 (.string x.name) rfl)
        rw [Nat.add_zero] at hcell
        have HE := Lib.hid (show nameAt l nm k = (x.name.toList == nm.toList) by unfold nameAt sameN; rw [hx])
        generalize x.name = xn at hcell HE
        clear hx hc
        cases hq : (xn.toList == nm.toList) with
        | true =>
          have HR := Lib.hid (show FirstIs (nameAt l nm) n k from Or.inl ⟨k, hlt, rfl, HE.out.trans hq, HC.out⟩)
          go_wp2_with fail
          go_ret
          exact ⟨k, rfl, HR.out, HB.out⟩
        | false =>
          have HD := Lib.hid (show ∀ j, j < k + 1 → nameAt l nm j = false from fun j hj => by
            by_cases e : j = k
            · rw [e]; exact HE.out.trans hq
            · exact HC.out j (by omega))
          go_wp2_with fail
          go_round
          case rel => exact ⟨k + 1, by omega, by go_num, HD⟩
          case measure => simp [intOf] <;> omega
    · have HR := Lib.hid (show FirstIs (nameAt l nm) n (-1) from Or.inr ⟨rfl, fun j hj => HC.out j (by omega)⟩)
      go_wp2_with fail
      go_ret
      exact ⟨-1, rfl, HR.out, HB.out⟩
set_option maxRecDepth 100000 in
set_option maxHeartbeats 4000000 in
theorem rindex_any (A : Option Addr) (c : Nat) (l : List Idx) (ta : Option Addr) (tl tc : Nat) (nm : ByteArray) (w : World) (h : IdxsAt w A l) : Calls Tryz.prog 15 #[.agg #[.slice ta tl tc, .slice A l.length c], .string nm] w (FirstP (inameAt l nm) l.length w) := by
  obtain ⟨n, hn⟩ : ∃ n, n = l.length := ⟨_, rfl⟩
  have hs := h.1
  rw [List.length_map, ← hn] at hs
  unfold maxLen at hs
  have H := Lib.hid h
  have HN := Lib.hid hn
  rw [← hn]
  clear h hn
  have hq := heap_alloc_new w (.cells #[.slice ta tl tc, .slice A n c] 36)
  have q := cell_of_row _ _ 1 _ _ _ hq
  have HB := Lib.hid (below1 w (.cells #[.slice ta tl tc, .slice A n c] 36))
  clear hq
  go_enter Tryz.func15, Tryz.ntmps15
  go_wp2_with fail
  go_loop [5] (fun i => ∃ k : Nat, k ≤ n ∧ i = .int .i64 k ∧ Hid (∀ j, j < k → inameAt l nm j = false)) (fun i => n - (intOf i).toNat)
  case atStart => exact ⟨0, Nat.zero_le _, rfl, Lib.hid (fun j hj => absurd hj (Nat.not_lt_zero _))⟩
  case round =>
    obtain ⟨k, hk, rfl, HC⟩ := hrel
    by_cases hlt : k < n
    · obtain ⟨x, hx⟩ : ∃ x, l[k]? = some x := ⟨_, List.getElem?_eq_getElem (by have := HN.out; omega)⟩
      rcases H.out.2 with h0 | ⟨b, off, rfl, hbl, hc⟩
      · exfalso
        have := List.map_eq_nil_iff.1 h0
        subst this
        simp at hx
      · have hcell := (HB.out.cell (p := ⟨b, off + k * 6 + 0, none⟩) hbl).trans ((hc k (idxL x) (by rw [List.getElem?_map, hx]; rfl)).2 0 (.string x.name) rfl)
        rw [Nat.add_zero] at hcell
        have HE := Lib.hid (show inameAt l nm k = (x.name.toList == nm.toList) by unfold inameAt sameN; rw [hx])
        generalize x.name = xn at hcell HE
        clear hx hc
        cases hq : (xn.toList == nm.toList) with
        | true =>
          have HR := Lib.hid (show FirstIs (inameAt l nm) n k from Or.inl ⟨k, hlt, rfl, HE.out.trans hq, HC.out⟩)
          go_wp2_with fail
          go_ret
          exact ⟨k, rfl, HR.out, HB.out⟩
        | false =>
          have HD := Lib.hid (show ∀ j, j < k + 1 → inameAt l nm j = false from fun j hj => by
            by_cases e : j = k
            · rw [e]; exact HE.out.trans hq
            · exact HC.out j (by omega))
          go_wp2_with fail
          go_round
          case rel => exact ⟨k + 1, by omega, by go_num, HD⟩
          case measure => simp [intOf] <;> omega
    · have HR := Lib.hid (show FirstIs (inameAt l nm) n (-1) from Or.inr ⟨rfl, fun j hj => HC.out j (by omega)⟩)
      go_wp2_with fail
      go_ret
      exact ⟨-1, rfl, HR.out, HB.out⟩
set_option maxRecDepth 100000 in
set_option maxHeartbeats 4000000 in
theorem rcolumn_any (A : Option Addr) (c : Nat) (l : List Col) (tn : ByteArray) (tr tx tw : Int) (nm : ByteArray) (w : World) (h : ColsAt w A l) : Calls Tryz.prog 19 #[.agg #[.string tn, .slice A l.length c, .int .i64 tr, .int .i64 tx, .int .i64 tw], .string nm] w (FirstP (cnameAt l nm) l.length w) := by
  obtain ⟨n, hn⟩ : ∃ n, n = l.length := ⟨_, rfl⟩
  have hs := h.1
  rw [List.length_map, ← hn] at hs
  unfold maxLen at hs
  have H := Lib.hid h
  have HN := Lib.hid hn
  rw [← hn]
  clear h hn
  have hq := heap_alloc_new w (.cells #[.string tn, .slice A n c, .int .i64 tr, .int .i64 tx, .int .i64 tw] 25)
  have q := cell_of_row _ _ 1 _ _ _ hq
  have HB := Lib.hid (below1 w (.cells #[.string tn, .slice A n c, .int .i64 tr, .int .i64 tx, .int .i64 tw] 25))
  clear hq
  go_enter Tryz.func19, Tryz.ntmps19
  go_wp2_with fail
  go_loop [5] (fun i => ∃ k : Nat, k ≤ n ∧ i = .int .i64 k ∧ Hid (∀ j, j < k → cnameAt l nm j = false)) (fun i => n - (intOf i).toNat)
  case atStart => exact ⟨0, Nat.zero_le _, rfl, Lib.hid (fun j hj => absurd hj (Nat.not_lt_zero _))⟩
  case round =>
    obtain ⟨k, hk, rfl, HC⟩ := hrel
    by_cases hlt : k < n
    · obtain ⟨x, hx⟩ : ∃ x, l[k]? = some x := ⟨_, List.getElem?_eq_getElem (by have := HN.out; omega)⟩
      rcases H.out.2 with h0 | ⟨b, off, rfl, hbl, hc⟩
      · exfalso
        have := List.map_eq_nil_iff.1 h0
        subst this
        simp at hx
      · have hcell := (HB.out.cell (p := ⟨b, off + k * 3 + 0, none⟩) hbl).trans ((hc k (colL x) (by rw [List.getElem?_map, hx]; rfl)).2 0 (.string x.name) rfl)
        rw [Nat.add_zero] at hcell
        have HE := Lib.hid (show cnameAt l nm k = (x.name.toList == nm.toList) by unfold cnameAt sameN; rw [hx])
        generalize x.name = xn at hcell HE
        clear hx hc
        cases hq : (xn.toList == nm.toList) with
        | true =>
          have HR := Lib.hid (show FirstIs (cnameAt l nm) n k from Or.inl ⟨k, hlt, rfl, HE.out.trans hq, HC.out⟩)
          go_wp2_with fail
          go_ret
          exact ⟨k, rfl, HR.out, HB.out⟩
        | false =>
          have HD := Lib.hid (show ∀ j, j < k + 1 → cnameAt l nm j = false from fun j hj => by
            by_cases e : j = k
            · rw [e]; exact HE.out.trans hq
            · exact HC.out j (by omega))
          go_wp2_with fail
          go_round
          case rel => exact ⟨k + 1, by omega, by go_num, HD⟩
          case measure => simp [intOf] <;> omega
    · have HR := Lib.hid (show FirstIs (cnameAt l nm) n (-1) from Or.inr ⟨rfl, fun j hj => HC.out j (by omega)⟩)
      go_wp2_with fail
      go_ret
      exact ⟨-1, rfl, HR.out, HB.out⟩
end Go.Proofs.YtcgpflkaejbkhaaGreatDoor
namespace Go.Proofs.YtcgpflkaejbkhaaGreatDoor
open Go.RowKit

theorem first_ahead {l : List Col} {nm : ByteArray} {k : Nat} {x : Col} (hx : l[k]? = some x) (hn : x.name = nm) {r : Int} (h : FirstIs (cnameAt l nm) l.length r) : decide (r < (k : Int)) = (l.take k).any (fun t => sameN t.name nm) := by
  have hk := (List.getElem?_eq_some_iff.1 hx).1
  have hP : ∀ j (hj : j < l.length), cnameAt l nm j = sameN l[j].name nm := fun j hj => by unfold cnameAt; rw [List.getElem?_eq_getElem hj]
  have hPk : cnameAt l nm k = true := by
    unfold cnameAt
    rw [hx]
    show sameN x.name nm = true
    rw [hn]; exact same_refl _
  rcases h with ⟨a, ha, rfl, hp, hq⟩ | ⟨rfl, hp⟩
  · by_cases hak : a < k
    · have : ((l.take k).any fun t => sameN t.name nm) = true := by
        rw [List.any_eq_true]
        refine ⟨l[a], ?_, by rw [← hP a ha]; exact hp⟩
        rw [List.mem_take_iff_getElem]
        exact ⟨a, by omega, rfl⟩
      rw [this, decide_eq_true (by omega)]
    · have : ((l.take k).any fun t => sameN t.name nm) = false := by
        rw [List.any_eq_false]
        intro t ht
        rw [List.mem_take_iff_getElem] at ht
        obtain ⟨j, hj, rfl⟩ := ht
        have := hq j (by omega)
        rw [hP j (by omega)] at this
        simpa using this
      rw [this, decide_eq_false (by omega)]
  · rw [hp k hk] at hPk; cases hPk
set_option maxRecDepth 100000 in
set_option maxHeartbeats 8000000 in
theorem rcolumns_any (m : Int) (t : Nat → Nat) (ht : ∀ j, j < 23 → finD (Ieee.double.read (t j)) = true) (A : Option Addr) (c : Nat) (l : List Col) (w : World) (hG : Glob m t w) (h : ColsAt w A l) : Calls Tryz.prog 21 #[.slice A l.length c] w (RetV (.int .i64 (colsR l)) w) := by
  have HG := Lib.hid hG
  have HNA := Lib.hid (fun s W g => rname_any m t ht s W g)
  have HA := Lib.hid h
  have hlen := h.1
  unfold maxLen at hlen
  rw [List.length_map] at hlen
  clear hG ht h
  by_cases h0 : l.length = 0
  · have HE := Lib.hid (show colsR l = 7 by unfold colsR; rw [if_pos (List.length_eq_zero_iff.1 h0)])
    generalize colsR l = R at HE ⊢
    have hl : ((l.length : Nat) : Int) = 0 := by omega
    go_enter Tryz.func21, Tryz.ntmps21
    go_wp2_with fail
    go_ret
    exact ⟨by rw [HE.out]; rfl, Below.refl _ _⟩
  · have hl : (((l.length : Nat) : Int) == 0) = false := by rw [beq_eq_false_iff_ne]; omega
    by_cases h6 : 6 < l.length
    · have HE := Lib.hid (show colsR l = 11 by unfold colsR; rw [if_neg (fun h => h0 (by rw [h]; rfl)), if_pos h6])
      generalize colsR l = R at HE ⊢
      go_enter Tryz.func21, Tryz.ntmps21
      go_wp2_with fail
      go_ret
      exact ⟨by rw [HE.out]; rfl, Below.refl _ _⟩
    · have HE := Lib.hid (show colsR l = colsErr l (l.length + 1) 0 by unfold colsR; rw [if_neg (fun h => h0 (by rw [h]; rfl)), if_neg h6])
      generalize colsR l = R at HE ⊢
      have HCO := Lib.hid (fun nm W hB => rcolumn_any A c l ⟨#[]⟩ 0 0 0 nm W (CellsAt.keep hB HA.out))
      have HFA := Lib.hid (fun nm (k : Nat) x (hx : l[k]? = some x) (hn : x.name = nm) r h => first_ahead hx hn (r := r) h)
      obtain ⟨n, hn⟩ : ∃ n, n = l.length := ⟨_, rfl⟩
      have HN := Lib.hid hn
      rw [← hn] at HE hl hlen h0 h6 HCO HFA ⊢
      clear hn
      go_enter Tryz.func21, Tryz.ntmps21
      go_wp2_with fail
      go_loopw [3] (fun i wr => ∃ k : Nat, k ≤ n ∧ i = .int .i64 k ∧ Hid (Below w.heap.size w wr) ∧ Hid (R = colsErr l (n + 1 - k) k)) (fun i _ => n - (intOf i).toNat)
      case atStart => exact ⟨0, Nat.zero_le _, rfl, Lib.hid (Below.refl _ _), HE⟩
      case round =>
        obtain ⟨k, hk, rfl, HB, HR⟩ := hrel
        obtain ⟨wo, rfl⟩ : ∃ wo : World, wo = wr := ⟨_, rfl⟩
        by_cases hlt : k < n
        · obtain ⟨x, hx⟩ : ∃ x, l[k]? = some x := ⟨_, List.getElem?_eq_getElem (by have := HN.out; omega)⟩
          obtain ⟨b, off, rfl, hbl, hcells⟩ : ∃ b off, A = some ⟨b, off, none⟩ ∧ b < w.heap.size ∧ ∀ (i : Nat) (v : Value), (colL x)[i]? = some v → w.cell? ⟨b, off + k * 3 + i, none⟩ = some v := by
            rcases HA.out.2 with h0' | ⟨b, off, h1, h2, h3⟩
            · exfalso; have := HN.out; have := List.map_eq_nil_iff.1 h0'; subst this; simp at hx
            · exact ⟨b, off, h1, h2, (h3 k (colL x) (by rw [List.getElem?_map, hx]; rfl)).2⟩
          have HAH := Lib.hid (fun r h => HFA.out x.name k x hx rfl r h)
          obtain ⟨xn, xt, xb⟩ := x
          have HKK := Lib.hid (show ∀ W, Below w.heap.size w W → ∀ (i : Nat) (v : Value), [Value.string xn, .int .i64 xt, .bool xb][i]? = some v → W.cell? ⟨b, off + k * 3 + i, none⟩ = some v from fun W hW i v hi => (hW.cell (p := ⟨b, off + k * 3 + i, none⟩) hbl).trans (hcells i v hi))
          have k0 : wo.cell? ⟨b, off + k * 3, none⟩ = some (.string xn) := HKK.out wo HB.out 0 _ rfl
          obtain ⟨nb, hnb⟩ : ∃ b, b = nameB xn.data.toList := ⟨_, rfl⟩
          have HNB := Lib.hid hnb
          have HNX := Lib.hid (HNA.out xn)
          rw [← hnb] at HNX
          have HST := Lib.hid (show R = if colBad ⟨xn, xt, xb⟩ then 7 else if (l.take k).any (fun t => sameN t.name xn) then 8 else colsErr l (n + 1 - (k + 1)) (k + 1) by
            rw [HR.out, show n + 1 - k = (n - k) + 1 by omega]
            conv => lhs; unfold colsErr
            rw [hx, show n + 1 - (k + 1) = n - k by omega])
          obtain ⟨cb, hcb⟩ : ∃ cb, cb = (l.take k).any (fun t => sameN t.name xn) := ⟨_, rfl⟩
          dsimp only at HAH
          rw [← hcb] at HST HAH
          have HCN := Lib.hid (fun W hB => HCO.out xn W hB)
          clear hx hcells hnb hcb
          by_cases hbad : colBad ⟨xn, xt, xb⟩ = true
          · have HE0 := Lib.hid (show R = 7 by rw [HST.out, if_pos hbad])
            have hor : nb = false ∨ (nb = true ∧ xt < 1) ∨ (nb = true ∧ 1 ≤ xt ∧ 3 < xt) := by
              unfold colBad at hbad
              rw [show nameB xn.data.toList = nb from HNB.out.symm] at hbad
              simp only [Bool.or_eq_true, Bool.not_eq_true', decide_eq_true_iff] at hbad
              cases nb
              · exact Or.inl rfl
              · rcases hbad with (hbad | hbad) | hbad
                · cases hbad
                · exact Or.inr (Or.inl ⟨rfl, hbad⟩)
                · exact Or.inr (Or.inr ⟨rfl, by omega, hbad⟩)
            clear hbad
            rcases hor with rfl | ⟨rfl, h1⟩ | ⟨rfl, h1, h2⟩
            · go_wp2_with (first
                | (go_at_call 47; (with_reducible refine (HNX.out _ (HG.out.keep HB.out)).mono ?_); rintro e w5 ⟨rfl, hB5⟩; have HW5 := Lib.hid (HB.out.trans (hB5.mono HB.out.size)); have k1 : w5.cell? ⟨b, off + k * 3 + 1, none⟩ = some (.int .i64 xt) := HKK.out w5 HW5.out 1 _ rfl; clear hB5)
                | fail)
              go_ret
              exact ⟨by rw [HE0.out]; rfl, HW5.out⟩
            · have h1' : (xt < 1) = True := eq_true h1
              go_wp2_with (first
                | (go_at_call 47; (with_reducible refine (HNX.out _ (HG.out.keep HB.out)).mono ?_); rintro e w5 ⟨rfl, hB5⟩; have HW5 := Lib.hid (HB.out.trans (hB5.mono HB.out.size)); have k1 : w5.cell? ⟨b, off + k * 3 + 1, none⟩ = some (.int .i64 xt) := HKK.out w5 HW5.out 1 _ rfl; clear hB5)
                | fail)
              go_ret
              exact ⟨by rw [HE0.out]; rfl, HW5.out⟩
            · have h1' : (xt < 1) = False := eq_false (by omega)
              have h2' : (3 < xt) = True := eq_true h2
              go_wp2_with (first
                | (go_at_call 47; (with_reducible refine (HNX.out _ (HG.out.keep HB.out)).mono ?_); rintro e w5 ⟨rfl, hB5⟩; have HW5 := Lib.hid (HB.out.trans (hB5.mono HB.out.size)); have k1 : w5.cell? ⟨b, off + k * 3 + 1, none⟩ = some (.int .i64 xt) := HKK.out w5 HW5.out 1 _ rfl; clear hB5)
                | fail)
              go_ret
              exact ⟨by rw [HE0.out]; rfl, HW5.out⟩
          · have hor : nb = true ∧ (xt < 1) = False ∧ (3 < xt) = False := by
              unfold colBad at hbad
              rw [show nameB xn.data.toList = nb from HNB.out.symm] at hbad
              simp only [Bool.or_eq_true, Bool.not_eq_true', decide_eq_true_iff] at hbad
              cases nb
              · exact absurd (Or.inl (Or.inl rfl)) hbad
              · exact ⟨rfl, eq_false (fun h => hbad (Or.inl (Or.inr h))), eq_false (fun h => hbad (Or.inr h))⟩
            obtain ⟨rfl, h1', h2'⟩ := hor
            cases cb with
            | true =>
              have HE0 := Lib.hid (show R = 8 by rw [HST.out, if_neg hbad, if_pos rfl])
              clear hbad
              go_wp2_with (first
                | (go_at_call 47; (with_reducible refine (HNX.out _ (HG.out.keep HB.out)).mono ?_); rintro e w5 ⟨rfl, hB5⟩; have HW5 := Lib.hid (HB.out.trans (hB5.mono HB.out.size)); have k1 : w5.cell? ⟨b, off + k * 3 + 1, none⟩ = some (.int .i64 xt) := HKK.out w5 HW5.out 1 _ rfl; have k0' : w5.cell? ⟨b, off + k * 3, none⟩ = some (.string xn) := HKK.out w5 HW5.out 0 _ rfl; clear hB5)
                | (go_at_call 19; (with_reducible refine (HCN.out _ HW5.out).mono ?_); rintro e w6 ⟨r, rfl, hr, hB6⟩; have HW6 := Lib.hid (HW5.out.trans (hB6.mono HW5.out.size)); have hrk : (r < (k : Int)) = True := eq_true (of_decide_eq_true (HAH.out r hr)); clear hB6 hr)
                | fail)
              go_ret
              exact ⟨by rw [HE0.out]; rfl, HW6.out⟩
            | false =>
              have HE0 := Lib.hid (show R = colsErr l (n + 1 - (k + 1)) (k + 1) by rw [HST.out, if_neg hbad, if_neg (by decide)])
              clear hbad
              go_wp2_with (first
                | (go_at_call 47; (with_reducible refine (HNX.out _ (HG.out.keep HB.out)).mono ?_); rintro e w5 ⟨rfl, hB5⟩; have HW5 := Lib.hid (HB.out.trans (hB5.mono HB.out.size)); have k1 : w5.cell? ⟨b, off + k * 3 + 1, none⟩ = some (.int .i64 xt) := HKK.out w5 HW5.out 1 _ rfl; have k0' : w5.cell? ⟨b, off + k * 3, none⟩ = some (.string xn) := HKK.out w5 HW5.out 0 _ rfl; clear hB5)
                | (go_at_call 19; (with_reducible refine (HCN.out _ HW5.out).mono ?_); rintro e w6 ⟨r, rfl, hr, hB6⟩; have HW6 := Lib.hid (HW5.out.trans (hB6.mono HW5.out.size)); have hrk : (r < (k : Int)) = False := eq_false (of_decide_eq_false (HAH.out r hr)); clear hB6 hr)
                | fail)
              go_roundw
              case rel => exact ⟨k + 1, by omega, by go_num, HW6, HE0⟩
              case measure => simp [intOf] <;> omega
        · have HE0 := Lib.hid (show R = 0 by
            rw [HR.out, show n + 1 - k = (n - k) + 1 by omega]
            unfold colsErr
            rw [List.getElem?_eq_none (by have := HN.out; omega)])
          go_wp2_with fail
          go_ret
          exact ⟨by rw [HE0.out]; rfl, HB.out⟩
end Go.Proofs.YtcgpflkaejbkhaaGreatDoor
