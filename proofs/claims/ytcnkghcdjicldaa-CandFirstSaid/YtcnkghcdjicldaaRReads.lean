/- The walk of the document's reads. -/
import Derived.Test.YtcnkghcdjicldaaReads
import Derived.StillTailTactics
namespace Go.Proofs.Ytcnkghcdjicldaa
open Go.RowKit

theorem below2 (w : World) (o1 o2 : Obj) : Below w.heap.size w ((w.alloc o1).alloc o2) :=
  ((Below.refl _ _).alloc (Nat.le_refl _) _).alloc (by simp) _
/-- a node's box in memory -/
def BoxN (W : World) (b : Nat) (k : Int) (o : ByteArray) (lk ln : Int) (lf : Nat) (ls : ByteArray) (a : Int) (nt : Bool) (ty : Int) (A : Option Addr) (n c : Nat) : Prop :=
  W.heap[b]? = some (.cells #[.int .i64 k, .string o, .int .i64 lk, .int .i64 ln, .float .f64 lf, .string ls, .int .i64 a, .bool nt, .int .i64 ty, .slice A n c] 42 (0, 0))
section
variable {W w2 : World} {b : Nat} {k : Int} {o : ByteArray} {lk ln : Int} {lf : Nat} {ls : ByteArray} {a : Int} {nt : Bool} {ty : Int} {A : Option Addr} {n c : Nat}
theorem BoxN.keep (h : BoxN W b k o lk ln lf ls a nt ty A n c) (hB : Below W.heap.size W w2) : BoxN w2 b k o lk ln lf ls a nt ty A n c := (hB.block b (heap_lt h)).trans h
theorem BoxN.cells (h : BoxN W b k o lk ln lf ls a nt ty A n c) : W.cell? ⟨b, 0, none⟩ = some (.int .i64 k) ∧ W.cell? ⟨b, 1, none⟩ = some (.string o) ∧ W.cell? ⟨b, 2, none⟩ = some (.int .i64 lk) ∧ W.cell? ⟨b, 3, none⟩ = some (.int .i64 ln) ∧ W.cell? ⟨b, 4, none⟩ = some (.float .f64 lf) ∧ W.cell? ⟨b, 5, none⟩ = some (.string ls) ∧ W.cell? ⟨b, 6, none⟩ = some (.int .i64 a) ∧ W.cell? ⟨b, 7, none⟩ = some (.bool nt) ∧ W.cell? ⟨b, 8, none⟩ = some (.int .i64 ty) ∧ W.cell? ⟨b, 9, none⟩ = some (.slice A n c) :=
  ⟨cell_of_row W b 0 _ _ _ h, cell_of_row W b 1 _ _ _ h, cell_of_row W b 2 _ _ _ h, cell_of_row W b 3 _ _ _ h, cell_of_row W b 4 _ _ _ h, cell_of_row W b 5 _ _ _ h, cell_of_row W b 6 _ _ _ h, cell_of_row W b 7 _ _ _ h, cell_of_row W b 8 _ _ _ h, cell_of_row W b 9 _ _ _ h⟩
end
/-- an element's cells, one by one -/
theorem node_cells {w W : World} {b off j : Nat} {l : List NodeT} (hB : Below w.heap.size w W) (hb : b < w.heap.size) (hc : ∀ (j : Nat) (t : NodeT), l[j]? = some t → ∀ (i : Nat) (v : Value), t.cells[i]? = some v → w.cell? ⟨b, off + j * 10 + i, none⟩ = some v)
    {k : Int} {o : ByteArray} {lk ln : Int} {lf : Nat} {ls : ByteArray} {a : Int} {nt : Bool} {ty : Int} {A : Option Addr} {c : Nat} {l' : List NodeT} (ht : l[j]? = some (.mk k o lk ln lf ls a nt ty A c l')) :
    W.cell? ⟨b, off + j * 10, none⟩ = some (.int .i64 k) ∧ W.cell? ⟨b, off + j * 10 + 1, none⟩ = some (.string o) ∧ W.cell? ⟨b, off + j * 10 + 2, none⟩ = some (.int .i64 lk) ∧ W.cell? ⟨b, off + j * 10 + 3, none⟩ = some (.int .i64 ln) ∧ W.cell? ⟨b, off + j * 10 + 4, none⟩ = some (.float .f64 lf) ∧ W.cell? ⟨b, off + j * 10 + 5, none⟩ = some (.string ls) ∧ W.cell? ⟨b, off + j * 10 + 6, none⟩ = some (.int .i64 a) ∧ W.cell? ⟨b, off + j * 10 + 7, none⟩ = some (.bool nt) ∧ W.cell? ⟨b, off + j * 10 + 8, none⟩ = some (.int .i64 ty) ∧ W.cell? ⟨b, off + j * 10 + 9, none⟩ = some (.slice A l'.length c) := by
  have h : ∀ (i : Nat) (v : Value), (NodeT.mk k o lk ln lf ls a nt ty A c l').cells[i]? = some v → W.cell? ⟨b, off + j * 10 + i, none⟩ = some v := fun i v hv => (hB.cell (p := ⟨b, off + j * 10 + i, none⟩) hb).trans (hc j _ ht i v hv)
  exact ⟨h 0 _ rfl, h 1 _ rfl, h 2 _ rfl, h 3 _ rfl, h 4 _ rfl, h 5 _ rfl, h 6 _ rfl, h 7 _ rfl, h 8 _ rfl, h 9 _ rfl⟩
/-- where nodes lie -/
theorem nodes_at {w : World} {A : Option Addr} {l : List NodeT} (h : NodesAt w A l) : l = [] ∨ ∃ b off, A = some ⟨b, off, none⟩ ∧ b < w.heap.size ∧ ∀ (j : Nat) (t : NodeT), l[j]? = some t → ∀ (i : Nat) (v : Value), t.cells[i]? = some v → w.cell? ⟨b, off + j * 10 + i, none⟩ = some v := by
  cases h with
  | nil => exact .inl rfl
  | mk b off _ hb hl hc hs => exact .inr ⟨b, off, rfl, hb, hc⟩
theorem any_take_snoc {α : Type} (l : List α) (p : α → Bool) (k : Nat) (t : α) (h : l[k]? = some t) : (l.take (k + 1)).any p = ((l.take k).any p || p t) := by
  rw [List.take_add_one, h]; simp
theorem any_hit {α : Type} (l : List α) (p : α → Bool) (k : Nat) (t : α) (h : l[k]? = some t) (hp : p t = true) : l.any p = true := by
  rw [List.any_eq_true]; exact ⟨t, List.mem_of_getElem? h, hp⟩
theorem tab_eq (q : Qd) (a : Int) (f : Nat) : ((tabI (tabR q a) == (f : Int)) : Bool) = decide (tabR q a = some f) := by
  rw [Bool.eq_iff_iff]
  cases tabR q a with
  | none => simp [tabI] <;> omega
  | some g => simp [tabI] <;> omega

set_option maxRecDepth 100000 in
set_option maxHeartbeats 4000000 in
theorem rreads_any (q : Qd) (f : Nat) : ∀ (N : Nat) (t : NodeT), SizeOf.sizeOf t < N → ∀ w, QAt w q → NodesAt w t.A t.args → Calls Try.prog 44 #[qV q, .agg t.cells.toArray, .int .i64 (f : Int)] w (RetV (.bool (readsR q f t)) w) := by
  intro N
  induction N with
  | zero => intro t ht; omega
  | succ N ih =>
    intro t ht w hq hn
    obtain ⟨k, o, lk, ln, lf, ls, a, nt, ty, A, c, l⟩ := t
    change NodesAt w A l at hn
    have HQ := Lib.hid (fun W (h : Below w.heap.size w W) => table_any q a W (hq.keep h))
    by_cases hk : k = 2
    · have HR := Lib.hid (reads_col q f k o lk ln lf ls a nt ty A c l hk)
      rw [HR.out]
      subst hk
      have HT := Lib.hid (tab_eq q a f)
      generalize tabI (tabR q a) = ti at HQ HT
      generalize decide (tabR q a = some f) = R at HT ⊢
      clear ih ht hn hq HR
      unfold qV Qd.cells
      go_enter Try.func44, Try.ntmps44
      go_wp2_with (first
        | (go_at_call 43; (with_reducible refine (HQ.out _ ?_).mono ?_); (exact below2 w _ _); rintro e w2 ⟨rfl, hB⟩)
        | fail)
      go_ret
      exact ⟨ret_bool HT.out, (below2 w _ _).trans (hB.mono (below2 w _ _).size)⟩
    · have HR := Lib.hid (reads_args q f k o lk ln lf ls a nt ty A c l hk)
      rw [HR.out]
      have hkb : (k == 2) = false := by simpa using hk
      have hsm := hn.small
      obtain ⟨n, hln⟩ : ∃ n, n = l.length := ⟨_, rfl⟩
      unfold maxLen at hsm
      rw [← hln] at hsm
      have HL := Lib.hid hln
      have HNA := Lib.hid (nodes_at hn)
      have HIH := Lib.hid (fun (j : Nat) (t' : NodeT) (hj : l[j]? = some t') (W : World) (hB : Below w.heap.size w W) => show Calls Try.prog 44 #[qV q, .agg t'.cells.toArray, .int .i64 (f : Int)] W (RetV (.bool (readsR q f t')) W) by
        refine ih t' ?_ W (hq.keep hB) ((nodes_sub hn hj).keep hB)
        have := List.sizeOf_lt_of_mem (List.mem_of_getElem? hj)
        simp only [NodeT.mk.sizeOf_spec] at ht
        omega)
      have HB2 := Lib.hid (below2 w (.cells q.cells 26) (.cells #[.int .i64 k, .string o, .int .i64 lk, .int .i64 ln, .float .f64 lf, .string ls, .int .i64 a, .bool nt, .int .i64 ty, .slice A n c] 42))
      have HBX := Lib.hid (show BoxQ ((w.alloc (.cells q.cells 26)).alloc (.cells #[.int .i64 k, .string o, .int .i64 lk, .int .i64 ln, .float .f64 lf, .string ls, .int .i64 a, .bool nt, .int .i64 ty, .slice A n c] 42)) w.heap.size q from ((BoxQ.new w q).keep (below1 _ _)))
      have HBN := Lib.hid (show BoxN ((w.alloc (.cells q.cells 26)).alloc (.cells #[.int .i64 k, .string o, .int .i64 lk, .int .i64 ln, .float .f64 lf, .string ls, .int .i64 a, .bool nt, .int .i64 ty, .slice A n c] 42)) (w.heap.size + 1) k o lk ln lf ls a nt ty A n c by
        have := heap_alloc_new (w.alloc (.cells q.cells 26)) (.cells #[.int .i64 k, .string o, .int .i64 lk, .int .i64 ln, .float .f64 lf, .string ls, .int .i64 a, .bool nt, .int .i64 ty, .slice A n c] 42)
        rw [World.size_alloc] at this
        exact this)
      show Calls Try.prog 44 #[qV q, .agg #[.int .i64 k, .string o, .int .i64 lk, .int .i64 ln, .float .f64 lf, .string ls, .int .i64 a, .bool nt, .int .i64 ty, .slice A l.length c], .int .i64 (f : Int)] w _
      rw [← hln]
      clear ih ht hq hn HR HQ hk hln
      unfold qV Qd.cells at *
      go_enter Try.func44, Try.ntmps44
      go_wp2_with fail
      go_loopw [7] (fun i wr => ∃ k' : Nat, k' ≤ n ∧ i = .int .i64 k' ∧ Below w.heap.size w wr ∧ BoxQ wr w.heap.size q ∧ BoxN wr (w.heap.size + 1) k o lk ln lf ls a nt ty A n c ∧ Hid ((l.take k').any (readsR q f) = false)) (fun i _ => n - (intOf i).toNat)
      case atStart => exact ⟨0, Nat.zero_le _, rfl, HB2.out, HBX.out, HBN.out, Lib.hid rfl⟩
      case round =>
        obtain ⟨j, hj, rfl, hB, hbq, hbn, HC⟩ := hrel
        obtain ⟨wo, rfl⟩ : ∃ wo : World, wo = wr := ⟨_, rfl⟩
        have HB := Lib.hid hB
        have HQ := Lib.hid hbq
        have HN := Lib.hid hbn
        obtain ⟨q0, q1, q2, q3, q4, q5, q6, q7, q8⟩ := hbq.cells
        obtain ⟨n0, n1, n2, n3, n4, n5, n6, n7, n8, n9⟩ := hbn.cells
        clear hB hbq hbn
        by_cases hlt : j < n
        · rcases HNA.out with h0 | ⟨b, off, rfl, hbl, hc⟩
          · exfalso; have := HL.out; rw [h0] at this; simp at this; omega
          · obtain ⟨t', hx⟩ : ∃ x, l[j]? = some x := ⟨_, List.getElem?_eq_getElem (by have := HL.out; omega)⟩
            have HCC := Lib.hid (HIH.out j t' hx wo.drew HB.out.drew)
            have HS := Lib.hid (any_take_snoc l (readsR q f) j t' hx)
            have HH := Lib.hid (any_hit l (readsR q f) j t' hx)
            obtain ⟨k', o', lk', ln', lf', ls', a', nt', ty', A', c', l'⟩ := t'
            obtain ⟨m0, m1, m2, m3, m4, m5, m6, m7, m8, m9⟩ := node_cells HB.out hbl hc hx
            clear hc hx HIH HNA
            generalize readsR q f (.mk k' o' lk' ln' lf' ls' a' nt' ty' A' c' l') = r at HCC HS HH
            go_wp2_with fail
            go_still_tail 7, (by kernel_rfl)
            change wpList _ _ _ _ _ wo.drew
            cases r with
            | true =>
              have HR := Lib.hid (HH.out rfl)
              go_wp2_with (first
                | (go_at_call 44; (with_reducible refine HCC.out.mono ?_); rintro e w2 ⟨rfl, hB2⟩)
                | fail)
              go_ret
              exact ⟨ret_bool HR.out.symm, HB.out.drew.trans (hB2.mono HB.out.drew.size)⟩
            | false =>
              have HD := Lib.hid (show (l.take (j + 1)).any (readsR q f) = false by rw [HS.out, HC.out]; rfl)
              go_wp2_with (first
                | (go_at_call 44; (with_reducible refine HCC.out.mono ?_); rintro e w2 ⟨rfl, hB2⟩)
                | fail)
              go_roundw
              case rel => exact ⟨j + 1, by omega, by go_num, HB.out.drew.trans (hB2.mono HB.out.drew.size), (HQ.out.keep (Below.refl _ _).drew).keep hB2, (HN.out.keep (Below.refl _ _).drew).keep hB2, HD⟩
              case measure => simp [intOf] <;> omega
        · have HR := Lib.hid (show l.any (readsR q f) = false by have := HC.out; rwa [List.take_of_length_le (by have := HL.out; omega)] at this)
          go_wp2_with fail
          go_ret
          exact ⟨ret_bool HR.out.symm, HB.out⟩
end Go.Proofs.Ytcnkghcdjicldaa
