/- The walks of reads and of the document's reads. -/
import Derived.Test.YtcnkghcdjicldaaFuncs
namespace Go.Proofs.Ytcnkghcdjicldaa
open Go.RowKit

theorem ofIs_cases {q : Qd} {a g c : Int} {ok : Bool} (h : OfIs q a g c ok) : (∃ f : Nat, tabR q a = some f ∧ ok = true ∧ g = f ∧ c = colR q f a) ∨ (tabR q a = none ∧ ok = false) := by
  unfold OfIs at h
  cases ht : tabR q a with
  | some f => rw [ht] at h; exact .inl ⟨f, rfl, h⟩
  | none => rw [ht] at h; exact .inr ⟨rfl, h⟩
section
variable {w w2 : World} {o1 o2 : Obj} {v : Value} {T : TypeId}
theorem below3 (w : World) (o1 o2 o3 : Obj) : Below w.heap.size w (((w.alloc o1).alloc o2).alloc o3) :=
  (((Below.refl _ _).alloc (Nat.le_refl _) _).alloc (by simp) _).alloc (by simp; omega) _
theorem third_cell (hB : Below (((w.alloc o1).alloc o2).alloc (.cells #[v] T)).heap.size (((w.alloc o1).alloc o2).alloc (.cells #[v] T)) w2) : w2.cell? ⟨w.heap.size + 1 + 1, 0, none⟩ = some v ∧ Below w.heap.size w w2 := by
  refine ⟨?_, (below3 w o1 o2 _).trans (hB.mono (below3 w o1 o2 _).size)⟩
  have h := heap_alloc_new ((w.alloc o1).alloc o2) (.cells #[v] T)
  rw [World.size_alloc, World.size_alloc] at h
  have hz : w.heap.size + 1 + 1 < (((w.alloc o1).alloc o2).alloc (.cells #[v] T)).heap.size := by simp
  exact (hB.cell (p := ⟨w.heap.size + 1 + 1, 0, none⟩) hz).trans (cell_of_row _ _ 0 _ _ _ h)
end
theorem reads_col (q : Qd) (f : Nat) (k : Int) (o : ByteArray) (lk ln : Int) (lf : Nat) (ls : ByteArray) (a : Int) (nt : Bool) (ty : Int) (A : Option Addr) (c : Nat) (l : List NodeT) (hk : k = 2) :
    readsR q f (.mk k o lk ln lf ls a nt ty A c l) = decide (tabR q a = some f) := by
  rw [readsR, if_pos hk]
theorem reads_args (q : Qd) (f : Nat) (k : Int) (o : ByteArray) (lk ln : Int) (lf : Nat) (ls : ByteArray) (a : Int) (nt : Bool) (ty : Int) (A : Option Addr) (c : Nat) (l : List NodeT) (hk : ¬ k = 2) :
    readsR q f (.mk k o lk ln lf ls a nt ty A c l) = l.any (readsR q f) := by
  rw [readsR, if_neg hk, readsL_any]
theorem nodes_cells {w : World} {A : Option Addr} {l : List NodeT} (h : NodesAt w A l) : CellsAt w 10 A (l.map NodeT.cells) := by
  refine ⟨by rw [List.length_map]; exact h.small, ?_⟩
  cases h with
  | nil => exact .inl rfl
  | mk b off _ hb hl hc hs =>
    refine .inr ⟨b, off, rfl, hb, fun j x hx => ?_⟩
    rw [List.getElem?_map] at hx
    obtain ⟨t, ht, rfl⟩ := Option.map_eq_some_iff.1 hx
    refine ⟨?_, fun i v hv => hc j t ht i v hv⟩
    cases t; rfl
theorem nodes_sub {w : World} {A : Option Addr} {l : List NodeT} (h : NodesAt w A l) {j : Nat} {t : NodeT} (ht : l[j]? = some t) : NodesAt w t.A t.args := by
  cases h with
  | nil => simp at ht
  | mk b off _ hb hl hc hs => exact hs j t ht
theorem some_eq (f0 f : Nat) : (((f0 : Int) == (f : Int)) : Bool) = decide ((some f0 : Option Nat) = some f) := by
  rw [Bool.eq_iff_iff]; simp; omega

/-- a query's box in memory -/
def BoxQ (W : World) (b : Nat) (q : Qd) : Prop := W.heap[b]? = some (.cells q.cells 26 (0, 0))
theorem heap_lt {W : World} {g : Nat} {o : Obj} (q : W.heap[g]? = some o) : g < W.heap.size := by
  rcases Nat.lt_or_ge g W.heap.size with h | h
  · exact h
  · rw [Array.getElem?_eq_none h] at q; cases q
theorem BoxQ.keep {W w2 : World} {b : Nat} {q : Qd} (h : BoxQ W b q) (hB : Below W.heap.size W w2) : BoxQ w2 b q := (hB.block b (heap_lt h)).trans h
theorem BoxQ.cells {W : World} {b : Nat} {q : Qd} (h : BoxQ W b q) : W.cell? ⟨b, 0, none⟩ = some (.slice q.tA q.tabs.length q.tc) ∧ W.cell? ⟨b, 1, none⟩ = some (.slice q.bA q.beg.length q.bc) ∧ W.cell? ⟨b, 2, none⟩ = some (.int .i64 q.width) ∧ W.cell? ⟨b, 3, none⟩ = some (.slice q.wA q.wh.length q.wc) ∧ W.cell? ⟨b, 4, none⟩ = some (.slice q.gA q.gn q.gc) ∧ W.cell? ⟨b, 5, none⟩ = some (.bool q.grouped) ∧ W.cell? ⟨b, 6, none⟩ = some (.slice q.iA q.i_n q.ic) ∧ W.cell? ⟨b, 7, none⟩ = some (.slice q.oA q.ord.length q.oc) ∧ W.cell? ⟨b, 8, none⟩ = some (.int .i64 q.limit) := box9 W _ _ _ _ _ _ _ _ _ b h
theorem BoxQ.new (W : World) (q : Qd) : BoxQ (W.alloc (.cells q.cells 26)) W.heap.size q := heap_alloc_new W _
theorem cell_keep {W w2 : World} {b : Nat} {v : Value} (h : W.cell? ⟨b, 0, none⟩ = some v) (hB : Below W.heap.size W w2) : w2.cell? ⟨b, 0, none⟩ = some v :=
  (hB.cell (p := ⟨b, 0, none⟩) (World.block_lt_of_cell? W _ h)).trans h
theorem below1 (w : World) (o : Obj) : Below w.heap.size w (w.alloc o) := (Below.refl _ _).alloc (Nat.le_refl _) _
set_option maxHeartbeats 1000000 in
/-- the function value that reads hands on -/
theorem reads_value (q : Qd) (f b1 b2 : Nat) (t : NodeT) (W : World) (h1 : BoxQ W b1 q) (h2 : W.cell? ⟨b2, 0, none⟩ = some (.int .i64 (f : Int))) (r : Bool) (hr : ∀ W2, Below W.heap.size W W2 → Calls Try.prog 35 #[qV q, .agg t.cells.toArray, .int .i64 (f : Int)] W2 (RetV (.bool r) W2)) :
    Calls Try.prog 49 (#[.agg t.cells.toArray] ++ #[.pointer (some ⟨b1, 0, none⟩), .pointer (some ⟨b2, 0, none⟩)]) W (RetV (.bool r) W) := by
  obtain ⟨k, o, lk, ln, lf, ls, a, nt, ty, A, c, l⟩ := t
  have HQ := Lib.hid (hr _ (below1 W (.cells #[.int .i64 k, .string o, .int .i64 lk, .int .i64 ln, .float .f64 lf, .string ls, .int .i64 a, .bool nt, .int .i64 ty, .slice A l.length c] 42)))
  obtain ⟨c0, c1, c2, c3, c4, c5, c6, c7, c8⟩ := (h1.keep (below1 W (.cells #[.int .i64 k, .string o, .int .i64 lk, .int .i64 ln, .float .f64 lf, .string ls, .int .i64 a, .bool nt, .int .i64 ty, .slice A l.length c] 42))).cells
  have h3 := cell_keep h2 (below1 W (.cells #[.int .i64 k, .string o, .int .i64 lk, .int .i64 ln, .float .f64 lf, .string ls, .int .i64 a, .bool nt, .int .i64 ty, .slice A l.length c] 42))
  clear h1 h2 hr
  show Calls Try.prog 49 #[.agg #[.int .i64 k, .string o, .int .i64 lk, .int .i64 ln, .float .f64 lf, .string ls, .int .i64 a, .bool nt, .int .i64 ty, .slice A l.length c], .pointer (some ⟨b1, 0, none⟩), .pointer (some ⟨b2, 0, none⟩)] W _
  go_enter Try.func49, Try.ntmps49
  go_wp2_with (first
    | (go_at_call 35; (with_reducible refine HQ.out.mono ?_); rintro e w2 ⟨rfl, hB⟩)
    | fail)
  go_ret
  exact ⟨rfl, (below1 W _).trans (hB.mono (below1 W _).size)⟩
set_option maxRecDepth 100000 in
set_option maxHeartbeats 4000000 in
theorem reads_any (q : Qd) (f : Nat) : ∀ (N : Nat) (t : NodeT), SizeOf.sizeOf t < N → ∀ w, QAt w q → NodesAt w t.A t.args → Calls Try.prog 35 #[qV q, .agg t.cells.toArray, .int .i64 (f : Int)] w (RetV (.bool (readsR q f t)) w) := by
  intro N
  induction N with
  | zero => intro t ht; omega
  | succ N ih =>
    intro t ht w hq hn
    obtain ⟨k, o, lk, ln, lf, ls, a, nt, ty, A, c, l⟩ := t
    change NodesAt w A l at hn
    have HQ := Lib.hid (fun W (h : Below w.heap.size w W) => of_any q a W (hq.keep h))
    by_cases hk : k = 2
    · have HR := Lib.hid (reads_col q f k o lk ln lf ls a nt ty A c l hk)
      rw [HR.out]
      subst hk
      obtain ⟨R, hR⟩ : ∃ R, R = decide (tabR q a = some f) := ⟨_, rfl⟩
      rw [← hR]
      have HRR := Lib.hid hR
      clear hR ih ht hn hq HR
      unfold qV Qd.cells
      go_enter Try.func35, Try.ntmps35
      go_wp2_with (first
        | (go_at_call 33; (with_reducible refine (HQ.out _ ?_).mono ?_); (exact below3 w _ _ _); rintro e w2 ⟨⟨g, cc, ok, rfl, hof⟩, hB⟩; obtain ⟨hcf, hB2⟩ := third_cell hB; rcases ofIs_cases hof with ⟨f0, ht, rfl, rfl, rfl⟩ | ⟨ht, rfl⟩ <;> (have HTB := Lib.hid ht; clear ht hof hB))
        | fail)
      · go_ret
        exact ⟨ret_bool (by rw [HRR.out, HTB.out]; exact some_eq f0 f), hB2⟩
      · go_ret
        exact ⟨ret_bool (by rw [HRR.out, HTB.out]; rfl), hB2⟩
    · have HR := Lib.hid (reads_args q f k o lk ln lf ls a nt ty A c l hk)
      rw [HR.out]
      have hkb : (k == 2) = false := by simpa using hk
      obtain ⟨R, hR⟩ : ∃ R, R = l.any (readsR q f) := ⟨_, rfl⟩
      have HCN := Lib.hid (fun (W : World) (hB : Below w.heap.size w W) (h1 : BoxQ W w.heap.size q) (h2 : W.cell? ⟨w.heap.size + 1 + 1, 0, none⟩ = some (.int .i64 (f : Int))) => show Calls Try.prog 48 #[.slice A l.length c, .func (.func 49) #[] #[.pointer (some ⟨w.heap.size, 0, none⟩), .pointer (some ⟨w.heap.size + 1 + 1, 0, none⟩)]] W (RetV (.bool R) W) by
        have h := contains_node (atR l (readsR q f)) 49 #[.pointer (some ⟨w.heap.size, 0, none⟩), .pointer (some ⟨w.heap.size + 1 + 1, 0, none⟩)] (Go.Proofs.enters_of Try.func49 (by kernel_rfl) rfl) A c (l.map NodeT.cells) W
          ((nodes_cells hn).keep hB) (fun j x hx W2 hB2 => by
            rw [List.getElem?_map] at hx
            obtain ⟨t, ht', rfl⟩ := Option.map_eq_some_iff.1 hx
            have hlt : SizeOf.sizeOf t < N := by
              have := List.sizeOf_lt_of_mem (List.mem_of_getElem? ht')
              simp only [NodeT.mk.sizeOf_spec] at ht
              omega
            rw [atR_some ht']
            exact reads_value q f _ _ t W2 (h1.keep hB2) (cell_keep h2 hB2) _ (fun W3 hB3 => ih t hlt W3 ((hq.keep hB).keep ((hB2.mono (Nat.le_refl _)).trans (hB3.mono hB2.size))) ((nodes_sub hn ht').keep (hB.trans ((hB2.trans (hB3.mono hB2.size)).mono hB.size)))))
        rw [List.length_map, range_any] at h
        rw [hR]; exact h)
      rw [← hR]
      clear hR HR ih hn hq ht HQ hk
      have HB3 := Lib.hid (below3 w (.cells q.cells 26) (.cells #[.int .i64 k, .string o, .int .i64 lk, .int .i64 ln, .float .f64 lf, .string ls, .int .i64 a, .bool nt, .int .i64 ty, .slice A l.length c] 42) (.cells #[.int .i64 (f : Int)] 3))
      have HBX := Lib.hid (((BoxQ.new w q).keep (below1 _ (.cells #[.int .i64 k, .string o, .int .i64 lk, .int .i64 ln, .float .f64 lf, .string ls, .int .i64 a, .bool nt, .int .i64 ty, .slice A l.length c] 42))).keep (below1 _ (.cells #[.int .i64 (f : Int)] 3)))
      unfold qV Qd.cells
      go_enter Try.func35, Try.ntmps35
      go_wp2_with (first
        | (go_at_call 48; (with_reducible refine (HCN.out _ ?_ ?_ ?_).mono ?_); (exact HB3.out); (exact HBX.out); (exact (third_cell (Below.refl _ _)).1); rintro e w2 ⟨rfl, hB⟩)
        | fail)
      go_ret
      exact ⟨rfl, HB3.out.trans (hB.mono HB3.out.size)⟩
end Go.Proofs.Ytcnkghcdjicldaa
