/- The walk of Clone at a schema without indexes. -/
import Derived.Test.YtacodkmbefhicaaGreatDoorCloneA
namespace Go.Proofs.YtacodkmbefhicaaGreatDoor
open Go.RowKit

theorem info35 : (Tryz.prog.info? 35).map (fun i => (i.zero, i.size, i.bytes)) = some (some (.agg #[.string ⟨#[]⟩, .slice none 0 0, .int .i64 0, .int .i64 0, .int .i64 0]), 5, 64) := by kernel_rfl
theorem tab_one (t : Tab) : ∀ u ∈ tabL t, u.oneCell' = true := by
  intro u hu
  unfold tabL at hu
  simp only [List.mem_cons, List.mem_nil_iff, or_false] at hu
  rcases hu with rfl | rfl | rfl | rfl | rfl <;> rfl
theorem tab_len (l : List Tab) : ∀ x ∈ l.map tabL, x.length = 5 := by
  intro x hx
  obtain ⟨c, _, rfl⟩ := List.mem_map.1 hx
  rfl
/-- append of one table to a row of the call's own -/
theorem list_tab (w : World) {ops : Array Oper} {rest : List Oper} {o : Oper} {a : Act} {Q : Exit → Act → World → Prop} (hgd : o.guard = none) (s x : Operand)
    (ho : o.op = .call { callee := .builtin .append, args := #[s, x], argTypes := #[27, 27] }) (base : Nat) (v : Value) (n : Nat) (xs : List Value) (hv : a.eval s = v) (hown : w.ownsRow base 35 5 v n xs)
    (b c : Nat) (t : Tab) (hx : a.eval x = .slice (some ⟨b, 0, none⟩) 1 c) (hq : w.heap[b]? = some (.cells (tabL t).toArray 35)) (hl : n ≤ 2000) (hbase : base ≤ w.heap.size)
    (h : ∀ v' w', w'.ownsRow base 35 5 v' (n + 1) (xs ++ tabL t) → w.grownBy w' v.ownBlock → (v'.ownBlock = v.ownBlock ∨ v'.ownBlock = some w.heap.size) → wpList Tryz.prog ops Q rest (a.put o.dst v') w') : wpList Tryz.prog ops Q (o :: rest) a w := by
  refine wpList_plain hgd fun K hK => ?_
  obtain ⟨i0, hi0, hz0, hz1, hz2⟩ := info_parts info35
  obtain ⟨v', w', hrun, g2, g3, _, g5⟩ := run_append_own_at (P := Tryz.prog) w base 27 o.type 35 i0 _ 5 64 Tryz.underlying27 hi0 hz0 hz1 hz2 rfl (by omega) v n xs hown ⟨b, 0, none⟩ 1 c (tabL t) rfl
    (fun j u hj => by
      rw [Addr.add_lit, Nat.zero_add, cell_of_row w b j _ _ _ hq]
      simpa using hj)
    (tab_one t) (by unfold maxLen; omega) (by omega) hbase
  unfold Oper.wp
  simp only [execOp, ho, resolve, invoke, builtin, Sem.run_bind, Sem.run_pure, Result.andThen_ok, List.map_toArray, List.map_cons, List.map_nil, hv, hx, hrun]
  exact hK _ _ (h v' w' g2 g3 g5)
/-- the same, as a step of a region that draws its order -/
theorem step_tab (w : World) {ops : Array Oper} {o : Oper} {a : Act} {K : Act → World → Prop} {Q : Exit → Act → World → Prop} {E : Prop} (hgd : o.guard = none) (s x : Operand)
    (ho : o.op = .call { callee := .builtin .append, args := #[s, x], argTypes := #[27, 27] }) (base : Nat) (v : Value) (n : Nat) (xs : List Value) (hv : a.eval s = v) (hown : w.ownsRow base 35 5 v n xs)
    (b c : Nat) (t : Tab) (hx : a.eval x = .slice (some ⟨b, 0, none⟩) 1 c) (hq : w.heap[b]? = some (.cells (tabL t).toArray 35)) (hl : n ≤ 2000) (hbase : base ≤ w.heap.size)
    (h : ∀ v' w', w'.ownsRow base 35 5 v' (n + 1) (xs ++ tabL t) → w.grownBy w' v.ownBlock → (v'.ownBlock = v.ownBlock ∨ v'.ownBlock = some w.heap.size) → K (a.put o.dst v') w') :
    if Region.wanted o (yielded ops a.tmps) = true then Oper.wp Tryz.prog o a w K Q else E := by
  have hw : Region.wanted o (yielded ops a.tmps) = true := by simp [Region.wanted, hgd]
  rw [if_pos hw]
  obtain ⟨i0, hi0, hz0, hz1, hz2⟩ := info_parts info35
  obtain ⟨v', w', hrun, g2, g3, _, g5⟩ := run_append_own_at (P := Tryz.prog) w base 27 o.type 35 i0 _ 5 64 Tryz.underlying27 hi0 hz0 hz1 hz2 rfl (by omega) v n xs hown ⟨b, 0, none⟩ 1 c (tabL t) rfl
    (fun j u hj => by
      rw [Addr.add_lit, Nat.zero_add, cell_of_row w b j _ _ _ hq]
      simpa using hj)
    (tab_one t) (by unfold maxLen; omega) (by omega) hbase
  unfold Oper.wp
  simp only [execOp, ho, resolve, invoke, builtin, Sem.run_bind, Sem.run_pure, Result.andThen_ok, List.map_toArray, List.map_cons, List.map_nil, hv, hx, hrun]
  exact h v' w' g2 g3 g5
/-- a table whose columns are a copy of the call's own, apart from a row's block -/
def CopyAt (base : Nat) (v : Value) (t : Tab) (l : List Col) (t' : Tab) (W : World) : Prop := t'.name = t.name ∧ t'.root = t.root ∧ t'.next = t.next ∧ t'.rows = t.rows ∧ t'.cn = l.length ∧ l.length ≤ t'.cc ∧ ColsAt W t'.ca l ∧ (∀ a, t'.ca = some a → base ≤ a.block ∧ a.block < W.heap.size ∧ v.ownBlock ≠ some a.block) ∧ (t'.ca = none → t'.cc = 0) ∧ (t'.ca = none ↔ t.ca = none)
theorem CellsAt.grown {w w' : World} {K : Nat} {A : Option Addr} {ls : List (List Value)} (h : CellsAt w K A ls) {r : Option Nat} (hg : w.grownBy w' r) (hr : ∀ a, A = some a → r ≠ some a.block) : CellsAt w' K A ls := by
  refine ⟨h.1, h.2.imp id fun ⟨g, off, h1, h2, h3⟩ => ⟨g, off, h1, Nat.lt_of_lt_of_le h2 hg.size, fun i x hx => ⟨(h3 i x hx).1, fun n u hu => ?_⟩⟩⟩
  refine Eq.trans ?_ ((h3 i x hx).2 n u hu)
  unfold World.cell?
  rw [hg.block g h2 (fun e => hr ⟨g, off, none⟩ h1 e.symm)]
theorem CopyAt.keep {base : Nat} {v : Value} {t t' : Tab} {l : List Col} {W W' : World} (h : CopyAt base v t l t' W) (hB : Below W.heap.size W W') : CopyAt base v t l t' W' := by
  obtain ⟨h1, h2, h3, h4, h5, h6, h7, h8, h9⟩ := h
  exact ⟨h1, h2, h3, h4, h5, h6, CellsAt.keep hB h7, fun a ha => ⟨(h8 a ha).1, Nat.lt_of_lt_of_le (h8 a ha).2.1 hB.size, (h8 a ha).2.2⟩, h9⟩
theorem CopyAt.setCell {base : Nat} {v : Value} {t t' : Tab} {l : List Col} {W : World} (h : CopyAt base v t l t' W) (b j : Nat) (u : Value) (hb : b < base) : CopyAt base v t l t' (W.setCell ⟨b, j, none⟩ u) := by
  obtain ⟨h1, h2, h3, h4, h5, h6, h7, h8, h9⟩ := h
  refine ⟨h1, h2, h3, h4, h5, h6, CellsAt.setFar h7 b j u (fun a ha => by have := (h8 a ha).1; omega), fun a ha => ?_, h9⟩
  simp only [World.setCell, Array.size_modify]
  exact h8 a ha
/-- behind an append to the row -/
theorem CopyAt.grown {base : Nat} {v v' : Value} {t t' : Tab} {l : List Col} {W W' : World} (h : CopyAt base v t l t' W) (hg : W.grownBy W' v.ownBlock) (hv : v'.ownBlock = v.ownBlock ∨ v'.ownBlock = some W.heap.size) : CopyAt base v' t l t' W' := by
  obtain ⟨h1, h2, h3, h4, h5, h6, h7, h8, h9⟩ := h
  refine ⟨h1, h2, h3, h4, h5, h6, h7.grown hg (fun a ha => (h8 a ha).2.2), fun a ha => ⟨(h8 a ha).1, Nat.lt_of_lt_of_le (h8 a ha).2.1 hg.size, ?_⟩, h9⟩
  rcases hv with e | e
  · rw [e]; exact (h8 a ha).2.2
  · rw [e]
    intro e2
    have := (h8 a ha).2.1
    have := Option.some.inj e2
    omega
/-- the copies so far: of the first tables; the schema's box, the answer's, the one under way -/
structure ClInv (w : World) (A : Option Addr) (n c : Nat) (ia : Option Addr) (ic : Nat) (ts : List (Tab × List Col)) (W : World) (k : Nat) (va : Option Addr) (vc : Nat) (outs : List Tab) : Prop where
  below : Below w.heap.size w W
  arg : W.heap[w.heap.size]? = some (.cells #[.slice A n c, .slice ia 0 ic] 30)
  ans : W.heap[w.heap.size + 1]? = some (.cells #[.slice none 0 0, .slice none 0 0] 30)
  out : W.heap[w.heap.size + 2]? = some (.cells #[.slice va k vc, .slice none 0 0] 30)
  own : W.ownsRow (w.heap.size + 3) 35 5 (.slice va k vc) k (outs.map tabL).flatten
  len : outs.length = k
  copy : ∀ (j : Nat) (t : Tab) (l : List Col), ts[j]? = some (t, l) → ∀ t', outs[j]? = some t' → CopyAt (w.heap.size + 3) (.slice va k vc) t l t' W
theorem ClInv.keep {w : World} {A : Option Addr} {n c : Nat} {ia : Option Addr} {ic : Nat} {ts : List (Tab × List Col)} {W W' : World} {k : Nat} {va : Option Addr} {vc : Nat} {outs : List Tab} (h : ClInv w A n c ia ic ts W k va vc outs) (hB : Below W.heap.size W W') : ClInv w A n c ia ic ts W' k va vc outs :=
  ⟨h.below.trans (hB.mono h.below.size), (hB.block _ (heap_lt h.arg)).trans h.arg, (hB.block _ (heap_lt h.ans)).trans h.ans, (hB.block _ (heap_lt h.out)).trans h.out, own_kept h.own hB (Nat.le_refl _), h.len, fun j t l hj t' ht => (h.copy j t l hj t' ht).keep hB⟩
theorem own_slice {w : World} {base e size n : Nat} {v : Value} {xs : List Value} (h : w.ownsRow base e size v (n + 1) xs) : ∃ g cap, v = .slice (some ⟨g, 0, none⟩) (n + 1) cap := by
  rcases h.2 with ⟨_, h0⟩ | ⟨g, cap, cur, rfl, _⟩
  · omega
  · exact ⟨g, cap, rfl⟩
/-- behind one table more -/
theorem ClInv.more {w : World} {A : Option Addr} {n c : Nat} {ia : Option Addr} {ic : Nat} {ts : List (Tab × List Col)} {w5 w6 : World} {k : Nat} {va : Option Addr} {vc : Nat} {outs : List Tab} {t' : Tab} {O : Obj} {g cap : Nat} (h : ClInv w A n c ia ic ts w5 k va vc outs)
    (hown : w6.ownsRow (w.heap.size + 3) 35 5 (.slice (some ⟨g, 0, none⟩) (k + 1) cap) (k + 1) ((outs.map tabL).flatten ++ tabL t')) (hg : (w5.alloc O).grownBy w6 (Value.slice va k vc).ownBlock)
    (hat : (Value.slice (some ⟨g, 0, none⟩) (k + 1) cap).ownBlock = (Value.slice va k vc).ownBlock ∨ (Value.slice (some ⟨g, 0, none⟩) (k + 1) cap).ownBlock = some (w5.alloc O).heap.size)
    (hnew : ∀ (t : Tab) (l : List Col), ts[k]? = some (t, l) → CopyAt (w.heap.size + 3) (.slice va k vc) t l t' w5) :
    ClInv w A n c ia ic ts (w6.setCell ⟨w.heap.size + 1 + 1, 0, none⟩ (.slice (some ⟨g, 0, none⟩) (k + 1) cap)) (k + 1) (some ⟨g, 0, none⟩) cap (outs ++ [t']) ∧ w6.heap[w.heap.size + 1 + 1]? = some (.cells #[.slice va k vc, .slice none 0 0] 30) := by
  have hown0 := h.own
  have hlt := heap_lt h.out
  have hB : Below w5.heap.size w5 (w5.alloc O) := below1 w5 O
  have h5 := h.keep hB
  have hfar : ∀ b, b ≤ w.heap.size + 2 → some b ≠ (Value.slice va k vc).ownBlock := fun b hb e => by
    have := hown0.lt b e.symm
    omega
  have hold : ∀ b, b ≤ w.heap.size + 2 → w6.heap[b]? = w5.heap[b]? := fun b hb => (hg.block b (by simp; omega) (hfar b hb)).trans (hB.block b (by omega))
  have hout6 := (hold (w.heap.size + 2) (Nat.le_refl _)).trans h.out
  have hgB : Below w.heap.size w w6 := h5.below.grown hg (by simp; omega) (fun k hk => by have := hown0.lt k hk; omega)
  have hsz : w6.heap.size = (w6.setCell ⟨w.heap.size + 1 + 1, 0, none⟩ (.slice (some ⟨g, 0, none⟩) (k + 1) cap)).heap.size := by simp only [World.setCell, Array.size_modify]
  have hgb : w.heap.size + 3 ≤ g := (hown.lt g rfl).1
  refine ⟨⟨hgB.setCell (p := ⟨w.heap.size + 1 + 1, 0, none⟩) (by show w.heap.size ≤ w.heap.size + 1 + 1; omega) _, ?_, ?_, ?_, ?_, by rw [List.length_append, h.len]; rfl, ?_⟩, hout6⟩
  · rw [heap_setFar _ (by omega)]; exact (hold _ (by omega)).trans h.arg
  · rw [heap_setFar _ (by omega)]; exact (hold _ (by omega)).trans h.ans
  · have e : w6.heap[w.heap.size + 1 + 1]? = _ := hout6
    rw [setCell_eq_setRow w6 _ 0 _ 30 _ _ e]
    exact setRow_heap w6 _ _ _ 30 _ e
  · obtain ⟨q1, q2⟩ := hown
    refine ⟨by rw [List.map_append, List.flatten_append]; simpa using q1, q2.imp id fun ⟨g', cap', cur, e1, e2, e3, e4, e5, e6, e7⟩ => ⟨g', cap', cur, e1, e2, ?_, e4, e5, e6, by rw [List.map_append, List.flatten_append]; simpa using e7⟩⟩
    rw [heap_setFar _ (by omega)]; exact e3
  · intro j t l hj t'' ht
    refine CopyAt.setCell ?_ _ _ _ (by omega)
    rcases Nat.lt_or_ge j outs.length with hjl | hjl
    · rw [List.getElem?_append_left hjl] at ht
      exact ((h.copy j t l hj t'' ht).keep hB).grown hg hat
    · have hj2 : j = k := by
        have := (List.getElem?_eq_some_iff.1 ht).1
        rw [List.length_append] at this
        have := h.len
        simp at *
        omega
      subst hj2
      rw [List.getElem?_append_right hjl, h.len, Nat.sub_self] at ht
      obtain rfl : t' = t'' := by simpa using ht
      exact ((hnew t l hj).keep hB).grown hg hat
theorem own_set {w : World} {base e size n : Nat} {v : Value} {xs : List Value} (h : w.ownsRow base e size v n xs) (b j : Nat) (u : Value) (hb : b < base) : (w.setCell ⟨b, j, none⟩ u).ownsRow base e size v n xs := by
  obtain ⟨q1, q2⟩ := h
  refine ⟨q1, q2.imp id fun ⟨g', cap', cur, e1, e2, e3, e4⟩ => ⟨g', cap', cur, e1, e2, ?_, e4⟩⟩
  rw [heap_setFar _ (by omega)]
  exact e3
theorem ClInv.done {w : World} {A : Option Addr} {n c : Nat} {ia : Option Addr} {ic : Nat} {ts : List (Tab × List Col)} {W : World} {k : Nat} {va : Option Addr} {vc : Nat} {outs : List Tab} (h : ClInv w A n c ia ic ts W k va vc outs) (x y : Value) :
    Below w.heap.size w ((W.setCell ⟨w.heap.size + 1, 0, none⟩ x).setCell ⟨w.heap.size + 1, 1, none⟩ y) ∧ ((W.setCell ⟨w.heap.size + 1, 0, none⟩ x).setCell ⟨w.heap.size + 1, 1, none⟩ y).ownsRow (w.heap.size + 3) 35 5 (.slice va k vc) k (outs.map tabL).flatten ∧ outs.length = k ∧
    ∀ (j : Nat) (t : Tab) (l : List Col), ts[j]? = some (t, l) → ∀ t', outs[j]? = some t' → CopyAt (w.heap.size + 3) (.slice va k vc) t l t' ((W.setCell ⟨w.heap.size + 1, 0, none⟩ x).setCell ⟨w.heap.size + 1, 1, none⟩ y) :=
  ⟨(h.below.setCell (p := ⟨w.heap.size + 1, 0, none⟩) (Nat.le_succ _) _).setCell (p := ⟨w.heap.size + 1, 1, none⟩) (Nat.le_succ _) _, own_set (own_set h.own _ _ _ (by omega)) _ _ _ (by omega), h.len,
    fun j t l hj t' ht => ((h.copy j t l hj t' ht).setCell _ _ _ (by omega)).setCell _ _ _ (by omega)⟩
/-- what is read of the tables of a schema: their cells, their columns -/
def DeepAt (w : World) (A : Option Addr) (ts : List (Tab × List Col)) : Prop := TabsAt w A (ts.map Prod.fst) ∧ ∀ p ∈ ts, ColsAt w p.1.ca p.2 ∧ p.1.cn = p.2.length ∧ p.2.length ≤ p.1.cc ∧ (p.1.ca = none → p.1.cc = 0)
end Go.Proofs.YtacodkmbefhicaaGreatDoor
