/- The stable sort by names as plain lists: one element that sinks, all of them in turn; and the same as an insertion of each behind the ones so far. Schemas as plain data; a schema of the call's own in memory; what Clone answers is one. A schema of the call's own in a variable: behind a change of its rows; the answers of what changes a schema; the plain functions. The finds as one number each; the boxes of PutIndex. -/
import Derived.Test.YtcgpflkaejbkhaaGreatDoorJU
namespace Go.Proofs.YtcgpflkaejbkhaaGreatDoor
open Go.RowKit

/-- two neighbours change places -/
def swapG {α : Type} (l : List α) (j : Nat) : List α := match l[j]?, l[j + 1]? with
  | some x, some y => (l.set j y).set (j + 1) x
  | _, _ => l
/-- the element at a place goes ahead of those that it comes ahead of -/
def sinkG {α : Type} (nm : α → ByteArray) : Nat → List α → List α
  | 0, l => l
  | j + 1, l => match l[j]?, l[j + 1]? with
    | some x, some y => if ltN (nm y) (nm x) then sinkG nm j (swapG l j) else l
    | _, _ => l
def isortG {α : Type} (nm : α → ByteArray) : Nat → Nat → List α → List α
  | 0, _, l => l
  | f + 1, i, l => isortG nm f (i + 1) (sinkG nm i l)
def sortG {α : Type} (nm : α → ByteArray) (l : List α) : List α := isortG nm (l.length - 1) 1 l
theorem swapG_len {α : Type} (l : List α) (j : Nat) : (swapG l j).length = l.length := by
  unfold swapG
  split <;> simp
theorem sinkG_len {α : Type} (nm : α → ByteArray) : ∀ (j : Nat) (l : List α), (sinkG nm j l).length = l.length := by
  intro j
  induction j with
  | zero => intro l; rfl
  | succ j ih =>
    intro l
    unfold sinkG
    split
    · split
      · rw [ih, swapG_len]
      · rfl
    · rfl
theorem isortG_len {α : Type} (nm : α → ByteArray) : ∀ (f i : Nat) (l : List α), (isortG nm f i l).length = l.length := by
  intro f
  induction f with
  | zero => exact fun i l => rfl
  | succ f ih => exact fun i l => (ih _ _).trans (sinkG_len _ _ _)
theorem sortG_len {α : Type} (nm : α → ByteArray) (l : List α) : (sortG nm l).length = l.length := isortG_len _ _ _ _
theorem swapG_map {α β : Type} (f : α → β) (l : List α) (j : Nat) : (swapG l j).map f = swapG (l.map f) j := by
  unfold swapG
  rw [List.getElem?_map, List.getElem?_map]
  cases h1 : l[j]? with
  | none => rfl
  | some x =>
    cases h2 : l[j + 1]? with
    | none => rfl
    | some y => simp only [Option.map_some, List.map_set]
theorem sinkG_map {α β : Type} (na : α → ByteArray) (nb : β → ByteArray) (f : α → β) (hf : ∀ x, nb (f x) = na x) : ∀ (j : Nat) (l : List α), (sinkG na j l).map f = sinkG nb j (l.map f) := by
  intro j
  induction j with
  | zero => exact fun l => rfl
  | succ j ih =>
    intro l
    unfold sinkG
    rw [List.getElem?_map, List.getElem?_map]
    cases h1 : l[j]? with
    | none => rfl
    | some x =>
      cases h2 : l[j + 1]? with
      | none => rfl
      | some y =>
        simp only [Option.map_some, hf]
        split
        · rw [ih, swapG_map]
        · rfl
theorem isortG_map {α β : Type} (na : α → ByteArray) (nb : β → ByteArray) (f : α → β) (hf : ∀ x, nb (f x) = na x) : ∀ (k i : Nat) (l : List α), (isortG na k i l).map f = isortG nb k i (l.map f) := by
  intro k
  induction k with
  | zero => exact fun i l => rfl
  | succ k ih => exact fun i l => (ih _ _).trans (by rw [sinkG_map na nb f hf]; rfl)
theorem sortG_map {α β : Type} (na : α → ByteArray) (nb : β → ByteArray) (f : α → β) (hf : ∀ x, nb (f x) = na x) (l : List α) : (sortG na l).map f = sortG nb (l.map f) := by
  unfold sortG
  rw [isortG_map na nb f hf, List.length_map]
theorem swapG_mem {α : Type} {l : List α} {j : Nat} {x : α} (h : x ∈ swapG l j) : x ∈ l := by
  unfold swapG at h
  split at h
  · rename_i a b ha hb
    rcases List.mem_or_eq_of_mem_set h with h | rfl
    · rcases List.mem_or_eq_of_mem_set h with h | rfl
      · exact h
      · exact List.mem_of_getElem? hb
    · exact List.mem_of_getElem? ha
  · exact h
theorem sinkG_mem {α : Type} (nm : α → ByteArray) : ∀ (j : Nat) (l : List α) (x : α), x ∈ sinkG nm j l → x ∈ l := by
  intro j
  induction j with
  | zero => exact fun l x h => h
  | succ j ih =>
    intro l x h
    unfold sinkG at h
    split at h
    · split at h
      · exact swapG_mem (ih _ _ h)
      · exact h
    · exact h
theorem isortG_mem {α : Type} (nm : α → ByteArray) : ∀ (f i : Nat) (l : List α) (x : α), x ∈ isortG nm f i l → x ∈ l := by
  intro f
  induction f with
  | zero => exact fun i l x h => h
  | succ f ih => exact fun i l x h => sinkG_mem _ _ _ _ (ih _ _ _ h)
theorem sortG_mem {α : Type} (nm : α → ByteArray) {l : List α} {x : α} (h : x ∈ sortG nm l) : x ∈ l := isortG_mem _ _ _ _ _ h
theorem swapT_G (l : List Tab) (j : Nat) : swapT l j = swapG l j := by
  unfold swapT swapG
  cases l[j]? with
  | none => rfl
  | some x => cases l[j + 1]? <;> rfl
theorem sinkT_G : ∀ (j : Nat) (l : List Tab), sinkT j l = sinkG Tab.name j l := by
  intro j
  induction j with
  | zero => exact fun l => rfl
  | succ j ih =>
    intro l
    unfold sinkT sinkG
    cases h1 : l[j]? with
    | none => rfl
    | some x =>
      cases h2 : l[j + 1]? with
      | none => rfl
      | some y =>
        dsimp only
        split
        · rw [swapT_G]; exact ih _
        · rfl
theorem isortT_G : ∀ (f i : Nat) (l : List Tab), isortT f i l = isortG Tab.name f i l := by
  intro f
  induction f with
  | zero => exact fun i l => rfl
  | succ f ih => exact fun i l => (ih _ _).trans (by rw [sinkT_G]; rfl)
theorem sortT_G (l : List Tab) : sortT l = sortG Tab.name l := isortT_G _ _ _
theorem swapX_G (l : List Idx) (j : Nat) : swapX l j = swapG l j := by
  unfold swapX swapG
  cases l[j]? with
  | none => rfl
  | some x => cases l[j + 1]? <;> rfl
theorem sinkX_G : ∀ (j : Nat) (l : List Idx), sinkX j l = sinkG Idx.name j l := by
  intro j
  induction j with
  | zero => exact fun l => rfl
  | succ j ih =>
    intro l
    unfold sinkX sinkG
    cases h1 : l[j]? with
    | none => rfl
    | some x =>
      cases h2 : l[j + 1]? with
      | none => rfl
      | some y =>
        dsimp only
        split
        · rw [swapX_G]; exact ih _
        · rfl
theorem isortX_G : ∀ (f i : Nat) (l : List Idx), isortX f i l = isortG Idx.name f i l := by
  intro f
  induction f with
  | zero => exact fun i l => rfl
  | succ f ih => exact fun i l => (ih _ _).trans (by rw [sinkX_G]; rfl)
theorem sortX_G (l : List Idx) : sortX l = sortG Idx.name l := isortX_G _ _ _
theorem swapG_app {α : Type} (p : List α) (a x : α) (q : List α) : swapG (p ++ a :: x :: q) p.length = p ++ x :: a :: q := by
  unfold swapG
  rw [List.getElem?_append_right (Nat.le_refl _), List.getElem?_append_right (by omega), Nat.sub_self, show p.length + 1 - p.length = 1 by omega]
  simp only [List.getElem?_cons_zero, List.getElem?_cons_succ]
  rw [List.set_append_right _ _ (Nat.le_refl _), Nat.sub_self, List.set_append_right _ _ (by omega), show p.length + 1 - p.length = 1 by omega]
  rfl
/-- one step of sinking -/
theorem sinkG_step {α : Type} (nm : α → ByteArray) (p : List α) (a x : α) (q : List α) : sinkG nm (p.length + 1) (p ++ a :: x :: q) = if ltN (nm x) (nm a) then sinkG nm p.length (p ++ x :: a :: q) else p ++ a :: x :: q := by
  conv => lhs; unfold sinkG
  rw [swapG_app, List.getElem?_append_right (Nat.le_refl _), List.getElem?_append_right (by omega), Nat.sub_self, show p.length + 1 - p.length = 1 by omega]
  simp only [List.getElem?_cons_zero, List.getElem?_cons_succ]
/-- sinking leaves what stands behind -/
theorem sinkG_app {α : Type} (nm : α → ByteArray) (r : List α) : ∀ (p q : List α) (x : α), sinkG nm p.length (p ++ x :: (q ++ r)) = sinkG nm p.length (p ++ x :: q) ++ r := by
  intro p
  obtain ⟨n, hn⟩ : ∃ n, n = p.length := ⟨_, rfl⟩
  induction n generalizing p with
  | zero =>
    intro q x
    obtain rfl := List.length_eq_zero_iff.1 hn.symm
    rfl
  | succ n ih =>
    intro q x
    obtain ⟨p', a, rfl⟩ : ∃ p' a, p = p' ++ [a] := by
      refine ⟨p.dropLast, p.getLast (fun e => by rw [e] at hn; cases hn), ?_⟩
      rw [List.dropLast_concat_getLast]
    rw [List.length_append, List.append_assoc, List.append_assoc]
    show sinkG nm (p'.length + 1) (p' ++ a :: x :: (q ++ r)) = sinkG nm (p'.length + 1) (p' ++ a :: x :: q) ++ r
    rw [sinkG_step, sinkG_step]
    split
    · have := ih p' (by rw [List.length_append] at hn; simpa using hn) (a :: q) x
      exact this
    · simp
/-- an element behind others, sunk -/
def insG {α : Type} (nm : α → ByteArray) (out : List α) (x : α) : List α := sinkG nm out.length (out ++ [x])
theorem insG_len {α : Type} (nm : α → ByteArray) (out : List α) (x : α) : (insG nm out x).length = out.length + 1 := by
  unfold insG
  rw [sinkG_len, List.length_append]
  rfl
theorem isortG_fold {α : Type} (nm : α → ByteArray) : ∀ (q p : List α), isortG nm q.length p.length (p ++ q) = q.foldl (insG nm) p := by
  intro q
  induction q with
  | nil => intro p; simp [isortG]
  | cons x q ih =>
    intro p
    rw [List.foldl_cons, ← ih, insG_len]
    show isortG nm q.length (p.length + 1) (sinkG nm p.length (p ++ x :: q)) = _
    have := sinkG_app nm q p [] x
    rw [List.nil_append] at this
    rw [this]
    rfl
theorem sortG_fold {α : Type} (nm : α → ByteArray) (l : List α) : sortG nm l = l.foldl (insG nm) [] := by
  cases l with
  | nil => rfl
  | cons x l =>
    have := isortG_fold nm l [x]
    show isortG nm l.length 1 (x :: l) = l.foldl (insG nm) (insG nm [] x)
    exact this
end Go.Proofs.YtcgpflkaejbkhaaGreatDoor
namespace Go.Proofs.YtcgpflkaejbkhaaGreatDoor
open Go.RowKit

/-- a table as plain data -/
structure PT where
  name : ByteArray
  cols : List Col
  root : Int
  next : Int
  rows : Int
/-- an index as plain data -/
structure PX where
  name : ByteArray
  table : ByteArray
  places : List Int
  state : Int
  root : Int
  cursor : Int
def ptOf (p : Tab × List Col) : PT := ⟨p.1.name, p.2, p.1.root, p.1.next, p.1.rows⟩
def pxOf (p : Idx × List Int) : PX := ⟨p.1.name, p.1.table, p.2, p.1.state, p.1.root, p.1.cursor⟩
/-- a row of cells at the beginning of a block above a base -/
def RowsAt (W : World) (base e n : Nat) (v : Value) (xs : List Value) : Prop := (v = .slice none 0 0 ∧ n = 0 ∧ xs = []) ∨ ∃ (g cap : Nat) (rest : List Value), v = .slice (some ⟨g, 0, none⟩) n cap ∧ base ≤ g ∧ n ≤ cap ∧ W.heap[g]? = some (.cells (xs ++ rest).toArray e (0, 0))
theorem RowsAt.of_own {W : World} {base e K n : Nat} {v : Value} {xs : List Value} (h : W.ownsRow base e K v n xs) : RowsAt W base e n v xs := by
  obtain ⟨hl, hr⟩ := h
  rcases hr with ⟨rfl, h0⟩ | ⟨g, cap, cur, rfl, hb, hh, hnc, _, _, ht⟩
  · subst h0
    rw [Nat.zero_mul] at hl
    exact Or.inl ⟨rfl, rfl, List.length_eq_zero_iff.1 hl⟩
  · refine Or.inr ⟨g, cap, cur.toList.drop (n * K), rfl, hb, hnc, ?_⟩
    rw [← ht, List.take_append_drop]
    simpa using hh
theorem RowsAt.block {W : World} {base e n : Nat} {v : Value} {xs : List Value} (h : RowsAt W base e n v xs) {k : Nat} (hk : v.ownBlock = some k) : base ≤ k ∧ k < W.heap.size ∧ ∃ row : Array Value, W.heap[k]? = some (.cells row e (0, 0)) := by
  rcases h with ⟨rfl, _⟩ | ⟨g, cap, rest, rfl, hb, _, hh⟩
  · cases hk
  · have : g = k := Option.some.inj hk
    subst this
    exact ⟨hb, heap_lt hh, _, hh⟩
theorem RowsAt.grown {W W' : World} {base e n : Nat} {v : Value} {xs : List Value} (h : RowsAt W base e n v xs) {r : Option Nat} (hg : W.grownBy W' r) (hr : ∀ k, v.ownBlock = some k → r ≠ some k) : RowsAt W' base e n v xs := by
  refine h.imp id fun ⟨g, cap, rest, e1, e2, e3, e4⟩ => ⟨g, cap, rest, e1, e2, e3, ?_⟩
  rw [hg.block g (heap_lt e4) (fun e => hr g (by rw [e1]; rfl) e.symm)]
  exact e4
theorem RowsAt.le {W : World} {base base' e n : Nat} {v : Value} {xs : List Value} (h : RowsAt W base e n v xs) (hb : base' ≤ base) : RowsAt W base' e n v xs :=
  h.imp id fun ⟨g, cap, rest, e1, e2, e3, e4⟩ => ⟨g, cap, rest, e1, Nat.le_trans hb e2, e3, e4⟩
theorem RowsAt.cells {W : World} {base e K n c : Nat} {A : Option Addr} {ls : List (List Value)} (h : RowsAt W base e n (.slice A n c) ls.flatten) (hK : 0 < K) (hl : ∀ x ∈ ls, x.length = K) (hn : ls.length ≤ 1000) : CellsAt W K A ls ∧ n ≤ c ∧ (A = none → ls = [] ∧ c = 0) := by
  rcases h with ⟨e1, e2, e3⟩ | ⟨g, cap, rest, e1, e2, e3, e4⟩
  · cases e1
    have h0 : ls.length * K = 0 := by rw [← flat_len hl, e3]; rfl
    have : ls = [] := by
      rcases Nat.mul_eq_zero.1 h0 with h | h
      · exact List.length_eq_zero_iff.1 h
      · omega
    subst this
    exact ⟨CellsAt.nil_at _ _ _, Nat.le_refl _, fun _ => ⟨rfl, rfl⟩⟩
  · cases e1
    refine ⟨⟨by unfold maxLen; omega, Or.inr ⟨g, 0, rfl, heap_lt e4, fun j x hx => ⟨hl x (List.mem_of_getElem? hx), fun i u hu => ?_⟩⟩⟩, e3, fun h => by cases h⟩
    rw [cell_of_row W g _ _ _ _ e4]
    have e := flat_get hl hx hu
    have hlt := (List.getElem?_eq_some_iff.1 e).1
    rw [List.getElem?_toArray, Nat.zero_add, List.getElem?_append_left hlt]
    exact e
/-- a block of the call's own, apart from the two rows -/
def FreeB (base h : Nat) (v u : Value) (W : World) (k : Nat) : Prop := base ≤ k ∧ k ≠ h ∧ k < W.heap.size ∧ v.ownBlock ≠ some k ∧ u.ownBlock ≠ some k
theorem FreeB.grown {base h : Nat} {v u : Value} {W W' : World} {k : Nat} (hf : FreeB base h v u W k) {r : Option Nat} (hg : W.grownBy W' r) : FreeB base h v u W' k := ⟨hf.1, hf.2.1, Nat.lt_of_lt_of_le hf.2.2.1 hg.size, hf.2.2.2⟩
def OwnTab (base h : Nat) (v u : Value) (W : World) (p : Tab × List Col) : Prop := ColsU W p.1.ca p.2 ∧ p.1.cn = p.2.length ∧ p.2.length ≤ p.1.cc ∧ (p.1.ca = none → p.1.cc = 0) ∧ p.2.length ≤ 1000 ∧ ∀ a, p.1.ca = some a → FreeB base h v u W a.block
def OwnIdx (base h : Nat) (v u : Value) (W : World) (p : Idx × List Int) : Prop := IntsU W p.1.pa p.2 ∧ p.1.pn = p.2.length ∧ p.2.length ≤ p.1.pc ∧ (p.1.pa = none → p.1.pc = 0) ∧ p.2.length ≤ 1000 ∧ ∀ a, p.1.pa = some a → FreeB base h v u W a.block
/-- a schema whose blocks all lie above a base, none of them at h -/
structure OwnS (base h : Nat) (v u : Value) (ts : List (Tab × List Col)) (xs : List (Idx × List Int)) (W : World) : Prop where
  tab : RowsAt W base 25 ts.length v ((ts.map Prod.fst).map tabL).flatten
  idx : RowsAt W base 28 xs.length u ((xs.map Prod.fst).map idxL).flatten
  rows : v.ownBlock ≠ some h ∧ u.ownBlock ≠ some h
  cols : ∀ p ∈ ts, OwnTab base h v u W p
  places : ∀ p ∈ xs, OwnIdx base h v u W p
theorem OwnTab.grown {base h : Nat} {v u : Value} {W W' : World} {p : Tab × List Col} (ht : OwnTab base h v u W p) {r : Option Nat} (hg : W.grownBy W' r) (hr : ∀ k, FreeB base h v u W k → r ≠ some k) : OwnTab base h v u W' p := by
  obtain ⟨h1, h2, h3, h4, h5, h6⟩ := ht
  exact ⟨ColsU.grown h1 hg (fun a ha => hr _ (h6 a ha)), h2, h3, h4, h5, fun a ha => (h6 a ha).grown hg⟩
theorem OwnIdx.grown {base h : Nat} {v u : Value} {W W' : World} {p : Idx × List Int} (ht : OwnIdx base h v u W p) {r : Option Nat} (hg : W.grownBy W' r) (hr : ∀ k, FreeB base h v u W k → r ≠ some k) : OwnIdx base h v u W' p := by
  obtain ⟨h1, h2, h3, h4, h5, h6⟩ := ht
  exact ⟨IntsU.grown h1 hg (fun a ha => hr _ (h6 a ha)), h2, h3, h4, h5, fun a ha => (h6 a ha).grown hg⟩
theorem OwnS.grown {base h : Nat} {v u : Value} {ts : List (Tab × List Col)} {xs : List (Idx × List Int)} {W W' : World} (hS : OwnS base h v u ts xs W) {r : Option Nat} (hg : W.grownBy W' r) (hr : ∀ k, r = some k → k < base ∨ k = h) : OwnS base h v u ts xs W' := by
  have hf : ∀ k, FreeB base h v u W k → r ≠ some k := fun k hk e => by
    have h1 := hk.1
    have h2 := hk.2.1
    rcases hr k e with q | q
    · omega
    · exact h2 q
  refine ⟨hS.tab.grown hg fun k hk e => ?_, hS.idx.grown hg fun k hk e => ?_, hS.rows, fun p hp => (hS.cols p hp).grown hg hf, fun p hp => (hS.places p hp).grown hg hf⟩
  · rcases hr k e with q | q
    · have := (hS.tab.block hk).1; omega
    · exact hS.rows.1 (by rw [hk, q])
  · rcases hr k e with q | q
    · have := (hS.idx.block hk).1; omega
    · exact hS.rows.2 (by rw [hk, q])
theorem grown_of_below {W W' : World} (hB : Below W.heap.size W W') (r : Option Nat) : W.grownBy W' r := ⟨hB.os, hB.tape, hB.output, hB.size, fun k hk _ => hB.block k hk⟩
theorem OwnS.keep {base h : Nat} {v u : Value} {ts : List (Tab × List Col)} {xs : List (Idx × List Int)} {W W' : World} (hS : OwnS base h v u ts xs W) (hB : Below W.heap.size W W') : OwnS base h v u ts xs W' :=
  hS.grown (grown_of_below hB none) (fun k hk => by cases hk)
theorem OwnS.box {base h : Nat} {v u : Value} {ts : List (Tab × List Col)} {xs : List (Idx × List Int)} {W : World} (hS : OwnS base h v u ts xs W) (b j : Nat) (x : Value) (hb : b < base ∨ b = h) : OwnS base h v u ts xs (W.setCell ⟨b, j, none⟩ x) :=
  hS.grown (grown_set W b j x) (fun k hk => by cases hk; exact hb)
theorem OwnS.apart {base h : Nat} {v u : Value} {ts : List (Tab × List Col)} {xs : List (Idx × List Int)} {W : World} (hS : OwnS base h v u ts xs W) {k : Nat} (hv : v.ownBlock = some k) : u.ownBlock ≠ some k := fun hu => by
  obtain ⟨_, _, r1, e1⟩ := hS.tab.block hv
  obtain ⟨_, _, r2, e2⟩ := hS.idx.block hu
  rw [e1] at e2
  cases e2
/-- another row of tables -/
theorem OwnS.retab {base h : Nat} {v v' u : Value} {ts ts' : List (Tab × List Col)} {xs : List (Idx × List Int)} {W W' : World} (hS : OwnS base h v u ts xs W) (hg : W.grownBy W' v.ownBlock) (hv : v'.ownBlock = v.ownBlock ∨ v'.ownBlock = some W.heap.size) (hh : h < W.heap.size)
    (hrow : RowsAt W' base 25 ts'.length v' ((ts'.map Prod.fst).map tabL).flatten) (hd : ∀ p ∈ ts', OwnTab base h v u W p) : OwnS base h v' u ts' xs W' := by
  have hf : ∀ k, FreeB base h v u W k → FreeB base h v' u W' k := fun k hk => by
    refine ⟨hk.1, hk.2.1, Nat.lt_of_lt_of_le hk.2.2.1 hg.size, fun e => ?_, hk.2.2.2.2⟩
    rcases hv with q | q
    · exact hk.2.2.2.1 (q ▸ e)
    · have := hk.2.2.1
      rw [q] at e
      have := Option.some.inj e
      omega
  have hi := hS.idx.grown hg (fun k hk e => hS.apart e hk)
  refine ⟨hrow, hi, ⟨fun e => ?_, hS.rows.2⟩, fun p hp => ?_, fun p hp => ?_⟩
  · rcases hv with q | q
    · exact hS.rows.1 (q ▸ e)
    · rw [q] at e
      have := Option.some.inj e
      omega
  · obtain ⟨h1, h2, h3, h4, h5, h6⟩ := hd p hp
    exact ⟨ColsU.grown h1 hg (fun a ha => (h6 a ha).2.2.2.1), h2, h3, h4, h5, fun a ha => hf _ (h6 a ha)⟩
  · obtain ⟨h1, h2, h3, h4, h5, h6⟩ := hS.places p hp
    exact ⟨IntsU.grown h1 hg (fun a ha => (h6 a ha).2.2.2.1), h2, h3, h4, h5, fun a ha => hf _ (h6 a ha)⟩
/-- another row of indexes -/
theorem OwnS.reidx {base h : Nat} {v u u' : Value} {ts : List (Tab × List Col)} {xs xs' : List (Idx × List Int)} {W W' : World} (hS : OwnS base h v u ts xs W) (hg : W.grownBy W' u.ownBlock) (hv : u'.ownBlock = u.ownBlock ∨ u'.ownBlock = some W.heap.size) (hh : h < W.heap.size)
    (hrow : RowsAt W' base 28 xs'.length u' ((xs'.map Prod.fst).map idxL).flatten) (hd : ∀ p ∈ xs', OwnIdx base h v u W p) : OwnS base h v u' ts xs' W' := by
  have hf : ∀ k, FreeB base h v u W k → FreeB base h v u' W' k := fun k hk => by
    refine ⟨hk.1, hk.2.1, Nat.lt_of_lt_of_le hk.2.2.1 hg.size, hk.2.2.2.1, fun e => ?_⟩
    rcases hv with q | q
    · exact hk.2.2.2.2 (q ▸ e)
    · have := hk.2.2.1
      rw [q] at e
      have := Option.some.inj e
      omega
  have hi := hS.tab.grown hg (fun k hk e => hS.apart hk e)
  refine ⟨hi, hrow, ⟨hS.rows.1, fun e => ?_⟩, fun p hp => ?_, fun p hp => ?_⟩
  · rcases hv with q | q
    · exact hS.rows.2 (q ▸ e)
    · rw [q] at e
      have := Option.some.inj e
      omega
  · obtain ⟨h1, h2, h3, h4, h5, h6⟩ := hS.cols p hp
    exact ⟨ColsU.grown h1 hg (fun a ha => (h6 a ha).2.2.2.2), h2, h3, h4, h5, fun a ha => hf _ (h6 a ha)⟩
  · obtain ⟨h1, h2, h3, h4, h5, h6⟩ := hd p hp
    exact ⟨IntsU.grown h1 hg (fun a ha => (h6 a ha).2.2.2.2), h2, h3, h4, h5, fun a ha => hf _ (h6 a ha)⟩
theorem OwnS.le {base base' h : Nat} {v u : Value} {ts : List (Tab × List Col)} {xs : List (Idx × List Int)} {W : World} (hS : OwnS base h v u ts xs W) (hb : base' ≤ base) : OwnS base' h v u ts xs W := by
  have hf : ∀ k, FreeB base h v u W k → FreeB base' h v u W k := fun k hk => ⟨Nat.le_trans hb hk.1, hk.2⟩
  refine ⟨hS.tab.le hb, hS.idx.le hb, hS.rows, fun p hp => ?_, fun p hp => ?_⟩
  · obtain ⟨h1, h2, h3, h4, h5, h6⟩ := hS.cols p hp
    exact ⟨h1, h2, h3, h4, h5, fun a ha => hf _ (h6 a ha)⟩
  · obtain ⟨h1, h2, h3, h4, h5, h6⟩ := hS.places p hp
    exact ⟨h1, h2, h3, h4, h5, fun a ha => hf _ (h6 a ha)⟩
theorem OwnS.deepT {base h n c : Nat} {A : Option Addr} {u : Value} {ts : List (Tab × List Col)} {xs : List (Idx × List Int)} {W : World} (hS : OwnS base h (.slice A n c) u ts xs W) (hn : n = ts.length) (hl : ts.length ≤ 1000) : DeepAt W A ts := by
  subst hn
  exact ⟨(RowsAt.cells hS.tab (by omega) (tab_len _) (by rw [List.length_map, List.length_map]; exact hl)).1, fun p hp => by
    obtain ⟨h1, h2, h3, h4, h5, h6⟩ := hS.cols p hp
    exact ⟨h1.1, h2, h3, h4⟩⟩
theorem OwnS.deepX {base h n c : Nat} {A : Option Addr} {v : Value} {ts : List (Tab × List Col)} {xs : List (Idx × List Int)} {W : World} (hS : OwnS base h v (.slice A n c) ts xs W) (hn : n = xs.length) (hl : xs.length ≤ 1000) : DeepIx W A xs := by
  subst hn
  exact ⟨(RowsAt.cells hS.idx (by omega) (idx_len _) (by rw [List.length_map, List.length_map]; exact hl)).1, fun p hp => by
    obtain ⟨h1, h2, h3, h4, h5, h6⟩ := hS.places p hp
    exact ⟨h1.1, h2, h3, h4⟩⟩
theorem zip_at {α β γ : Type} {outs : List γ} {ts : List (α × β)} (hl : outs.length = ts.length) : (outs.zip (ts.map Prod.snd)).map Prod.fst = outs ∧ (outs.zip (ts.map Prod.snd)).length = ts.length ∧ ∀ (j : Nat) (p : γ × β), (outs.zip (ts.map Prod.snd))[j]? = some p → outs[j]? = some p.1 ∧ ∃ t, ts[j]? = some (t, p.2) := by
  refine ⟨List.map_fst_zip (by rw [List.length_map]; omega), by rw [List.length_zip, List.length_map]; omega, fun j p hp => ?_⟩
  obtain ⟨h1, h2⟩ := List.getElem?_zip_eq_some.1 hp
  rw [List.getElem?_map, Option.map_eq_some_iff] at h2
  obtain ⟨⟨t, l⟩, h3, h4⟩ := h2
  exact ⟨h1, t, by rw [h3]; cases h4; rfl⟩
theorem own_le {w : World} {base base' e size n : Nat} {v : Value} {xs : List Value} (h : w.ownsRow base e size v n xs) (hb : base' ≤ base) : w.ownsRow base' e size v n xs :=
  ⟨h.1, h.2.imp id fun ⟨g, cap, cur, e1, e2, e3⟩ => ⟨g, cap, cur, e1, Nat.le_trans hb e2, e3⟩⟩
/-- what Clone answers -/
def CloneO (w : World) (ts : List (Tab × List Col)) (xs : List (Idx × List Int)) (e : Ending) (w' : World) : Prop := ∃ (va ua : Option Addr) (vc uc : Nat) (ts' : List (Tab × List Col)) (xs' : List (Idx × List Int)), e = .returned (.agg #[.slice va ts.length vc, .slice ua xs.length uc]) ∧ Below w.heap.size w w' ∧
  (∀ h, w'.heap.size ≤ h → OwnS (w.heap.size + 3) h (.slice va ts.length vc) (.slice ua xs.length uc) ts' xs' w') ∧ ts'.map ptOf = ts.map ptOf ∧ xs'.map pxOf = xs.map pxOf ∧
  w'.ownsRow (w.heap.size + 3) 25 5 (.slice va ts.length vc) ts.length ((ts'.map Prod.fst).map tabL).flatten ∧ w'.ownsRow (w.heap.size + 3) 28 6 (.slice ua xs.length uc) xs.length ((xs'.map Prod.fst).map idxL).flatten ∧ w.heap.size + 3 ≤ w'.heap.size
theorem clone_own {w : World} {ts : List (Tab × List Col)} {xs : List (Idx × List Int)} (hl : ∀ p ∈ ts, p.2.length ≤ 1000) (hlx : ∀ p ∈ xs, p.2.length ≤ 1000) {e : Ending} {w' : World} (h : ClonePI w ts xs e w') : CloneO w ts xs e w' := by
  obtain ⟨va, ua, vc, uc, outs, outx, B, rfl, hB, hB3, hBs, o1, l1, c1, d1, o2, l2, d2⟩ := h
  obtain ⟨z1, z2, z3⟩ := zip_at l1
  obtain ⟨y1, y2, y3⟩ := zip_at l2
  have hu : ∀ k, (Value.slice ua xs.length uc).ownBlock = some k → B ≤ k ∧ k < w'.heap.size := fun k hk => o2.lt k hk
  have hv : ∀ k, (Value.slice va ts.length vc).ownBlock = some k → w.heap.size + 3 ≤ k ∧ k < B := fun k hk => ⟨(o1.lt k hk).1, c1 k hk⟩
  refine ⟨va, ua, vc, uc, outs.zip (ts.map Prod.snd), outx.zip (xs.map Prod.snd), rfl, hB, fun hh hle => ?_, ?_, ?_, by rw [z1]; exact o1, by rw [y1]; exact own_le o2 hB3, by omega⟩
  · refine ⟨by rw [z1, z2]; exact RowsAt.of_own o1, by rw [y1, y2]; exact (RowsAt.of_own o2).le hB3, ⟨fun e => by have := hv _ e; omega, fun e => by have := hu _ e; omega⟩, fun p hp => ?_, fun p hp => ?_⟩
    · obtain ⟨j, hj⟩ := List.mem_iff_getElem?.1 hp
      obtain ⟨q1, t, q2⟩ := z3 j p hj
      obtain ⟨⟨f1, f2, f3, f4, f5, f6, f7, f8, f9, f10⟩, f11⟩ := d1 j t p.2 q2 p.1 q1
      refine ⟨f7, f5, f6, f9, hl (t, p.2) (List.mem_of_getElem? q2), fun a ha => ?_⟩
      have g1 := f8 a ha
      have g2 := f11 a ha
      exact ⟨g1.1, by omega, g1.2.1, g1.2.2, fun e => by have := hu _ e; omega⟩
    · obtain ⟨j, hj⟩ := List.mem_iff_getElem?.1 hp
      obtain ⟨q1, t, q2⟩ := y3 j p hj
      obtain ⟨f1, f2, f3, f4, f5, f6, f7, f8, f9, f10, f11⟩ := d2 j t p.2 q2 p.1 q1
      refine ⟨f8, f6, f7, f10, hlx (t, p.2) (List.mem_of_getElem? q2), fun a ha => ?_⟩
      have g1 := f9 a ha
      exact ⟨by omega, by omega, g1.2.1, fun e => by have := hv _ e; omega, g1.2.2⟩
  · apply List.ext_getElem?
    intro j
    rw [List.getElem?_map, List.getElem?_map]
    by_cases hj : j < ts.length
    · have e1 := List.getElem?_eq_getElem (l := outs.zip (ts.map Prod.snd)) (i := j) (by omega)
      obtain ⟨q1, t, q2⟩ := z3 j _ e1
      obtain ⟨⟨f1, f2, f3, f4, _⟩, _⟩ := d1 j t _ q2 _ q1
      rw [e1, q2]
      simp only [Option.map_some, ptOf, f1, f2, f3, f4]
    · rw [List.getElem?_eq_none (by omega), List.getElem?_eq_none (by omega)]
  · apply List.ext_getElem?
    intro j
    rw [List.getElem?_map, List.getElem?_map]
    by_cases hj : j < xs.length
    · have e1 := List.getElem?_eq_getElem (l := outx.zip (xs.map Prod.snd)) (i := j) (by omega)
      obtain ⟨q1, t, q2⟩ := y3 j _ e1
      obtain ⟨f1, f2, f3, f4, f5, _⟩ := d2 j t _ q2 _ q1
      rw [e1, q2]
      simp only [Option.map_some, pxOf, f1, f2, f3, f4, f5]
    · rw [List.getElem?_eq_none (by omega), List.getElem?_eq_none (by omega)]
theorem clones_own (A : Option Addr) (c : Nat) (ts : List (Tab × List Col)) (ia : Option Addr) (ic : Nat) (xs : List (Idx × List Int)) (w : World) (h : DeepAt w A ts) (hx0 : DeepIx w ia xs) (hn : ts.length ≤ 1000) (hm : xs.length ≤ 1000) (hl : ∀ p ∈ ts, p.2.length ≤ 1000) (hlx : ∀ p ∈ xs, p.2.length ≤ 1000) :
    Calls Tryz.prog 10 #[.agg #[.slice A ts.length c, .slice ia xs.length ic]] w (CloneO w ts xs) :=
  (clones_any A c ts ia ic xs w h hx0 hn hm hl hlx).mono fun _ _ h => clone_own hl hlx h
end Go.Proofs.YtcgpflkaejbkhaaGreatDoor
namespace Go.Proofs.YtcgpflkaejbkhaaGreatDoor
open Go.RowKit

/-- the boxes: an answer at q, a schema of the call's own at b -/
structure MidS (w : World) (q base b : Nat) (v u : Value) (ts : List (Tab × List Col)) (xs : List (Idx × List Int)) (W : World) : Prop where
  below : Below w.heap.size w W
  ans : W.heap[q]? = some (.cells #[.slice none 0 0, .slice none 0 0] 36)
  out : W.heap[b]? = some (.cells #[v, u] 36)
  own : OwnS base b v u ts xs W
  far : w.heap.size ≤ q ∧ q < base ∧ base ≤ b
theorem MidS.keep {w : World} {q base b : Nat} {v u : Value} {ts : List (Tab × List Col)} {xs : List (Idx × List Int)} {W W' : World} (h : MidS w q base b v u ts xs W) (hB : Below W.heap.size W W') : MidS w q base b v u ts xs W' :=
  ⟨h.below.trans (hB.mono h.below.size), (hB.block _ (heap_lt h.ans)).trans h.ans, (hB.block _ (heap_lt h.out)).trans h.out, h.own.keep hB, h.far⟩
theorem MidS.row_t {w : World} {q base b : Nat} {v u : Value} {ts : List (Tab × List Col)} {xs : List (Idx × List Int)} {W : World} (h : MidS w q base b v u ts xs W) {k : Nat} (hk : v.ownBlock = some k) : w.heap.size ≤ k ∧ k ≠ q ∧ k ≠ b := by
  have h1 := (h.own.tab.block hk).1
  have h2 := h.far
  exact ⟨by omega, by omega, fun e => h.own.rows.1 (by rw [hk, e])⟩
theorem MidS.row_x {w : World} {q base b : Nat} {v u : Value} {ts : List (Tab × List Col)} {xs : List (Idx × List Int)} {W : World} (h : MidS w q base b v u ts xs W) {k : Nat} (hk : u.ownBlock = some k) : w.heap.size ≤ k ∧ k ≠ q ∧ k ≠ b := by
  have h1 := (h.own.idx.block hk).1
  have h2 := h.far
  exact ⟨by omega, by omega, fun e => h.own.rows.2 (by rw [hk, e])⟩
/-- another row of tables, in the same block or in a new one; then it goes into the box -/
theorem MidS.retab {w : World} {q base b : Nat} {v v' u : Value} {ts ts' : List (Tab × List Col)} {xs : List (Idx × List Int)} {W W' : World} (h : MidS w q base b v u ts xs W) (hg : W.grownBy W' v.ownBlock) (hv : v'.ownBlock = v.ownBlock ∨ v'.ownBlock = some W.heap.size)
    (hrow : RowsAt W' base 25 ts'.length v' ((ts'.map Prod.fst).map tabL).flatten) (hd : ∀ p ∈ ts', OwnTab base b v u W p) : MidS w q base b v' u ts' xs (W'.setCell ⟨b, 0, none⟩ v') ∧ W'.heap[b]? = some (.cells #[v, u] 36) := by
  have hb := heap_lt h.out
  have hq := heap_lt h.ans
  have h1 := (hg.block b hb (fun e => (h.row_t e.symm).2.2 rfl)).trans h.out
  have h2 := (hg.block q hq (fun e => (h.row_t e.symm).2.1 rfl)).trans h.ans
  have hfar := h.far
  refine ⟨⟨(h.below.grown hg h.below.size (fun k hk => (h.row_t hk).1)).setCell (p := ⟨b, 0, none⟩) (by show w.heap.size ≤ b; omega) _, ?_, ?_, (h.own.retab hg hv hb hrow hd).box _ _ _ (Or.inr rfl), h.far⟩, h1⟩
  · rw [heap_setFar _ (by omega)]; exact h2
  · rw [setCell_eq_setRow W' _ 0 _ 36 _ _ h1]
    exact setRow_heap W' _ _ _ 36 _ h1
theorem MidS.reidx {w : World} {q base b : Nat} {v u u' : Value} {ts : List (Tab × List Col)} {xs xs' : List (Idx × List Int)} {W W' : World} (h : MidS w q base b v u ts xs W) (hg : W.grownBy W' u.ownBlock) (hv : u'.ownBlock = u.ownBlock ∨ u'.ownBlock = some W.heap.size)
    (hrow : RowsAt W' base 28 xs'.length u' ((xs'.map Prod.fst).map idxL).flatten) (hd : ∀ p ∈ xs', OwnIdx base b v u W p) : MidS w q base b v u' ts xs' (W'.setCell ⟨b, 1, none⟩ u') ∧ W'.heap[b]? = some (.cells #[v, u] 36) := by
  have hb := heap_lt h.out
  have hq := heap_lt h.ans
  have h1 := (hg.block b hb (fun e => (h.row_x e.symm).2.2 rfl)).trans h.out
  have h2 := (hg.block q hq (fun e => (h.row_x e.symm).2.1 rfl)).trans h.ans
  have hfar := h.far
  refine ⟨⟨(h.below.grown hg h.below.size (fun k hk => (h.row_x hk).1)).setCell (p := ⟨b, 1, none⟩) (by show w.heap.size ≤ b; omega) _, ?_, ?_, (h.own.reidx hg hv hb hrow hd).box _ _ _ (Or.inr rfl), h.far⟩, h1⟩
  · rw [heap_setFar _ (by omega)]; exact h2
  · rw [setCell_eq_setRow W' _ 1 _ 36 _ _ h1]
    exact setRow_heap W' _ _ _ 36 _ h1
/-- the row of tables is changed where it stands -/
theorem MidS.tabs {w : World} {q base b : Nat} {v u : Value} {ts ts' : List (Tab × List Col)} {xs : List (Idx × List Int)} {W W' : World} (h : MidS w q base b v u ts xs W) (hg : W.grownBy W' v.ownBlock)
    (hrow : RowsAt W' base 25 ts'.length v ((ts'.map Prod.fst).map tabL).flatten) (hd : ∀ p ∈ ts', OwnTab base b v u W p) : MidS w q base b v u ts' xs W' := by
  have hb := heap_lt h.out
  have hq := heap_lt h.ans
  exact ⟨h.below.grown hg h.below.size (fun k hk => (h.row_t hk).1), (hg.block q hq (fun e => (h.row_t e.symm).2.1 rfl)).trans h.ans, (hg.block b hb (fun e => (h.row_t e.symm).2.2 rfl)).trans h.out, h.own.retab hg (Or.inl rfl) hb hrow hd, h.far⟩
theorem MidS.idxs {w : World} {q base b : Nat} {v u : Value} {ts : List (Tab × List Col)} {xs xs' : List (Idx × List Int)} {W W' : World} (h : MidS w q base b v u ts xs W) (hg : W.grownBy W' u.ownBlock)
    (hrow : RowsAt W' base 28 xs'.length u ((xs'.map Prod.fst).map idxL).flatten) (hd : ∀ p ∈ xs', OwnIdx base b v u W p) : MidS w q base b v u ts xs' W' := by
  have hb := heap_lt h.out
  have hq := heap_lt h.ans
  exact ⟨h.below.grown hg h.below.size (fun k hk => (h.row_x hk).1), (hg.block q hq (fun e => (h.row_x e.symm).2.1 rfl)).trans h.ans, (hg.block b hb (fun e => (h.row_x e.symm).2.2 rfl)).trans h.out, h.own.reidx hg (Or.inl rfl) hb hrow hd, h.far⟩
theorem RowsAt.row_t {W : World} {base n g cap : Nat} {l : List Tab} (h : RowsAt W base 25 n (.slice (some ⟨g, 0, none⟩) n cap) (l.map tabL).flatten) : RowT W g l ∧ n ≤ cap ∧ base ≤ g := by
  rcases h with ⟨e1, _⟩ | ⟨g', cap', rest, e1, e2, e3, e4⟩
  · cases e1
  · cases e1
    exact ⟨⟨rest, e4⟩, e3, e2⟩
theorem RowsAt.row_x {W : World} {base n g cap : Nat} {l : List Idx} (h : RowsAt W base 28 n (.slice (some ⟨g, 0, none⟩) n cap) (l.map idxL).flatten) : RowX W g l ∧ n ≤ cap ∧ base ≤ g := by
  rcases h with ⟨e1, _⟩ | ⟨g', cap', rest, e1, e2, e3, e4⟩
  · cases e1
  · cases e1
    exact ⟨⟨rest, e4⟩, e3, e2⟩
theorem RowT.at {W : World} {base n g cap : Nat} {l : List Tab} (h : RowT W g l) (hb : base ≤ g) (hn : n ≤ cap) : RowsAt W base 25 n (.slice (some ⟨g, 0, none⟩) n cap) (l.map tabL).flatten := by
  obtain ⟨rest, hr⟩ := h
  exact Or.inr ⟨g, cap, rest, rfl, hb, hn, hr⟩
theorem RowX.at {W : World} {base n g cap : Nat} {l : List Idx} (h : RowX W g l) (hb : base ≤ g) (hn : n ≤ cap) : RowsAt W base 28 n (.slice (some ⟨g, 0, none⟩) n cap) (l.map idxL).flatten := by
  obtain ⟨rest, hr⟩ := h
  exact Or.inr ⟨g, cap, rest, rfl, hb, hn, hr⟩
theorem MidS.sortT {w : World} {q base b n g cap : Nat} {u : Value} {ts : List (Tab × List Col)} {xs : List (Idx × List Int)} {W W' : World} (h : MidS w q base b (.slice (some ⟨g, 0, none⟩) n cap) u ts xs W) (hn : n = ts.length) (hs : SortW W g n (sortT (ts.map Prod.fst)) W') :
    MidS w q base b (.slice (some ⟨g, 0, none⟩) n cap) u (sortG (fun p => p.1.name) ts) xs W' := by
  obtain ⟨h1, h2, h3⟩ := hs
  have e : (sortG (fun p : Tab × List Col => p.1.name) ts).map Prod.fst = YtcgpflkaejbkhaaGreatDoor.sortT (ts.map Prod.fst) := by
    rw [sortT_G]
    exact sortG_map (fun p : Tab × List Col => p.1.name) Tab.name Prod.fst (fun _ => rfl) ts
  have h0 := h.own.tab
  rw [← hn] at h0
  obtain ⟨q1, q2, q3⟩ := h0.row_t
  refine h.tabs h2 ?_ (fun p hp => h.own.cols p (sortG_mem _ hp))
  rw [e, sortG_len, ← hn]
  exact h1.at q3 q2
theorem MidS.sortX {w : World} {q base b n g cap : Nat} {v : Value} {ts : List (Tab × List Col)} {xs : List (Idx × List Int)} {W W' : World} (h : MidS w q base b v (.slice (some ⟨g, 0, none⟩) n cap) ts xs W) (hn : n = xs.length) (hs : SortX W g n (sortX (xs.map Prod.fst)) W') :
    MidS w q base b v (.slice (some ⟨g, 0, none⟩) n cap) ts (sortG (fun p => p.1.name) xs) W' := by
  obtain ⟨h1, h2, h3⟩ := hs
  have e : (sortG (fun p : Idx × List Int => p.1.name) xs).map Prod.fst = YtcgpflkaejbkhaaGreatDoor.sortX (xs.map Prod.fst) := by
    rw [sortX_G]
    exact sortG_map (fun p : Idx × List Int => p.1.name) Idx.name Prod.fst (fun _ => rfl) xs
  have h0 := h.own.idx
  rw [← hn] at h0
  obtain ⟨q1, q2, q3⟩ := h0.row_x
  refine h.idxs h2 ?_ (fun p hp => h.own.places p (sortG_mem _ hp))
  rw [e, sortG_len, ← hn]
  exact h1.at q3 q2
/-- what an answer is: a schema of the call's own, or an error -/
def OutP (w : World) (er : Int) (T : List PT) (X : List PX) (e : Ending) (w' : World) : Prop := Below w.heap.size w w' ∧
  ((er = 0 ∧ ∃ (A ia : Option Addr) (c ic h : Nat) (ts : List (Tab × List Col)) (xs : List (Idx × List Int)), e = .returned (.tuple #[.agg #[.slice A ts.length c, .slice ia xs.length ic], .int .i64 0]) ∧ OwnS w.heap.size h (.slice A ts.length c) (.slice ia xs.length ic) ts xs w' ∧ ts.map ptOf = T ∧ xs.map pxOf = X) ∨
   (er ≠ 0 ∧ e = .returned (.tuple #[.agg #[.slice none 0 0, .slice none 0 0], .int .i64 er])))
theorem MidS.done {w : World} {q base b n m c ic : Nat} {A ia : Option Addr} {ts : List (Tab × List Col)} {xs : List (Idx × List Int)} {W : World} (h : MidS w q base b (.slice A n c) (.slice ia m ic) ts xs W) (hn : n = ts.length) (hm : m = xs.length) (x y : Value) :
    OutP w 0 (ts.map ptOf) (xs.map pxOf) (.returned (.tuple #[.agg #[.slice A n c, .slice ia m ic], .int .i64 0])) ((W.setCell ⟨q, 0, none⟩ x).setCell ⟨q, 1, none⟩ y) := by
  subst hn hm
  have hf := h.far
  refine ⟨(h.below.setCell (p := ⟨q, 0, none⟩) hf.1 _).setCell (p := ⟨q, 1, none⟩) hf.1 _, Or.inl ⟨rfl, A, ia, c, ic, b, ts, xs, rfl, ?_, rfl, rfl⟩⟩
  exact (((h.own).box q 0 x (Or.inl hf.2.1)).box q 1 y (Or.inl hf.2.1)).le (by omega)
theorem ErrP.out {w : World} {er : Int} {T : List PT} {X : List PX} {e : Ending} {w' : World} (h : ErrP er w e w') (hr : er ≠ 0) : OutP w er T X e w' := ⟨h.2, Or.inr ⟨hr, h.1⟩⟩
/-- the first place of a name -/
def findN {α : Type} (nm : α → ByteArray) (l : List α) (x : ByteArray) : Option Nat := l.findIdx? (fun p => sameN (nm p) x)
theorem first_find {α : Type} {P : Nat → Bool} {l : List α} {nm : α → ByteArray} {x : ByteArray} (hP : ∀ (j : Nat) (y : α), l[j]? = some y → P j = sameN (nm y) x) {r : Int} (h : FirstIs P l.length r) : (∃ k : Nat, k < l.length ∧ findN nm l x = some k ∧ r = k) ∨ (findN nm l x = none ∧ r = -1) := by
  rcases h with ⟨k, hk, rfl, hp, hq⟩ | ⟨rfl, hp⟩
  · refine Or.inl ⟨k, hk, ?_, rfl⟩
    unfold findN
    rw [List.findIdx?_eq_some_iff_getElem]
    refine ⟨hk, by rw [← hP k l[k] (List.getElem?_eq_getElem hk)]; exact hp, fun j hj => ?_⟩
    have hjl : j < l.length := Nat.lt_trans hj hk
    have := hq j hj
    rw [hP j l[j] (List.getElem?_eq_getElem hjl)] at this
    simpa using this
  · refine Or.inr ⟨?_, rfl⟩
    unfold findN
    rw [List.findIdx?_eq_none_iff]
    intro y hy
    obtain ⟨j, hj, rfl⟩ := List.mem_iff_getElem.1 hy
    have := hp j hj
    rw [hP j l[j] (List.getElem?_eq_getElem hj)] at this
    exact this
theorem findN_map {α β : Type} (na : α → ByteArray) (nb : β → ByteArray) (f : α → β) (hf : ∀ x, nb (f x) = na x) (l : List α) (x : ByteArray) : findN nb (l.map f) x = findN na l x := by
  unfold findN
  rw [List.findIdx?_map]
  congr 1
  funext p
  show sameN (nb (f p)) x = _
  rw [hf]
/-- what Put refuses, and why -/
def ptBad (t : PT) : Bool := !nameB t.name.data.toList || decide (t.root < 1) || decide (1600 < t.root) || decide (t.next < 1) || decide (t.rows < 0)
def errT (T : List PT) (t : PT) : Int := if ptBad t then 7 else if (findN PT.name T t.name).isNone && decide (8 ≤ T.length) then 11 else colsR t.cols
def putT (T : List PT) (t : PT) : List PT := match findN PT.name T t.name with
  | some k => T.set k t
  | none => sortG PT.name (T ++ [t])
def pxBad (x : PX) : Bool := !nameB x.name.data.toList || decide (x.state < 1) || decide (3 < x.state) || decide (x.root < 1) || decide (1600 < x.root) || decide (x.cursor < 0)
def errX (T : List PT) (X : List PX) (x : PX) : Int := if pxBad x then 7 else match findN PT.name T x.table with
  | none => 130
  | some k => if (findN PX.name X x.name).isNone && decide (12 ≤ X.length) then 11 else match T[k]? with
    | some t => placesR t.cols.length x.places
    | none => 0
def putX (X : List PX) (x : PX) : List PX := match findN PX.name X x.name with
  | some k => X.set k x
  | none => sortG PX.name (X ++ [x])
def errD (T : List PT) (nm : ByteArray) : Int := match findN PT.name T nm with | some _ => 0 | none => 130
def dropT (T : List PT) (nm : ByteArray) : List PT := match findN PT.name T nm with | some k => T.eraseIdx k | none => T
def dropTX (X : List PX) (nm : ByteArray) : List PX := X.filter fun x => !sameN x.table nm
def errDX (X : List PX) (nm : ByteArray) : Int := match findN PX.name X nm with | some _ => 0 | none => 2
def dropX (X : List PX) (nm : ByteArray) : List PX := match findN PX.name X nm with | some k => X.eraseIdx k | none => X
end Go.Proofs.YtcgpflkaejbkhaaGreatDoor
namespace Go.Proofs.YtcgpflkaejbkhaaGreatDoor
open Go.RowKit

/-- a place as a number; -1: there is none -/
def placeI : Option Nat → Int
  | some k => (k : Int)
  | none => -1
theorem first_place {α : Type} {P : Nat → Bool} {l : List α} {nm : α → ByteArray} {x : ByteArray} (hP : ∀ (j : Nat) (y : α), l[j]? = some y → P j = sameN (nm y) x) {r : Int} (h : FirstIs P l.length r) : r = placeI (findN nm l x) := by
  rcases first_find hP h with ⟨k, _, h1, rfl⟩ | ⟨h1, rfl⟩ <;> rw [h1] <;> rfl
theorem findN_lt {α : Type} {nm : α → ByteArray} {l : List α} {x : ByteArray} {k : Nat} (h : findN nm l x = some k) : k < l.length := by
  unfold findN at h
  obtain ⟨h, _⟩ := List.findIdx?_eq_some_iff_getElem.1 h
  exact h
theorem table_at (A : Option Addr) (c : Nat) (ts : List (Tab × List Col)) (ia : Option Addr) (il ic : Nat) (nm : ByteArray) (w : World) (h : DeepAt w A ts) : Calls Tryz.prog 12 #[.agg #[.slice A ts.length c, .slice ia il ic], .string nm] w (RetV (.int .i64 (placeI (findN PT.name (ts.map ptOf) nm))) w) := by
  have h1 := table_any A c (ts.map Prod.fst) ia il ic nm w h.1
  rw [List.length_map] at h1
  refine h1.mono fun e w' ⟨r, h1, h2, h3⟩ => ?_
  rw [first_place (P := nameAt (ts.map Prod.fst) nm) (l := ts) (nm := fun p => p.1.name) (fun j y hj => by unfold nameAt; rw [List.getElem?_map, hj]; rfl) h2] at h1
  rw [findN_map (fun p : Tab × List Col => p.1.name) PT.name ptOf (fun _ => rfl)]
  exact ⟨h1, h3⟩
theorem rtable_at (A : Option Addr) (c : Nat) (ts : List (Tab × List Col)) (ia : Option Addr) (il ic : Nat) (nm : ByteArray) (w : World) (h : DeepAt w A ts) : Calls Tryz.prog 13 #[.agg #[.slice A ts.length c, .slice ia il ic], .string nm] w (RetV (.int .i64 (placeI (findN PT.name (ts.map ptOf) nm))) w) := by
  have h1 := rtable_any A c (ts.map Prod.fst) ia il ic nm w h.1
  rw [List.length_map] at h1
  refine h1.mono fun e w' ⟨r, h1, h2, h3⟩ => ?_
  rw [first_place (P := nameAt (ts.map Prod.fst) nm) (l := ts) (nm := fun p => p.1.name) (fun j y hj => by unfold nameAt; rw [List.getElem?_map, hj]; rfl) h2] at h1
  rw [findN_map (fun p : Tab × List Col => p.1.name) PT.name ptOf (fun _ => rfl)]
  exact ⟨h1, h3⟩
theorem index_at (A : Option Addr) (c : Nat) (xs : List (Idx × List Int)) (ta : Option Addr) (tl tc : Nat) (nm : ByteArray) (w : World) (h : DeepIx w A xs) : Calls Tryz.prog 14 #[.agg #[.slice ta tl tc, .slice A xs.length c], .string nm] w (RetV (.int .i64 (placeI (findN PX.name (xs.map pxOf) nm))) w) := by
  have h1 := index_any A c (xs.map Prod.fst) ta tl tc nm w h.1
  rw [List.length_map] at h1
  refine h1.mono fun e w' ⟨r, h1, h2, h3⟩ => ?_
  rw [first_place (P := inameAt (xs.map Prod.fst) nm) (l := xs) (nm := fun p => p.1.name) (fun j y hj => by unfold inameAt; rw [List.getElem?_map, hj]; rfl) h2] at h1
  rw [findN_map (fun p : Idx × List Int => p.1.name) PX.name pxOf (fun _ => rfl)]
  exact ⟨h1, h3⟩
theorem rindex_at (A : Option Addr) (c : Nat) (xs : List (Idx × List Int)) (ta : Option Addr) (tl tc : Nat) (nm : ByteArray) (w : World) (h : DeepIx w A xs) : Calls Tryz.prog 15 #[.agg #[.slice ta tl tc, .slice A xs.length c], .string nm] w (RetV (.int .i64 (placeI (findN PX.name (xs.map pxOf) nm))) w) := by
  have h1 := rindex_any A c (xs.map Prod.fst) ta tl tc nm w h.1
  rw [List.length_map] at h1
  refine h1.mono fun e w' ⟨r, h1, h2, h3⟩ => ?_
  rw [first_place (P := inameAt (xs.map Prod.fst) nm) (l := xs) (nm := fun p => p.1.name) (fun j y hj => by unfold inameAt; rw [List.getElem?_map, hj]; rfl) h2] at h1
  rw [findN_map (fun p : Idx × List Int => p.1.name) PX.name pxOf (fun _ => rfl)]
  exact ⟨h1, h3⟩
/-- the boxes of PutIndex: the schema, the index, the answer -/
structure PutXL (w : World) (A : Option Addr) (n c : Nat) (ia : Option Addr) (il ic : Nat) (t : Idx) (W : World) : Prop where
  below : Below w.heap.size w W
  sch : W.heap[w.heap.size]? = some (.cells #[.slice A n c, .slice ia il ic] 36)
  tab : W.heap[w.heap.size + 1]? = some (.cells #[.string t.name, .string t.table, .slice t.pa t.pn t.pc, .int .i64 t.state, .int .i64 t.root, .int .i64 t.cursor] 28)
  ans : W.heap[w.heap.size + 1 + 1]? = some (.cells #[.slice none 0 0, .slice none 0 0] 36)
theorem PutXL.keep {w : World} {A : Option Addr} {n c : Nat} {ia : Option Addr} {il ic : Nat} {t : Idx} {W W' : World} (h : PutXL w A n c ia il ic t W) (hB : Below W.heap.size W W') : PutXL w A n c ia il ic t W' :=
  ⟨h.below.trans (hB.mono h.below.size), (hB.block _ (heap_lt h.sch)).trans h.sch, (hB.block _ (heap_lt h.tab)).trans h.tab, (hB.block _ (heap_lt h.ans)).trans h.ans⟩
theorem PutXL.start (w : World) (A : Option Addr) (n c : Nat) (ia : Option Addr) (il ic : Nat) (t : Idx) : PutXL w A n c ia il ic t (((w.alloc (.cells #[.slice A n c, .slice ia il ic] 36)).alloc (.cells #[.string t.name, .string t.table, .slice t.pa t.pn t.pc, .int .i64 t.state, .int .i64 t.root, .int .i64 t.cursor] 28)).alloc (.cells #[.slice none 0 0, .slice none 0 0] 36)) := by
  refine ⟨((below1 w _).alloc (by simp) _).alloc (by simp; omega) _, ?_, ?_, ?_⟩
  · rw [heap_alloc_old _ _ (by simp; omega), heap_alloc_old _ _ (by simp)]; exact heap_alloc_new w _
  · rw [heap_alloc_old _ _ (by simp)]
    have := heap_alloc_new (w.alloc (.cells #[.slice A n c, .slice ia il ic] 36)) (.cells #[.string t.name, .string t.table, .slice t.pa t.pn t.pc, .int .i64 t.state, .int .i64 t.root, .int .i64 t.cursor] 28)
    rwa [World.size_alloc] at this
  · have := heap_alloc_new ((w.alloc (.cells #[.slice A n c, .slice ia il ic] 36)).alloc (.cells #[.string t.name, .string t.table, .slice t.pa t.pn t.pc, .int .i64 t.state, .int .i64 t.root, .int .i64 t.cursor] 28)) (.cells #[.slice none 0 0, .slice none 0 0] 36)
    rwa [World.size_alloc, World.size_alloc] at this
theorem PutXL.done {w : World} {A : Option Addr} {n c : Nat} {ia : Option Addr} {il ic : Nat} {t : Idx} {W : World} (h : PutXL w A n c ia il ic t W) (x y : Value) : Below w.heap.size w ((W.setCell ⟨w.heap.size + 1 + 1, 0, none⟩ x).setCell ⟨w.heap.size + 1 + 1, 1, none⟩ y) :=
  (h.below.setCell (p := ⟨w.heap.size + 1 + 1, 0, none⟩) (by show w.heap.size ≤ w.heap.size + 1 + 1; omega) _).setCell (p := ⟨w.heap.size + 1 + 1, 1, none⟩) (by show w.heap.size ≤ w.heap.size + 1 + 1; omega) _
/-- why PutIndex refuses an index, before tables are looked at -/
def idxBad (t : Idx) : Bool := !nameB t.name.data.toList || decide (t.state < 1) || decide (3 < t.state) || decide (t.root < 1) || decide (1600 < t.root) || decide (t.cursor < 0)
theorem idxBad_ways {t : Idx} {b : Bool} (hb : b = nameB t.name.data.toList) (h : idxBad t = true) : b = false ∨ (b = true ∧ (t.state < 1) = True) ∨ (b = true ∧ (t.state < 1) = False ∧ (3 < t.state) = True) ∨ (b = true ∧ (t.state < 1) = False ∧ (3 < t.state) = False ∧ (t.root < 1) = True) ∨ (b = true ∧ (t.state < 1) = False ∧ (3 < t.state) = False ∧ (t.root < 1) = False ∧ (1600 < t.root) = True) ∨ (b = true ∧ (t.state < 1) = False ∧ (3 < t.state) = False ∧ (t.root < 1) = False ∧ (1600 < t.root) = False ∧ (t.cursor < 0) = True) := by
  unfold idxBad at h
  rw [← hb] at h
  cases b with
  | false => exact Or.inl rfl
  | true =>
    by_cases h1 : t.state < 1
    · exact Or.inr (Or.inl ⟨rfl, eq_true h1⟩)
    · by_cases h2 : 3 < t.state
      · exact Or.inr (Or.inr (Or.inl ⟨rfl, eq_false h1, eq_true h2⟩))
      · by_cases h3 : t.root < 1
        · exact Or.inr (Or.inr (Or.inr (Or.inl ⟨rfl, eq_false h1, eq_false h2, eq_true h3⟩)))
        · by_cases h4 : 1600 < t.root
          · exact Or.inr (Or.inr (Or.inr (Or.inr (Or.inl ⟨rfl, eq_false h1, eq_false h2, eq_false h3, eq_true h4⟩))))
          · refine Or.inr (Or.inr (Or.inr (Or.inr (Or.inr ⟨rfl, eq_false h1, eq_false h2, eq_false h3, eq_false h4, eq_true ?_⟩))))
            simp only [Bool.not_true, Bool.false_or, Bool.or_eq_true, decide_eq_true_iff] at h
            omega
theorem idxBad_no {t : Idx} (h : idxBad t = false) : nameB t.name.data.toList = true ∧ (t.state < 1) = False ∧ (3 < t.state) = False ∧ (t.root < 1) = False ∧ (1600 < t.root) = False ∧ (t.cursor < 0) = False := by
  unfold idxBad at h
  simp only [Bool.or_eq_false_iff, Bool.not_eq_false', decide_eq_false_iff_not] at h
  obtain ⟨⟨⟨⟨⟨h1, h2⟩, h3⟩, h4⟩, h5⟩, h6⟩ := h
  exact ⟨h1, eq_false h2, eq_false h3, eq_false h4, eq_false h5, eq_false h6⟩
end Go.Proofs.YtcgpflkaejbkhaaGreatDoor
