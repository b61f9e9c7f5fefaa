/- The stable sort by names as plain lists: one element that sinks, all of them in turn. -/
import Derived.Test.YtcgpflkaejbkhaaGreatDoorQAM
import Derived.Deep.RegionLaw
import Derived.Deep.RegionHeld3
import Derived.BigQuiet
import Derived.IntWalk
namespace Go.Proofs.YtcgpflkaejbkhaaGreatDoor
open Go.RowKit

def swapG {α : Type} (l : List α) (j : Nat) : List α := match l[j]?, l[j + 1]? with
 | some x, some y => (l.set j y).set (j + 1) x
 | _, _ => l
def sinkG {α : Type} (nm : α → ByteArray) : Nat → List α → List α
 | 0, l => l
 | j + 1, l => match l[j]?, l[j + 1]? with
   | some x, some y => if ltN (nm y) (nm x) then sinkG nm j (swapG l j) else l
   | _, _ => l
def isortG {α : Type} (nm : α → ByteArray) : Nat → Nat → List α → List α
 | 0, _, l => l
 | f + 1, i, l => isortG nm f (i + 1) (sinkG nm i l)
def sortG {α : Type} (nm : α → ByteArray) (l : List α) : List α := isortG nm (l.length - 1) 1 l
theorem swapG_len {α : Type} (l : List α) (j : Nat) : (swapG l j).length = l.length := by
 unfold swapG
 split <;> simp
theorem sinkG_len {α : Type} (nm : α → ByteArray) : ∀ (j : Nat) (l : List α), (sinkG nm j l).length = l.length := by
 intro j
 induction j with
 | zero => intro l; rfl
 | succ j ih =>
   intro l
   unfold sinkG
   split
   · split
     · rw [ih, swapG_len]
     · rfl
   · rfl
theorem isortG_len {α : Type} (nm : α → ByteArray) : ∀ (f i : Nat) (l : List α), (isortG nm f i l).length = l.length := by
 intro f
 induction f with
 | zero => exact fun i l => rfl
 | succ f ih => exact fun i l => (ih _ _).trans (sinkG_len _ _ _)
theorem sortG_len {α : Type} (nm : α → ByteArray) (l : List α) : (sortG nm l).length = l.length := isortG_len _ _ _ _
theorem swapG_map {α β : Type} (f : α → β) (l : List α) (j : Nat) : (swapG l j).map f = swapG (l.map f) j := by
 unfold swapG
 rw [List.getElem?_map, List.getElem?_map]
 cases h1 : l[j]? with
 | none => rfl
 | some x =>
   cases h2 : l[j + 1]? with
   | none => rfl
   | some y => simp only [Option.map_some, List.map_set]
theorem sinkG_map {α β : Type} (na : α → ByteArray) (nb : β → ByteArray) (f : α → β) (hf : ∀ x, nb (f x) = na x) : ∀ (j : Nat) (l : List α), (sinkG na j l).map f = sinkG nb j (l.map f) := by
 intro j
 induction j with
 | zero => exact fun l => rfl
 | succ j ih =>
   intro l
   unfold sinkG
   rw [List.getElem?_map, List.getElem?_map]
   cases h1 : l[j]? with
   | none => rfl
   | some x =>
     cases h2 : l[j + 1]? with
     | none => rfl
     | some y =>
       simp only [Option.map_some, hf]
       split
       · rw [ih, swapG_map]
       · rfl
theorem isortG_map {α β : Type} (na : α → ByteArray) (nb : β → ByteArray) (f : α → β) (hf : ∀ x, nb (f x) = na x) : ∀ (k i : Nat) (l : List α), (isortG na k i l).map f = isortG nb k i (l.map f) := by
 intro k
 induction k with
 | zero => exact fun i l => rfl
 | succ k ih => exact fun i l => (ih _ _).trans (by rw [sinkG_map na nb f hf]; rfl)
theorem sortG_map {α β : Type} (na : α → ByteArray) (nb : β → ByteArray) (f : α → β) (hf : ∀ x, nb (f x) = na x) (l : List α) : (sortG na l).map f = sortG nb (l.map f) := by
 unfold sortG
 rw [isortG_map na nb f hf, List.length_map]
theorem swapG_mem {α : Type} {l : List α} {j : Nat} {x : α} (h : x ∈ swapG l j) : x ∈ l := by
 unfold swapG at h
 split at h
 · rename_i a b ha hb
   rcases List.mem_or_eq_of_mem_set h with h | rfl
   · rcases List.mem_or_eq_of_mem_set h with h | rfl
     · exact h
     · exact List.mem_of_getElem? hb
   · exact List.mem_of_getElem? ha
 · exact h
theorem sinkG_mem {α : Type} (nm : α → ByteArray) : ∀ (j : Nat) (l : List α) (x : α), x ∈ sinkG nm j l → x ∈ l := by
 intro j
 induction j with
 | zero => exact fun l x h => h
 | succ j ih =>
   intro l x h
   unfold sinkG at h
   split at h
   · split at h
     · exact swapG_mem (ih _ _ h)
     · exact h
   · exact h
theorem isortG_mem {α : Type} (nm : α → ByteArray) : ∀ (f i : Nat) (l : List α) (x : α), x ∈ isortG nm f i l → x ∈ l := by
 intro f
 induction f with
 | zero => exact fun i l x h => h
 | succ f ih => exact fun i l x h => sinkG_mem _ _ _ _ (ih _ _ _ h)
theorem sortG_mem {α : Type} (nm : α → ByteArray) {l : List α} {x : α} (h : x ∈ sortG nm l) : x ∈ l := isortG_mem _ _ _ _ _ h
theorem swapT_G (l : List Tab) (j : Nat) : swapT l j = swapG l j := by
 unfold swapT swapG
 cases l[j]? with
 | none => rfl
 | some x => cases l[j + 1]? <;> rfl
theorem sinkT_G : ∀ (j : Nat) (l : List Tab), sinkT j l = sinkG Tab.name j l := by
 intro j
 induction j with
 | zero => exact fun l => rfl
 | succ j ih =>
   intro l
   unfold sinkT sinkG
   cases h1 : l[j]? with
   | none => rfl
   | some x =>
     cases h2 : l[j + 1]? with
     | none => rfl
     | some y =>
       dsimp only
       split
       · rw [swapT_G]; exact ih _
       · rfl
theorem isortT_G : ∀ (f i : Nat) (l : List Tab), isortT f i l = isortG Tab.name f i l := by
 intro f
 induction f with
 | zero => exact fun i l => rfl
 | succ f ih => exact fun i l => (ih _ _).trans (by rw [sinkT_G]; rfl)
theorem sortT_G (l : List Tab) : sortT l = sortG Tab.name l := isortT_G _ _ _
theorem swapX_G (l : List Idx) (j : Nat) : swapX l j = swapG l j := by
 unfold swapX swapG
 cases l[j]? with
 | none => rfl
 | some x => cases l[j + 1]? <;> rfl
theorem sinkX_G : ∀ (j : Nat) (l : List Idx), sinkX j l = sinkG Idx.name j l := by
 intro j
 induction j with
 | zero => exact fun l => rfl
 | succ j ih =>
   intro l
   unfold sinkX sinkG
   cases h1 : l[j]? with
   | none => rfl
   | some x =>
     cases h2 : l[j + 1]? with
     | none => rfl
     | some y =>
       dsimp only
       split
       · rw [swapX_G]; exact ih _
       · rfl
theorem isortX_G : ∀ (f i : Nat) (l : List Idx), isortX f i l = isortG Idx.name f i l := by
 intro f
 induction f with
 | zero => exact fun i l => rfl
 | succ f ih => exact fun i l => (ih _ _).trans (by rw [sinkX_G]; rfl)
theorem sortX_G (l : List Idx) : sortX l = sortG Idx.name l := isortX_G _ _ _
theorem swapG_app {α : Type} (p : List α) (a x : α) (q : List α) : swapG (p ++ a :: x :: q) p.length = p ++ x :: a :: q := by
 unfold swapG
 rw [List.getElem?_append_right (Nat.le_refl _), List.getElem?_append_right (by omega), Nat.sub_self, show p.length + 1 - p.length = 1 by omega]
 simp only [List.getElem?_cons_zero, List.getElem?_cons_succ]
 rw [List.set_append_right _ _ (Nat.le_refl _), Nat.sub_self, List.set_append_right _ _ (by omega), show p.length + 1 - p.length = 1 by omega]
 rfl
theorem sinkG_step {α : Type} (nm : α → ByteArray) (p : List α) (a x : α) (q : List α) : sinkG nm (p.length + 1) (p ++ a :: x :: q) = if ltN (nm x) (nm a) then sinkG nm p.length (p ++ x :: a :: q) else p ++ a :: x :: q := by
 conv => lhs; unfold sinkG
 rw [swapG_app, List.getElem?_append_right (Nat.le_refl _), List.getElem?_append_right (by omega), Nat.sub_self, show p.length + 1 - p.length = 1 by omega]
 simp only [List.getElem?_cons_zero, List.getElem?_cons_succ]
theorem sinkG_app {α : Type} (nm : α → ByteArray) (r : List α) : ∀ (p q : List α) (x : α), sinkG nm p.length (p ++ x :: (q ++ r)) = sinkG nm p.length (p ++ x :: q) ++ r := by
 intro p
 obtain ⟨n, hn⟩ : ∃ n, n = p.length := ⟨_, rfl⟩
 induction n generalizing p with
 | zero =>
   intro q x
   obtain rfl := List.length_eq_zero_iff.1 hn.symm
   rfl
 | succ n ih =>
   intro q x
   obtain ⟨p', a, rfl⟩ : ∃ p' a, p = p' ++ [a] := by
     refine ⟨p.dropLast, p.getLast (fun e => by rw [e] at hn; cases hn), ?_⟩
     rw [List.dropLast_concat_getLast]
   rw [List.length_append, List.append_assoc, List.append_assoc]
   show sinkG nm (p'.length + 1) (p' ++ a :: x :: (q ++ r)) = sinkG nm (p'.length + 1) (p' ++ a :: x :: q) ++ r
   rw [sinkG_step, sinkG_step]
   split
   · have := ih p' (by rw [List.length_append] at hn; simpa using hn) (a :: q) x
     exact this
   · simp
def insG {α : Type} (nm : α → ByteArray) (out : List α) (x : α) : List α := sinkG nm out.length (out ++ [x])
theorem insG_len {α : Type} (nm : α → ByteArray) (out : List α) (x : α) : (insG nm out x).length = out.length + 1 := by
 unfold insG
 rw [sinkG_len, List.length_append]
 rfl
theorem isortG_fold {α : Type} (nm : α → ByteArray) : ∀ (q p : List α), isortG nm q.length p.length (p ++ q) = q.foldl (insG nm) p := by
 intro q
 induction q with
 | nil => intro p; simp [isortG]
 | cons x q ih =>
   intro p
   rw [List.foldl_cons, ← ih, insG_len]
   show isortG nm q.length (p.length + 1) (sinkG nm p.length (p ++ x :: q)) = _
   have := sinkG_app nm q p [] x
   rw [List.nil_append] at this
   rw [this]
   rfl
theorem sortG_fold {α : Type} (nm : α → ByteArray) (l : List α) : sortG nm l = l.foldl (insG nm) [] := by
 cases l with
 | nil => rfl
 | cons x l =>
   have := isortG_fold nm l [x]
   show isortG nm l.length 1 (x :: l) = l.foldl (insG nm) (insG nm [] x)
   exact this
end Go.Proofs.YtcgpflkaejbkhaaGreatDoor
namespace Go.Proofs.YtcgpflkaejbkhaaGreatDoor
open Go.RowKit

structure PT where
 name : ByteArray
 cols : List Col
 root : Int
 next : Int
 rows : Int
structure PX where
 name : ByteArray
 table : ByteArray
 places : List Int
 state : Int
 root : Int
 cursor : Int
def ptOf (p : Tab × List Col) : PT := ⟨p.1.name, p.2, p.1.root, p.1.next, p.1.rows⟩
def pxOf (p : Idx × List Int) : PX := ⟨p.1.name, p.1.table, p.2, p.1.state, p.1.root, p.1.cursor⟩
def RowsAt (W : World) (base e n : Nat) (v : Value) (xs : List Value) : Prop := (v = .slice none 0 0 ∧ n = 0 ∧ xs = []) ∨ ∃ (g cap : Nat) (rest : List Value), v = .slice (some ⟨g, 0, none⟩) n cap ∧ base ≤ g ∧ n ≤ cap ∧ W.heap[g]? = some (.cells (xs ++ rest).toArray e (0, 0))
theorem RowsAt.of_own {W : World} {base e K n : Nat} {v : Value} {xs : List Value} (h : W.ownsRow base e K v n xs) : RowsAt W base e n v xs := by
 obtain ⟨hl, hr⟩ := h
 rcases hr with ⟨rfl, h0⟩ | ⟨g, cap, cur, rfl, hb, hh, hnc, _, _, ht⟩
 · subst h0
   rw [Nat.zero_mul] at hl
   exact Or.inl ⟨rfl, rfl, List.length_eq_zero_iff.1 hl⟩
 · refine Or.inr ⟨g, cap, cur.toList.drop (n * K), rfl, hb, hnc, ?_⟩
   rw [← ht, List.take_append_drop]
   simpa using hh
theorem RowsAt.block {W : World} {base e n : Nat} {v : Value} {xs : List Value} (h : RowsAt W base e n v xs) {k : Nat} (hk : v.ownBlock = some k) : base ≤ k ∧ k < W.heap.size ∧ ∃ row : Array Value, W.heap[k]? = some (.cells row e (0, 0)) := by
 rcases h with ⟨rfl, _⟩ | ⟨g, cap, rest, rfl, hb, _, hh⟩
 · cases hk
 · have : g = k := Option.some.inj hk
   subst this
   exact ⟨hb, heap_lt hh, _, hh⟩
theorem RowsAt.grown {W W' : World} {base e n : Nat} {v : Value} {xs : List Value} (h : RowsAt W base e n v xs) {r : Option Nat} (hg : W.grownBy W' r) (hr : ∀ k, v.ownBlock = some k → r ≠ some k) : RowsAt W' base e n v xs := by
 refine h.imp id fun ⟨g, cap, rest, e1, e2, e3, e4⟩ => ⟨g, cap, rest, e1, e2, e3, ?_⟩
 rw [hg.block g (heap_lt e4) (fun e => hr g (by rw [e1]; rfl) e.symm)]
 exact e4
theorem RowsAt.le {W : World} {base base' e n : Nat} {v : Value} {xs : List Value} (h : RowsAt W base e n v xs) (hb : base' ≤ base) : RowsAt W base' e n v xs :=
 h.imp id fun ⟨g, cap, rest, e1, e2, e3, e4⟩ => ⟨g, cap, rest, e1, Nat.le_trans hb e2, e3, e4⟩
theorem RowsAt.cells {W : World} {base e K n c : Nat} {A : Option Addr} {ls : List (List Value)} (h : RowsAt W base e n (.slice A n c) ls.flatten) (hK : 0 < K) (hl : ∀ x ∈ ls, x.length = K) (hn : ls.length ≤ 1000) : CellsAt W K A ls ∧ n ≤ c ∧ (A = none → ls = [] ∧ c = 0) := by
 rcases h with ⟨e1, e2, e3⟩ | ⟨g, cap, rest, e1, e2, e3, e4⟩
 · cases e1
   have h0 : ls.length * K = 0 := by rw [← flat_len hl, e3]; rfl
   have : ls = [] := by
     rcases Nat.mul_eq_zero.1 h0 with h | h
     · exact List.length_eq_zero_iff.1 h
     · omega
   subst this
   exact ⟨CellsAt.nil_at _ _ _, Nat.le_refl _, fun _ => ⟨rfl, rfl⟩⟩
 · cases e1
   refine ⟨⟨by unfold maxLen; omega, Or.inr ⟨g, 0, rfl, heap_lt e4, fun j x hx => ⟨hl x (List.mem_of_getElem? hx), fun i u hu => ?_⟩⟩⟩, e3, fun h => by cases h⟩
   rw [cell_of_row W g _ _ _ _ e4]
   have e := flat_get hl hx hu
   have hlt := (List.getElem?_eq_some_iff.1 e).1
   rw [List.getElem?_toArray, Nat.zero_add, List.getElem?_append_left hlt]
   exact e
def FreeB (base h : Nat) (v u : Value) (W : World) (k : Nat) : Prop := base ≤ k ∧ k ≠ h ∧ k < W.heap.size ∧ v.ownBlock ≠ some k ∧ u.ownBlock ≠ some k
theorem FreeB.grown {base h : Nat} {v u : Value} {W W' : World} {k : Nat} (hf : FreeB base h v u W k) {r : Option Nat} (hg : W.grownBy W' r) : FreeB base h v u W' k := ⟨hf.1, hf.2.1, Nat.lt_of_lt_of_le hf.2.2.1 hg.size, hf.2.2.2⟩
def OwnTab (base h : Nat) (v u : Value) (W : World) (p : Tab × List Col) : Prop := ColsU W p.1.ca p.2 ∧ p.1.cn = p.2.length ∧ p.2.length ≤ p.1.cc ∧ (p.1.ca = none → p.1.cc = 0) ∧ p.2.length ≤ 1000 ∧ ∀ a, p.1.ca = some a → FreeB base h v u W a.block
def OwnIdx (base h : Nat) (v u : Value) (W : World) (p : Idx × List Int) : Prop := IntsU W p.1.pa p.2 ∧ p.1.pn = p.2.length ∧ p.2.length ≤ p.1.pc ∧ (p.1.pa = none → p.1.pc = 0) ∧ p.2.length ≤ 1000 ∧ ∀ a, p.1.pa = some a → FreeB base h v u W a.block
structure OwnS (base h : Nat) (v u : Value) (ts : List (Tab × List Col)) (xs : List (Idx × List Int)) (W : World) : Prop where
 tab : RowsAt W base 25 ts.length v ((ts.map Prod.fst).map tabL).flatten
 idx : RowsAt W base 28 xs.length u ((xs.map Prod.fst).map idxL).flatten
 rows : v.ownBlock ≠ some h ∧ u.ownBlock ≠ some h
 cols : ∀ p ∈ ts, OwnTab base h v u W p
 places : ∀ p ∈ xs, OwnIdx base h v u W p
theorem OwnTab.grown {base h : Nat} {v u : Value} {W W' : World} {p : Tab × List Col} (ht : OwnTab base h v u W p) {r : Option Nat} (hg : W.grownBy W' r) (hr : ∀ k, FreeB base h v u W k → r ≠ some k) : OwnTab base h v u W' p := by
 obtain ⟨h1, h2, h3, h4, h5, h6⟩ := ht
 exact ⟨ColsU.grown h1 hg (fun a ha => hr _ (h6 a ha)), h2, h3, h4, h5, fun a ha => (h6 a ha).grown hg⟩
theorem OwnIdx.grown {base h : Nat} {v u : Value} {W W' : World} {p : Idx × List Int} (ht : OwnIdx base h v u W p) {r : Option Nat} (hg : W.grownBy W' r) (hr : ∀ k, FreeB base h v u W k → r ≠ some k) : OwnIdx base h v u W' p := by
 obtain ⟨h1, h2, h3, h4, h5, h6⟩ := ht
 exact ⟨IntsU.grown h1 hg (fun a ha => hr _ (h6 a ha)), h2, h3, h4, h5, fun a ha => (h6 a ha).grown hg⟩
theorem OwnS.grown {base h : Nat} {v u : Value} {ts : List (Tab × List Col)} {xs : List (Idx × List Int)} {W W' : World} (hS : OwnS base h v u ts xs W) {r : Option Nat} (hg : W.grownBy W' r) (hr : ∀ k, r = some k → k < base ∨ k = h) : OwnS base h v u ts xs W' := by
 have hf : ∀ k, FreeB base h v u W k → r ≠ some k := fun k hk e => by
   have h1 := hk.1
   have h2 := hk.2.1
   rcases hr k e with q | q
   · omega
   · exact h2 q
 refine ⟨hS.tab.grown hg fun k hk e => ?_, hS.idx.grown hg fun k hk e => ?_, hS.rows, fun p hp => (hS.cols p hp).grown hg hf, fun p hp => (hS.places p hp).grown hg hf⟩
 · rcases hr k e with q | q
   · have := (hS.tab.block hk).1; omega
   · exact hS.rows.1 (by rw [hk, q])
 · rcases hr k e with q | q
   · have := (hS.idx.block hk).1; omega
   · exact hS.rows.2 (by rw [hk, q])
theorem grown_of_below {W W' : World} (hB : Below W.heap.size W W') (r : Option Nat) : W.grownBy W' r := ⟨hB.os, hB.tape, hB.output, hB.size, fun k hk _ => hB.block k hk⟩
theorem OwnS.keep {base h : Nat} {v u : Value} {ts : List (Tab × List Col)} {xs : List (Idx × List Int)} {W W' : World} (hS : OwnS base h v u ts xs W) (hB : Below W.heap.size W W') : OwnS base h v u ts xs W' :=
 hS.grown (grown_of_below hB none) (fun k hk => by cases hk)
theorem OwnS.box {base h : Nat} {v u : Value} {ts : List (Tab × List Col)} {xs : List (Idx × List Int)} {W : World} (hS : OwnS base h v u ts xs W) (b j : Nat) (x : Value) (hb : b < base ∨ b = h) : OwnS base h v u ts xs (W.setCell ⟨b, j, none⟩ x) :=
 hS.grown (grown_set W b j x) (fun k hk => by cases hk; exact hb)
theorem OwnS.apart {base h : Nat} {v u : Value} {ts : List (Tab × List Col)} {xs : List (Idx × List Int)} {W : World} (hS : OwnS base h v u ts xs W) {k : Nat} (hv : v.ownBlock = some k) : u.ownBlock ≠ some k := fun hu => by
 obtain ⟨_, _, r1, e1⟩ := hS.tab.block hv
 obtain ⟨_, _, r2, e2⟩ := hS.idx.block hu
 rw [e1] at e2
 cases e2
theorem OwnS.retab {base h : Nat} {v v' u : Value} {ts ts' : List (Tab × List Col)} {xs : List (Idx × List Int)} {W W' : World} (hS : OwnS base h v u ts xs W) (hg : W.grownBy W' v.ownBlock) (hv : v'.ownBlock = v.ownBlock ∨ v'.ownBlock = some W.heap.size) (hh : h < W.heap.size)
   (hrow : RowsAt W' base 25 ts'.length v' ((ts'.map Prod.fst).map tabL).flatten) (hd : ∀ p ∈ ts', OwnTab base h v u W p) : OwnS base h v' u ts' xs W' := by
 have hf : ∀ k, FreeB base h v u W k → FreeB base h v' u W' k := fun k hk => by
   refine ⟨hk.1, hk.2.1, Nat.lt_of_lt_of_le hk.2.2.1 hg.size, fun e => ?_, hk.2.2.2.2⟩
   rcases hv with q | q
   · exact hk.2.2.2.1 (q ▸ e)
   · have := hk.2.2.1
     rw [q] at e
     have := Option.some.inj e
     omega
 have hi := hS.idx.grown hg (fun k hk e => hS.apart e hk)
 refine ⟨hrow, hi, ⟨fun e => ?_, hS.rows.2⟩, fun p hp => ?_, fun p hp => ?_⟩
 · rcases hv with q | q
   · exact hS.rows.1 (q ▸ e)
   · rw [q] at e
     have := Option.some.inj e
     omega
 · obtain ⟨h1, h2, h3, h4, h5, h6⟩ := hd p hp
   exact ⟨ColsU.grown h1 hg (fun a ha => (h6 a ha).2.2.2.1), h2, h3, h4, h5, fun a ha => hf _ (h6 a ha)⟩
 · obtain ⟨h1, h2, h3, h4, h5, h6⟩ := hS.places p hp
   exact ⟨IntsU.grown h1 hg (fun a ha => (h6 a ha).2.2.2.1), h2, h3, h4, h5, fun a ha => hf _ (h6 a ha)⟩
theorem OwnS.reidx {base h : Nat} {v u u' : Value} {ts : List (Tab × List Col)} {xs xs' : List (Idx × List Int)} {W W' : World} (hS : OwnS base h v u ts xs W) (hg : W.grownBy W' u.ownBlock) (hv : u'.ownBlock = u.ownBlock ∨ u'.ownBlock = some W.heap.size) (hh : h < W.heap.size)
   (hrow : RowsAt W' base 28 xs'.length u' ((xs'.map Prod.fst).map idxL).flatten) (hd : ∀ p ∈ xs', OwnIdx base h v u W p) : OwnS base h v u' ts xs' W' := by
 have hf : ∀ k, FreeB base h v u W k → FreeB base h v u' W' k := fun k hk => by
   refine ⟨hk.1, hk.2.1, Nat.lt_of_lt_of_le hk.2.2.1 hg.size, hk.2.2.2.1, fun e => ?_⟩
   rcases hv with q | q
   · exact hk.2.2.2.2 (q ▸ e)
   · have := hk.2.2.1
     rw [q] at e
     have := Option.some.inj e
     omega
 have hi := hS.tab.grown hg (fun k hk e => hS.apart hk e)
 refine ⟨hi, hrow, ⟨hS.rows.1, fun e => ?_⟩, fun p hp => ?_, fun p hp => ?_⟩
 · rcases hv with q | q
   · exact hS.rows.2 (q ▸ e)
   · rw [q] at e
     have := Option.some.inj e
     omega
 · obtain ⟨h1, h2, h3, h4, h5, h6⟩ := hS.cols p hp
   exact ⟨ColsU.grown h1 hg (fun a ha => (h6 a ha).2.2.2.2), h2, h3, h4, h5, fun a ha => hf _ (h6 a ha)⟩
 · obtain ⟨h1, h2, h3, h4, h5, h6⟩ := hd p hp
   exact ⟨IntsU.grown h1 hg (fun a ha => (h6 a ha).2.2.2.2), h2, h3, h4, h5, fun a ha => hf _ (h6 a ha)⟩
theorem OwnS.le {base base' h : Nat} {v u : Value} {ts : List (Tab × List Col)} {xs : List (Idx × List Int)} {W : World} (hS : OwnS base h v u ts xs W) (hb : base' ≤ base) : OwnS base' h v u ts xs W := by
 have hf : ∀ k, FreeB base h v u W k → FreeB base' h v u W k := fun k hk => ⟨Nat.le_trans hb hk.1, hk.2⟩
 refine ⟨hS.tab.le hb, hS.idx.le hb, hS.rows, fun p hp => ?_, fun p hp => ?_⟩
 · obtain ⟨h1, h2, h3, h4, h5, h6⟩ := hS.cols p hp
   exact ⟨h1, h2, h3, h4, h5, fun a ha => hf _ (h6 a ha)⟩
 · obtain ⟨h1, h2, h3, h4, h5, h6⟩ := hS.places p hp
   exact ⟨h1, h2, h3, h4, h5, fun a ha => hf _ (h6 a ha)⟩
theorem OwnS.deepT {base h n c : Nat} {A : Option Addr} {u : Value} {ts : List (Tab × List Col)} {xs : List (Idx × List Int)} {W : World} (hS : OwnS base h (.slice A n c) u ts xs W) (hn : n = ts.length) (hl : ts.length ≤ 1000) : DeepAt W A ts := by
 subst hn
 exact ⟨(RowsAt.cells hS.tab (by omega) (tab_len _) (by rw [List.length_map, List.length_map]; exact hl)).1, fun p hp => by
   obtain ⟨h1, h2, h3, h4, h5, h6⟩ := hS.cols p hp
   exact ⟨h1.1, h2, h3, h4⟩⟩
theorem OwnS.deepX {base h n c : Nat} {A : Option Addr} {v : Value} {ts : List (Tab × List Col)} {xs : List (Idx × List Int)} {W : World} (hS : OwnS base h v (.slice A n c) ts xs W) (hn : n = xs.length) (hl : xs.length ≤ 1000) : DeepIx W A xs := by
 subst hn
 exact ⟨(RowsAt.cells hS.idx (by omega) (idx_len _) (by rw [List.length_map, List.length_map]; exact hl)).1, fun p hp => by
   obtain ⟨h1, h2, h3, h4, h5, h6⟩ := hS.places p hp
   exact ⟨h1.1, h2, h3, h4⟩⟩
theorem zip_at {α β γ : Type} {outs : List γ} {ts : List (α × β)} (hl : outs.length = ts.length) : (outs.zip (ts.map Prod.snd)).map Prod.fst = outs ∧ (outs.zip (ts.map Prod.snd)).length = ts.length ∧ ∀ (j : Nat) (p : γ × β), (outs.zip (ts.map Prod.snd))[j]? = some p → outs[j]? = some p.1 ∧ ∃ t, ts[j]? = some (t, p.2) := by
 refine ⟨List.map_fst_zip (by rw [List.length_map]; omega), by rw [List.length_zip, List.length_map]; omega, fun j p hp => ?_⟩
 obtain ⟨h1, h2⟩ := List.getElem?_zip_eq_some.1 hp
 rw [List.getElem?_map, Option.map_eq_some_iff] at h2
 obtain ⟨⟨t, l⟩, h3, h4⟩ := h2
 exact ⟨h1, t, by rw [h3]; cases h4; rfl⟩
theorem own_le {w : World} {base base' e size n : Nat} {v : Value} {xs : List Value} (h : w.ownsRow base e size v n xs) (hb : base' ≤ base) : w.ownsRow base' e size v n xs :=
 ⟨h.1, h.2.imp id fun ⟨g, cap, cur, e1, e2, e3⟩ => ⟨g, cap, cur, e1, Nat.le_trans hb e2, e3⟩⟩
def CloneO (w : World) (ts : List (Tab × List Col)) (xs : List (Idx × List Int)) (e : Ending) (w' : World) : Prop := ∃ (va ua : Option Addr) (vc uc : Nat) (ts' : List (Tab × List Col)) (xs' : List (Idx × List Int)), e = .returned (.agg #[.slice va ts.length vc, .slice ua xs.length uc]) ∧ Below w.heap.size w w' ∧
 (∀ h, w'.heap.size ≤ h → OwnS (w.heap.size + 3) h (.slice va ts.length vc) (.slice ua xs.length uc) ts' xs' w') ∧ ts'.map ptOf = ts.map ptOf ∧ xs'.map pxOf = xs.map pxOf ∧
 w'.ownsRow (w.heap.size + 3) 25 5 (.slice va ts.length vc) ts.length ((ts'.map Prod.fst).map tabL).flatten ∧ w'.ownsRow (w.heap.size + 3) 28 6 (.slice ua xs.length uc) xs.length ((xs'.map Prod.fst).map idxL).flatten ∧ w.heap.size + 3 ≤ w'.heap.size
theorem clone_own {w : World} {ts : List (Tab × List Col)} {xs : List (Idx × List Int)} (hl : ∀ p ∈ ts, p.2.length ≤ 1000) (hlx : ∀ p ∈ xs, p.2.length ≤ 1000) {e : Ending} {w' : World} (h : ClonePI w ts xs e w') : CloneO w ts xs e w' := by
 obtain ⟨va, ua, vc, uc, outs, outx, B, rfl, hB, hB3, hBs, o1, l1, c1, d1, o2, l2, d2⟩ := h
 obtain ⟨z1, z2, z3⟩ := zip_at l1
 obtain ⟨y1, y2, y3⟩ := zip_at l2
 have hu : ∀ k, (Value.slice ua xs.length uc).ownBlock = some k → B ≤ k ∧ k < w'.heap.size := fun k hk => o2.lt k hk
 have hv : ∀ k, (Value.slice va ts.length vc).ownBlock = some k → w.heap.size + 3 ≤ k ∧ k < B := fun k hk => ⟨(o1.lt k hk).1, c1 k hk⟩
 refine ⟨va, ua, vc, uc, outs.zip (ts.map Prod.snd), outx.zip (xs.map Prod.snd), rfl, hB, fun hh hle => ?_, ?_, ?_, by rw [z1]; exact o1, by rw [y1]; exact own_le o2 hB3, by omega⟩
 · refine ⟨by rw [z1, z2]; exact RowsAt.of_own o1, by rw [y1, y2]; exact (RowsAt.of_own o2).le hB3, ⟨fun e => by have := hv _ e; omega, fun e => by have := hu _ e; omega⟩, fun p hp => ?_, fun p hp => ?_⟩
   · obtain ⟨j, hj⟩ := List.mem_iff_getElem?.1 hp
     obtain ⟨q1, t, q2⟩ := z3 j p hj
     obtain ⟨⟨f1, f2, f3, f4, f5, f6, f7, f8, f9, f10⟩, f11⟩ := d1 j t p.2 q2 p.1 q1
     refine ⟨f7, f5, f6, f9, hl (t, p.2) (List.mem_of_getElem? q2), fun a ha => ?_⟩
     have g1 := f8 a ha
     have g2 := f11 a ha
     exact ⟨g1.1, by omega, g1.2.1, g1.2.2, fun e => by have := hu _ e; omega⟩
   · obtain ⟨j, hj⟩ := List.mem_iff_getElem?.1 hp
     obtain ⟨q1, t, q2⟩ := y3 j p hj
     obtain ⟨f1, f2, f3, f4, f5, f6, f7, f8, f9, f10, f11⟩ := d2 j t p.2 q2 p.1 q1
     refine ⟨f8, f6, f7, f10, hlx (t, p.2) (List.mem_of_getElem? q2), fun a ha => ?_⟩
     have g1 := f9 a ha
     exact ⟨by omega, by omega, g1.2.1, fun e => by have := hv _ e; omega, g1.2.2⟩
 · apply List.ext_getElem?
   intro j
   rw [List.getElem?_map, List.getElem?_map]
   by_cases hj : j < ts.length
   · have e1 := List.getElem?_eq_getElem (l := outs.zip (ts.map Prod.snd)) (i := j) (by omega)
     obtain ⟨q1, t, q2⟩ := z3 j _ e1
     obtain ⟨⟨f1, f2, f3, f4, _⟩, _⟩ := d1 j t _ q2 _ q1
     rw [e1, q2]
     simp only [Option.map_some, ptOf, f1, f2, f3, f4]
   · rw [List.getElem?_eq_none (by omega), List.getElem?_eq_none (by omega)]
 · apply List.ext_getElem?
   intro j
   rw [List.getElem?_map, List.getElem?_map]
   by_cases hj : j < xs.length
   · have e1 := List.getElem?_eq_getElem (l := outx.zip (xs.map Prod.snd)) (i := j) (by omega)
     obtain ⟨q1, t, q2⟩ := y3 j _ e1
     obtain ⟨f1, f2, f3, f4, f5, _⟩ := d2 j t _ q2 _ q1
     rw [e1, q2]
     simp only [Option.map_some, pxOf, f1, f2, f3, f4, f5]
   · rw [List.getElem?_eq_none (by omega), List.getElem?_eq_none (by omega)]
theorem clones_own (A : Option Addr) (c : Nat) (ts : List (Tab × List Col)) (ia : Option Addr) (ic : Nat) (xs : List (Idx × List Int)) (w : World) (h : DeepAt w A ts) (hx0 : DeepIx w ia xs) (hn : ts.length ≤ 1000) (hm : xs.length ≤ 1000) (hl : ∀ p ∈ ts, p.2.length ≤ 1000) (hlx : ∀ p ∈ xs, p.2.length ≤ 1000) :
   Calls Tryz.prog 10 #[.agg #[.slice A ts.length c, .slice ia xs.length ic]] w (CloneO w ts xs) :=
 (clones_any A c ts ia ic xs w h hx0 hn hm hl hlx).mono fun _ _ h => clone_own hl hlx h
end Go.Proofs.YtcgpflkaejbkhaaGreatDoor
namespace Go.Proofs.YtcgpflkaejbkhaaGreatDoor
open Go.RowKit

theorem tabs_one' (l : List Tab) : ∀ u ∈ (l.map tabL).flatten, u.oneCell' = true := by
 intro u hu
 obtain ⟨x, hx, hu⟩ := List.mem_flatten.1 hu
 obtain ⟨c, _, rfl⟩ := List.mem_map.1 hx
 exact tab_one c u hu
theorem tabs_len' (l : List Tab) : (l.map tabL).flatten.length = l.length * 5 := by rw [flat_len (tab_len l), List.length_map]
theorem run_tabs (w : World) (ty : TypeId) (base : Nat) (v : Value) (n : Nat) (xs : List Value) (hown : w.ownsRow base 25 5 v n xs) (ad : Addr) (m c : Nat) (ls : List Tab) (hm : m = ls.length) (hc : ∀ j u, ((ls.map tabL).flatten)[j]? = some u → w.cell? (ad.add j) = some u) (hl : n + m ≤ 2000) (hbase : base ≤ w.heap.size) :
   ∃ v' w', (Builtin.append_ #[33, 33] ty #[v, .slice (some ad) m c]).run Tryz.prog w = .ok v' w' ∧ w'.ownsRow base 25 5 v' (n + m) (xs ++ (ls.map tabL).flatten) ∧ w.grownBy w' v.ownBlock ∧ (v'.ownBlock = v.ownBlock ∨ v'.ownBlock = some w.heap.size) := by
 obtain ⟨i0, hi0, hz0, hz1, hz2⟩ := info_parts info35
 obtain ⟨v', w', hrun, g2, g3, _, g5⟩ := run_append_own_at (P := Tryz.prog) w base 33 ty 25 i0 _ 5 64 Tryz.underlying33 hi0 hz0 hz1 hz2 rfl (by omega) v n xs hown ad m c (ls.map tabL).flatten (by rw [tabs_len', hm]) hc (tabs_one' ls) (by unfold maxLen; omega) (by omega) hbase
 exact ⟨v', w', hrun, g2, g3, g5⟩
theorem list_tabs (w : World) {ops : Array Oper} {rest : List Oper} {o : Oper} {a : Act} {Q : Exit → Act → World → Prop} (hgd : o.guard = none) (s x : Operand)
   (ho : o.op = .call { callee := .builtin .append, args := #[s, x], argTypes := #[33, 33] }) (base : Nat) (v : Value) (n : Nat) (xs : List Value) (hv : a.eval s = v) (hown : w.ownsRow base 25 5 v n xs)
   (ad : Addr) (m c : Nat) (ls : List Tab) (hx : a.eval x = .slice (some ad) m c) (hm : m = ls.length) (hc : ∀ j u, ((ls.map tabL).flatten)[j]? = some u → w.cell? (ad.add j) = some u) (hl : n + m ≤ 2000) (hbase : base ≤ w.heap.size)
   (h : ∀ v' w', w'.ownsRow base 25 5 v' (n + m) (xs ++ (ls.map tabL).flatten) → w.grownBy w' v.ownBlock → (v'.ownBlock = v.ownBlock ∨ v'.ownBlock = some w.heap.size) → wpList Tryz.prog ops Q rest (a.put o.dst v') w') : wpList Tryz.prog ops Q (o :: rest) a w := by
 refine wpList_plain hgd fun K hK => ?_
 obtain ⟨v', w', hrun, g2, g3, g5⟩ := run_tabs w o.type base v n xs hown ad m c ls hm hc hl hbase
 unfold Oper.wp
 simp only [execOp, ho, resolve, invoke, builtin, Sem.run_bind, Sem.run_pure, Result.andThen_ok, List.map_toArray, List.map_cons, List.map_nil, hv, hx, hrun]
 exact hK _ _ (h v' w' g2 g3 g5)
theorem step_tabs (w : World) {ops : Array Oper} {o : Oper} {a : Act} {K : Act → World → Prop} {Q : Exit → Act → World → Prop} {E : Prop} (hgd : o.guard = none) (s x : Operand)
   (ho : o.op = .call { callee := .builtin .append, args := #[s, x], argTypes := #[33, 33] }) (base : Nat) (v : Value) (n : Nat) (xs : List Value) (hv : a.eval s = v) (hown : w.ownsRow base 25 5 v n xs)
   (ad : Addr) (m c : Nat) (ls : List Tab) (hx : a.eval x = .slice (some ad) m c) (hm : m = ls.length) (hc : ∀ j u, ((ls.map tabL).flatten)[j]? = some u → w.cell? (ad.add j) = some u) (hl : n + m ≤ 2000) (hbase : base ≤ w.heap.size)
   (h : ∀ v' w', w'.ownsRow base 25 5 v' (n + m) (xs ++ (ls.map tabL).flatten) → w.grownBy w' v.ownBlock → (v'.ownBlock = v.ownBlock ∨ v'.ownBlock = some w.heap.size) → K (a.put o.dst v') w') :
   if Region.wanted o (yielded ops a.tmps) = true then Oper.wp Tryz.prog o a w K Q else E := by
 have hw : Region.wanted o (yielded ops a.tmps) = true := by simp [Region.wanted, hgd]
 rw [if_pos hw]
 obtain ⟨v', w', hrun, g2, g3, g5⟩ := run_tabs w o.type base v n xs hown ad m c ls hm hc hl hbase
 unfold Oper.wp
 simp only [execOp, ho, resolve, invoke, builtin, Sem.run_bind, Sem.run_pure, Result.andThen_ok, List.map_toArray, List.map_cons, List.map_nil, hv, hx, hrun]
 exact h v' w' g2 g3 g5
theorem run_tabs_nil (w : World) (ty : TypeId) (g n cap c : Nat) (hn : n ≤ cap) : (Builtin.append_ #[33, 33] ty #[.slice (some ⟨g, 0, none⟩) n cap, .slice none 0 c]).run Tryz.prog w = .ok (.slice (some ⟨g, 0, none⟩) n cap) w := by
 obtain ⟨i0, hi0, hz0, hz1, hz2⟩ := info_parts info35
 simp [Builtin.append_, run_underlying Tryz.underlying33, sizeOf, typeInfo, hi0, Builtin.lenOf, hn, run_firstCells_none, storeCells]
theorem own_slice' {w : World} {base e size n : Nat} {v : Value} {xs : List Value} (hn : ¬ n = 0) (h : w.ownsRow base e size v n xs) : ∃ g cap, v = .slice (some ⟨g, 0, none⟩) n cap := by
 rcases h.2 with ⟨_, h0⟩ | ⟨g, cap, cur, e, _⟩
 · exact absurd h0 hn
 · exact ⟨g, cap, e⟩
theorem own_part {w : World} {base g n cap : Nat} {ls : List Tab} (h : w.ownsRow base 25 5 (.slice (some ⟨g, 0, none⟩) n cap) n (ls.map tabL).flatten) (j _q : Nat) (ls2 : List Tab) (hls : ∃ p r, ls = p ++ ls2 ++ r ∧ p.length = j) : ∀ i u, ((ls2.map tabL).flatten)[i]? = some u → w.cell? ((⟨g, j * 5, none⟩ : Addr).add i) = some u := by
 intro i u hu
 obtain ⟨p, r, rfl, rfl⟩ := hls
 have hi := (List.getElem?_eq_some_iff.1 hu).1
 have e := h.cells rfl (p.length * 5 + i) u (by
   rw [List.map_append, List.map_append, List.flatten_append, List.flatten_append, List.append_assoc, List.getElem?_append_right (by rw [tabs_len']; omega), tabs_len', Nat.add_sub_cancel_left, List.getElem?_append_left hi]
   exact hu)
 rw [Addr.add_lit] at e ⊢
 rwa [Nat.zero_add] at e
set_option maxRecDepth 100000 in
set_option maxHeartbeats 16000000 in
theorem rtables_any (A : Option Addr) (c : Nat) (l : List Tab) (w : World) (h : TabsAt w A l) (hl : l.length ≤ 900) : Calls Tryz.prog 60 #[.slice A l.length c] w fun e w' => ∃ v, e = .returned v ∧ Below w.heap.size w w' ∧ w'.ownsRow w.heap.size 25 5 v l.length ((sortG Tab.name l).map tabL).flatten := by
 have H := Lib.hid h
 obtain ⟨R, hR⟩ : ∃ R, R = sortG Tab.name l := ⟨_, rfl⟩
 have HR0 := Lib.hid (show R = (l.drop 0).foldl (insG Tab.name) [] by rw [hR, sortG_fold]; rfl)
 rw [← hR]
 obtain ⟨n, hn⟩ : ∃ n, n = l.length := ⟨_, rfl⟩
 have HN := Lib.hid hn
 rw [← hn] at hl ⊢
 clear h hn hR
 go_enter Tryz.func60, Tryz.ntmps60
 go_wp2_with fail
 go_loopw [3, 4] (fun v i wr => ∃ (k : Nat) (outs : List Tab), k ≤ n ∧ i = .int .i64 k ∧ (k = 0 → v = .slice none 0 0) ∧ Hid (Below w.heap.size w wr) ∧ Hid (wr.ownsRow w.heap.size 25 5 v k (outs.map tabL).flatten) ∧ Hid (outs.length = k) ∧ Hid (R = (l.drop k).foldl (insG Tab.name) outs)) (fun _ i _ => n - (intOf i).toNat)
 case atStart => exact ⟨0, [], Nat.zero_le _, rfl, fun _ => rfl, Lib.hid (Below.refl _ _), Lib.hid (World.ownsRow_nil _ _ _ _), Lib.hid rfl, HR0⟩
 case round =>
   obtain ⟨k, outs, hk, rfl, hv0, HB, HO, HL, HR⟩ := hrel
   obtain ⟨wo, rfl⟩ : ∃ wo : World, wo = wr := ⟨_, rfl⟩
   by_cases hlt : k < n
   · obtain ⟨x, hx⟩ : ∃ x, l[k]? = some x := ⟨_, List.getElem?_eq_getElem (by have := HN.out; omega)⟩
     have HRN := Lib.hid (show R = (l.drop (k + 1)).foldl (insG Tab.name) (insG Tab.name outs x) by
       obtain ⟨h1, h2⟩ := List.getElem?_eq_some_iff.1 hx
       rw [HR.out, List.drop_eq_getElem_cons h1, List.foldl_cons, h2])
     obtain ⟨b, off, rfl, hbl, HC⟩ : ∃ b off, A = some ⟨b, off, none⟩ ∧ b < w.heap.size ∧ Hid (∀ W, Below w.heap.size w W → ∀ (i : Nat) (u : Value), (tabL x)[i]? = some u → W.cell? ⟨b, off + k * 5 + i, none⟩ = some u) := by
       rcases H.out.2 with h0 | ⟨b, off, h1, h2, h3⟩
       · exfalso
         have := List.map_eq_nil_iff.1 h0
         subst this
         simp at hx
       · refine ⟨b, off, h1, h2, fun W hB i u hi => (hB.cell (p := ⟨b, off + k * 5 + i, none⟩) h2).trans ((h3 k (tabL x) ?_).2 i u hi)⟩
         rw [List.getElem?_map, hx]
         rfl
     have hkn : ((k : Int) < (n : Int)) = True := eq_true (by omega)
     have HX1 := Lib.hid (show ∀ W : World, w.heap.size ≤ W.heap.size → (W.alloc (.cells (tabL x).toArray 25)).ownsRow w.heap.size 25 5 (.slice (some ⟨W.heap.size, 0, none⟩) 1 1) 1 (tabL x) from fun W hW => by
       have := World.ownsRow_lit (base := w.heap.size) (e := 25) (size := 5) W (tabL x).toArray 1 hW (by unfold maxLen; omega) (by simp [tabL])
       simpa using this)
     have HX0 := Lib.hid (show ∀ W : World, w.heap.size ≤ W.heap.size → (W.alloc (.cells #[] 25)).ownsRow w.heap.size 25 5 (.slice (some ⟨W.heap.size, 0, none⟩) 0 0) 0 [] from fun W hW => World.ownsRow_made W #[] 0 hW (Nat.zero_le _) (by simp))
     clear hx
     obtain ⟨xn, xa, xl, xc, xr, xx, xs⟩ := x
     dsimp only [tabL] at HX1
     have HF := Lib.hid (show ∀ (wz W : World) (v : Value) (m : Nat) (ys : List Value), Below w.heap.size w wz → wz.ownsRow w.heap.size 25 5 v m ys → (W = wz.drew.alloc (.cells #[.string xn, .slice xa xl xc, .int .i64 xr, .int .i64 xx, .int .i64 xs] 25) ∨ W = (wz.alloc (.cells #[.string xn, .slice xa xl xc, .int .i64 xr, .int .i64 xx, .int .i64 xs] 25)).drew) → W.heap.size = wz.heap.size + 1 ∧ Below w.heap.size w W ∧ W.ownsRow w.heap.size 25 5 (.slice (some ⟨wz.heap.size, 0, none⟩) 1 1) 1 [.string xn, .slice xa xl xc, .int .i64 xr, .int .i64 xx, .int .i64 xs] ∧ W.ownsRow w.heap.size 25 5 v m ys ∧ W.heap[wz.heap.size]? = some (.cells #[.string xn, .slice xa xl xc, .int .i64 xr, .int .i64 xx, .int .i64 xs] 25) from fun wz W v m ys hB hO hW => by
       have h1 : (wz.alloc (.cells #[.string xn, .slice xa xl xc, .int .i64 xr, .int .i64 xx, .int .i64 xs] 25)).heap.size = wz.heap.size + 1 := World.size_alloc _ _
       have h2 : Below w.heap.size w (wz.alloc (.cells #[.string xn, .slice xa xl xc, .int .i64 xr, .int .i64 xx, .int .i64 xs] 25)) := hB.alloc hB.size _
       have h3 := HX1.out wz hB.size
       have h4 := own_kept hO (below1 wz (.cells #[.string xn, .slice xa xl xc, .int .i64 xr, .int .i64 xx, .int .i64 xs] 25)) (Nat.le_refl _)
       have h5 := heap_alloc_new wz (.cells #[.string xn, .slice xa xl xc, .int .i64 xr, .int .i64 xx, .int .i64 xs] 25)
       rcases hW with rfl | rfl
       · exact ⟨h1, hB.drew.alloc hB.size _, h3, h4, h5⟩
       · exact ⟨h1, h2.drew, h3, h4, h5⟩)
     by_cases hk0 : k = 0
     · subst hk0
       obtain rfl := hv0 rfl
       obtain rfl : outs = [] := List.length_eq_zero_iff.1 HL.out
       have hnil : ∀ (W : World) (ty : TypeId) (g a : Nat), (Builtin.append_ #[33, 33] ty #[.slice (some ⟨g, 0, none⟩) a a, .slice none 0 0]).run Tryz.prog W = .ok (.slice (some ⟨g, 0, none⟩) a a) W := fun W ty g a => run_tabs_nil W ty g a a 0 (Nat.le_refl _)
       go_wp2_with fail
       go_loopw [5] (fun i wr => i = .int .i64 0 ∧ Hid (Below wo.heap.size wo wr)) (fun _ _ => 0)
       case atStart => exact ⟨by go_num, Lib.hid (Below.refl _ _)⟩
       case round =>
         obtain ⟨rfl, HBI⟩ := hrel
         obtain ⟨wi, rfl⟩ : ∃ wi : World, wi = wr := ⟨_, rfl⟩
         go_wp2_with fail
         go_quiet ((fail))
         go_wp2_with fail
         obtain ⟨wz, hwz⟩ : ∃ wz, wz = wi.drewN nq := ⟨_, rfl⟩
         have HBZ := Lib.hid (show Below w.heap.size w wz from by rw [hwz]; exact HB.out.trans ((HBI.out.trans ((below_drewN (Below.refl _ _) nq).mono HBI.out.size)).mono HB.out.size))
         rw [← hwz]
         clear hwz
         have k0 : wz.drew.cell? ⟨b, off, none⟩ = some (.string xn) := by simpa using HC.out _ HBZ.out.drew 0 _ rfl
         have k1 : wz.drew.cell? ⟨b, off + 1, none⟩ = some (.slice xa xl xc) := by simpa using HC.out _ HBZ.out.drew 1 _ rfl
         have k2 : wz.drew.cell? ⟨b, off + 2, none⟩ = some (.int .i64 xr) := by simpa using HC.out _ HBZ.out.drew 2 _ rfl
         have k3 : wz.drew.cell? ⟨b, off + 3, none⟩ = some (.int .i64 xx) := by simpa using HC.out _ HBZ.out.drew 3 _ rfl
         have k4 : wz.drew.cell? ⟨b, off + 4, none⟩ = some (.int .i64 xs) := by simpa using HC.out _ HBZ.out.drew 4 _ rfl
         have HFa := Lib.hid (HF.out wz _ (.slice none 0 0) 0 [] HBZ.out (World.ownsRow_nil _ _ _ _) (Or.inl rfl))
         have HFb := Lib.hid (HF.out wz _ (.slice none 0 0) 0 [] HBZ.out (World.ownsRow_nil _ _ _ _) (Or.inr rfl))
         go_region_law (first
           | fail)
         all_goals
           first
           | (obtain ⟨w1, hw1⟩ : ∃ w1, w1 = wz.drew.alloc (.cells #[.string xn, .slice xa xl xc, .int .i64 xr, .int .i64 xx, .int .i64 xs] 25) := ⟨_, rfl⟩
              rw [← hw1]
              have HF1 := HFa
              rw [← hw1] at HF1
              clear hw1)
           | (obtain ⟨w1, hw1⟩ : ∃ w1, w1 = (wz.alloc (.cells #[.string xn, .slice xa xl xc, .int .i64 xr, .int .i64 xx, .int .i64 xs] 25)).drew := ⟨_, rfl⟩
              rw [← hw1]
              have HF1 := HFb
              rw [← hw1] at HF1
              clear hw1)
           clear k0 k1 k2 k3 k4 HFa HFb
           have HOW := Lib.hid (HX0.out w1 HF1.out.2.1.size)
           go_wp2_with (at_builtin; refine list_tabs _ (by rfl) (.tmp 46) (.tmp 47) (by rfl) w.heap.size (.slice (some ⟨w1.heap.size, 0, none⟩) 0 0) 0 [] (by rfl) HOW.out ⟨wz.heap.size, 0, none⟩ 1 1 [⟨xn, xa, xl, xc, xr, xx, xs⟩] (by rfl) rfl ?qc (by omega) ?qb ?_)
           trace_state
           case qc =>
             intro j u hj
             rw [Addr.add_lit, Nat.zero_add]
             refine (cell_of_row _ wz.heap.size j _ _ _ ((heap_alloc_old _ _ (by rw [HF1.out.1]; omega)).trans HF1.out.2.2.2.2)).trans ?_
             simpa [tabL] using hj
           case qb => have := HF1.out.2.1.size; simp; omega
           intro v8 w8 hown hgr hat
           have HOW8 := Lib.hid (show w8.ownsRow w.heap.size 25 5 v8 (0 + 1) (([⟨xn, xa, xl, xc, xr, xx, xs⟩] : List Tab).map tabL).flatten from by simpa using hown)
           have HB8 := Lib.hid (show Below w.heap.size w w8 from (HF1.out.2.1.alloc HF1.out.2.1.size _).grown hgr (by have := HF1.out.2.1.size; simp; omega) (fun q hq => by have h1 : w1.heap.size = q := Option.some.inj hq; have := HF1.out.2.1.size; omega))
           clear hown hgr hat
           go_wp2
           go_roundw
           case rel => exact ⟨1, [⟨xn, xa, xl, xc, xr, xx, xs⟩], by omega, by go_num, (fun h => by omega), HB8, HOW8, Lib.hid rfl, HRN⟩
           case measure => simp [intOf] <;> omega
     · obtain ⟨g, cap, rfl⟩ := own_slice' hk0 HO.out
       have hkc : k ≤ cap := by
         rcases HO.out.2 with ⟨e1, _⟩ | ⟨g', cap', cur, e1, _, _, h5, _⟩
         · cases e1
         · cases e1; exact h5
       have hcm : cap ≤ maxLen := by
         rcases HO.out.2 with ⟨e1, _⟩ | ⟨g', cap', cur, e1, _, _, _, h5, _⟩
         · cases e1
         · cases e1; exact h5
       unfold maxLen at hcm
       obtain ⟨O, hO⟩ : ∃ O, O = insG Tab.name outs ⟨xn, xa, xl, xc, xr, xx, xs⟩ := ⟨_, rfl⟩
       rw [← hO] at HRN
       have HSK := Lib.hid (show O = sinkG Tab.name (k) (outs.take (k) ++ ⟨xn, xa, xl, xc, xr, xx, xs⟩ :: outs.drop (k)) from by
         have h1 := HL.out
         rw [hO, ← h1, List.take_length, List.drop_length]
         rfl)
       clear hv0 hO
       go_wp2_with fail
       go_loopw [5] (fun i wr => ∃ j : Nat, j ≤ k ∧ i = .int .i64 j ∧ Hid (Below wo.heap.size wo wr) ∧ Hid (O = sinkG Tab.name j (outs.take j ++ ⟨xn, xa, xl, xc, xr, xx, xs⟩ :: outs.drop j))) (fun i _ => (intOf i).toNat)
       case atStart => exact ⟨k, Nat.le_refl _, by go_num, Lib.hid (Below.refl _ _), HSK⟩
       case round =>
         obtain ⟨j, hj, rfl, HBI, HSJ⟩ := hrel
         obtain ⟨wi, rfl⟩ : ∃ wi : World, wi = wr := ⟨_, rfl⟩
         have HBW := Lib.hid (show Below w.heap.size w wi from HB.out.trans (HBI.out.mono HB.out.size))
         have HOI := Lib.hid (own_kept HO.out HBI.out (Nat.le_refl _))
         have hways : (∃ (j' : Nat) (y : Tab), j = j' + 1 ∧ outs[j']? = some y ∧ Op.bytesLess xn.toList y.name.toList = true ∧ Hid (O = sinkG Tab.name j' (outs.take j' ++ ⟨xn, xa, xl, xc, xr, xx, xs⟩ :: outs.drop j'))) ∨ (Hid (O = outs.take j ++ ⟨xn, xa, xl, xc, xr, xx, xs⟩ :: outs.drop j) ∧ (j = 0 ∨ ∃ (j' : Nat) (y : Tab), j = j' + 1 ∧ outs[j']? = some y ∧ Op.bytesLess xn.toList y.name.toList = false)) := by
           cases j with
           | zero => exact Or.inr ⟨Lib.hid HSJ.out, Or.inl rfl⟩
           | succ j' =>
             have hl0 := HL.out
             have hjl : j' < outs.length := by omega
             have e1 := HSJ.out
             have e2 : outs.take (j' + 1) = outs.take j' ++ [outs[j']] := List.take_succ_eq_append_getElem hjl
             have e3 : outs.drop j' = outs[j'] :: outs.drop (j' + 1) := List.drop_eq_getElem_cons hjl
             have e4 : (outs.take j').length = j' := by rw [List.length_take]; omega
             rw [e2, List.append_assoc] at e1
             have e5 := sinkG_step Tab.name (outs.take j') outs[j'] (⟨xn, xa, xl, xc, xr, xx, xs⟩ : Tab) (outs.drop (j' + 1))
             rw [e4] at e5
             have e6 := e1.trans e5
             cases hq : Op.bytesLess xn.toList outs[j'].name.toList with
             | true =>
               refine Or.inl ⟨j', outs[j'], rfl, List.getElem?_eq_getElem hjl, hq, Lib.hid ?_⟩
               rw [e6, e3]
               exact if_pos hq
             | false =>
               refine Or.inr ⟨Lib.hid ?_, Or.inr ⟨j', outs[j'], rfl, List.getElem?_eq_getElem hjl, hq⟩⟩
               rw [e6, e2, List.append_assoc]
               exact if_neg (by show ¬ (Op.bytesLess xn.toList outs[j'].name.toList = true); rw [hq]; decide)
         have kk0 := HC.out _ HBW.out 0 _ rfl
         rw [Nat.add_zero] at kk0
         rcases hways with ⟨j', y, rfl, hy, hless, HNX⟩ | ⟨HFIN, hstop⟩
         · have hcy : wi.cell? ⟨g, j' * 5, none⟩ = some (.string y.name) := by
             have h1 := HOI.out.cells rfl (j' * 5 + 0) (.string y.name) (flat_get (tab_len outs) (by rw [List.getElem?_map, hy]; rfl) rfl)
             rw [Addr.add_lit, Nat.zero_add] at h1
             exact h1
           have hkk : ((j' : Int) + 1).toNat = j' + 1 := by omega
           have hjk : (j' : Int) < (k : Int) := by omega
           have hjk2 : j' < k := by omega
           have hj0 : ((0 : Int) < (j' : Int) + 1) = True := eq_true (by omega)
           have hw1 : IntKind.i64.wrap (j' : Int) = (j' : Int) := IntWalk.i64_in _ (by omega)
           clear hy
           go_wp2_with fail
           go_quiet ((fail))
           go_wp2_with fail
           go_roundw
           case rel => exact ⟨j', by omega, by go_num, Lib.hid (HBI.out.trans (below_drewN ((Below.refl _ _).mono HBI.out.size) nq)), HNX⟩
           case measure => simp [intOf] <;> omega
         · obtain ⟨A, hA, HSRC⟩ : ∃ A : Addr, (if cap = j then (some ⟨g, 0, none⟩ : Option Addr) else some ⟨g, j * 5, none⟩) = some A ∧ Hid (∀ W : World, W.ownsRow w.heap.size 25 5 (.slice (some ⟨g, 0, none⟩) k cap) k (outs.map tabL).flatten → ∀ i u, ((outs.drop j).map tabL).flatten[i]? = some u → W.cell? (A.add i) = some u) := by
             by_cases h : cap = j
             · refine ⟨⟨g, 0, none⟩, by simp [h], fun W hW i u hu => ?_⟩
               have h0 : (outs.drop j).length = 0 := by rw [List.length_drop, HL.out]; omega
               rw [List.length_eq_zero_iff.1 h0] at hu
               simp at hu
             · exact ⟨⟨g, j * 5, none⟩, by simp [h], fun W hW i u hu => own_part hW j 0 (outs.drop j) ⟨outs.take j, [], by rw [List.append_nil, List.take_append_drop], by rw [List.length_take, HL.out]; omega⟩ i u hu⟩
           have hjk : ((j : Int) < (k : Int)) ∨ j = k := by omega
           have hjc : j ≤ cap := by omega
           have HLD := Lib.hid (show k - j = (outs.drop j).length by rw [List.length_drop, HL.out])
           have HLT := Lib.hid (show j = (outs.take j).length by rw [List.length_take, HL.out]; omega)
           have HSRT := Lib.hid (show ∀ W : World, W.ownsRow w.heap.size 25 5 (.slice (some ⟨g, 0, none⟩) k cap) k (outs.map tabL).flatten → ∀ i u, ((outs.take j).map tabL).flatten[i]? = some u → W.cell? ((⟨g, 0, none⟩ : Addr).add i) = some u from fun W hW i u hu => by
             have := own_part hW 0 0 (outs.take j) ⟨[], outs.drop j, by rw [List.nil_append, List.take_append_drop], rfl⟩ i u hu
             simpa using this)
           have hg0 : ∀ (j' : Nat) (y : Tab), outs[j']? = some y → wi.cell? ⟨g, j' * 5, none⟩ = some (.string y.name) := fun j' y hy => by
             have h1 := HOI.out.cells rfl (j' * 5 + 0) (.string y.name) (flat_get (tab_len outs) (by rw [List.getElem?_map, hy]; rfl) rfl)
             rw [Addr.add_lit, Nat.zero_add] at h1
             exact h1
           obtain ⟨jz, hjz⟩ : ∃ jz, jz = j := ⟨_, rfl⟩
           have HJZ := Lib.hid hjz
           have hpre : (decide (0 < j) = false) ∨ ∃ (yn : ByteArray), (decide (0 < j) = true ∧ 0 < j ∧ 1 ≤ j ∧ ((1 : Int) ≤ (j : Int)) = True ∧ ((j : Int) - 1).toNat = j - 1 ∧ ((j : Int) - 1) < (k : Int) ∧ j - 1 < k ∧ ((0 : Int) < (j : Int)) = True ∧ ((0 : Int) ≤ (j : Int) - 1) = True ∧ IntKind.i64.wrap ((j : Int) - 1) = (j : Int) - 1 ∧ wi.cell? ⟨g, (j - 1) * 5, none⟩ = some (.string yn) ∧ Op.bytesLess xn.toList yn.toList = false) := by
             rcases hstop with h | ⟨j', y, h1, h2, h3⟩
             · exact Or.inl (decide_eq_false (by omega))
             · refine Or.inr ⟨y.name, decide_eq_true (by omega), by omega, by omega, eq_true (by omega), by omega, by omega, by omega, eq_true (by omega), eq_true (by omega), IntWalk.i64_in _ (by omega), hg0 (j - 1) y (by rw [h1, Nat.add_sub_cancel]; exact h2), h3⟩
           clear hstop hg0 hjk hjz
           rcases hpre with hj00 | ⟨yn, hj00, f1, f2, f3, f4, f5, f6, f8, f9, f10, f7, f11⟩
           all_goals
             go_wp2_with fail
             go_quiet ((fail))
             go_wp2_with fail
             obtain ⟨wz, hwz⟩ : ∃ wz, wz = wi.drewN nq := ⟨_, rfl⟩
             have HBZ := Lib.hid (show Below w.heap.size w wz from by rw [hwz]; exact below_drewN HBW.out nq)
             have HOZ := Lib.hid (show wz.ownsRow w.heap.size 25 5 (.slice (some ⟨g, 0, none⟩) k cap) k (outs.map tabL).flatten from by rw [hwz]; exact own_kept HOI.out (below_drewN (Below.refl _ _) nq) (Nat.le_refl _))
             rw [← hwz]
             clear hwz kk0
             (try clear f7)
             have k0 : wz.drew.cell? ⟨b, off + k * 5, none⟩ = some (.string xn) := HC.out _ HBZ.out.drew 0 _ rfl
             have k1 : wz.drew.cell? ⟨b, off + k * 5 + 1, none⟩ = some (.slice xa xl xc) := HC.out _ HBZ.out.drew 1 _ rfl
             have k2 : wz.drew.cell? ⟨b, off + k * 5 + 2, none⟩ = some (.int .i64 xr) := HC.out _ HBZ.out.drew 2 _ rfl
             have k3 : wz.drew.cell? ⟨b, off + k * 5 + 3, none⟩ = some (.int .i64 xx) := HC.out _ HBZ.out.drew 3 _ rfl
             have k4 : wz.drew.cell? ⟨b, off + k * 5 + 4, none⟩ = some (.int .i64 xs) := HC.out _ HBZ.out.drew 4 _ rfl
             have HF' := Lib.hid (fun W h => HF.out wz W _ _ _ HBZ.out HOZ.out h)
             go_region_law (first
               | (have HF1 := Lib.hid (HF'.out _ (by first | exact Or.inl rfl | exact Or.inr rfl))
                  refine step_tabs _ (by rfl) (.tmp 37) (.tmp 40) (by rfl) w.heap.size (.slice (some ⟨wz.heap.size, 0, none⟩) 1 1) 1 (tabL ⟨xn, xa, xl, xc, xr, xx, xs⟩) (by rfl) HF1.out.2.2.1 A (k - j) (cap - j) (outs.drop j) (by simp [Act.eval]) HLD.out (fun i u hu => HSRC.out _ HF1.out.2.2.2.1 i u hu) (by omega) HF1.out.2.1.size ?_
                  intro v6 w6 hown hgr hat
                  rw [Nat.add_comm] at hown
                  obtain ⟨g6, cap6, rfl⟩ := own_slice hown
                  have HV6 := Lib.hid hown
                  have HO6 := Lib.hid (show w6.ownsRow w.heap.size 25 5 (.slice (some ⟨g, 0, none⟩) k cap) k (outs.map tabL).flatten from World.ownsRow.kept HF1.out.2.2.2.1 hgr (Or.inr (fun e => by have h1 := (HOZ.out.lt g rfl).2; have h2 : g = wz.heap.size := Option.some.inj e; omega)))
                  have HB6 := Lib.hid (show Below w.heap.size w w6 from HF1.out.2.1.grown hgr HF1.out.2.1.size (fun q hq => by have h1 : wz.heap.size = q := Option.some.inj hq; have := HBZ.out.size; omega))
                  have H6L := Lib.hid (show g6 < w6.heap.size ∧ g < w6.heap.size ∧ g6 ≠ g from ⟨(hown.lt g6 rfl).2, (HO6.out.lt g rfl).2, fun e => by
                    have h1 := (HOZ.out.lt g rfl).2
                    rcases hat with h2 | h2
                    · have h3 : g6 = wz.heap.size := Option.some.inj h2
                      omega
                    · have h3 : g6 = wz.heap.size + 1 := (Option.some.inj h2).trans HF1.out.1
                      omega⟩)
                  clear hown hgr hat)
               | fail)
             all_goals
               clear k0 k1 k2 k3 k4
               have HOW := Lib.hid (HX0.out w6 HB6.out.size)
               have HB7 := Lib.hid (HB6.out.alloc HB6.out.size (.cells #[] 25))
               have HO7 := Lib.hid (own_kept HO6.out (below1 w6 (.cells #[] 25)) (Nat.le_refl _))
               have HV7 := Lib.hid (own_kept HV6.out (below1 w6 (.cells #[] 25)) (Nat.le_refl _))
               go_wp2_with (at_builtin; refine list_tabs _ (by rfl) (.tmp 42) (.tmp 45) (by rfl) w.heap.size (.slice (some ⟨w6.heap.size, 0, none⟩) 0 0) 0 [] (by rfl) HOW.out ⟨g, 0, none⟩ j cap (outs.take j) (by rfl) HLT.out (fun i u hu => HSRT.out _ HO7.out i u hu) (by omega) ?qb ?_)
               case qb => have := HB6.out.size; simp; omega
               intro v8 w8 hown hgr hat
               have HOW8 := Lib.hid (show w8.ownsRow w.heap.size 25 5 v8 j (((outs.take j).map tabL).flatten) from by simpa using hown)
               have HV8 := Lib.hid (show w8.ownsRow w.heap.size 25 5 (.slice (some ⟨g6, 0, none⟩) (k - j + 1) cap6) (k - j + 1) (tabL ⟨xn, xa, xl, xc, xr, xx, xs⟩ ++ ((outs.drop j).map tabL).flatten) from World.ownsRow.kept HV7.out hgr (Or.inr (fun e => by have h1 := H6L.out.1; have h2 : g6 = w6.heap.size := Option.some.inj e; omega)))
               have HB8 := Lib.hid (show Below w.heap.size w w8 from HB7.out.grown hgr HB7.out.size (fun q hq => by have h1 : w6.heap.size = q := Option.some.inj hq; have := HB6.out.size; omega))
               have HBK := Lib.hid (show ∀ q, v8.ownBlock = some q → w.heap.size ≤ q from fun q hq => (HOW8.out.lt q hq).1)
               clear hown hgr hat
               go_wp2_with (at_builtin; refine list_tabs _ (by rfl) (.tmp 46) (.tmp 47) (by rfl) w.heap.size v8 j ((outs.take j).map tabL).flatten (by rfl) HOW8.out ⟨g6, 0, none⟩ (k - j + 1) cap6 (⟨xn, xa, xl, xc, xr, xx, xs⟩ :: outs.drop j) (by rfl) ?qm ?qc (by omega) ?qb ?_)
               case qm => rw [List.length_cons, ← HLD.out]
               case qc =>
                 intro i u hu
                 exact HV8.out.cells rfl i u (by simpa using hu)
               case qb => exact HB8.out.size
               intro v9 w9 hown hgr hat
               have HE9 := Lib.hid (show j + (k - j + 1) = k + 1 by omega)
               have HOW9 := Lib.hid (show w9.ownsRow w.heap.size 25 5 v9 (k + 1) (O.map tabL).flatten from by
                 have h := hown
                 rw [HE9.out] at h
                 rw [HFIN.out]
                 simpa using h)
               have HB9 := Lib.hid (show Below w.heap.size w w9 from HB8.out.grown hgr HB8.out.size (fun q hq => HBK.out q hq))
               have HL9 := Lib.hid (show O.length = k + 1 by rw [HFIN.out, List.length_append, List.length_cons, ← HLD.out, ← HLT.out]; omega)
               clear hown hgr hat
               go_wp2
               go_roundw
               case rel => exact ⟨k + 1, O, by omega, by go_num, (fun h => by omega), HB9, HOW9, HL9, HRN⟩
               case measure => simp [intOf] <;> omega
   · obtain rfl : k = n := by omega
     have HE := Lib.hid (show R = outs by rw [HR.out, HN.out, List.drop_length]; rfl)
     have hkn : ((k : Int) < (k : Int)) = False := eq_false (by omega)
     go_wp2_with fail
     go_ret
     exact ⟨_, rfl, HB.out, by rw [HE.out]; exact HO.out⟩
end Go.Proofs.YtcgpflkaejbkhaaGreatDoor
