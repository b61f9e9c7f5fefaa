/- A schema of the call's own in a variable: behind a change of its rows. -/
import Derived.Test.YtcgpflkaejbkhaaGreatDoorQAN
import Derived.Deep.RegionLaw
import Derived.Deep.RegionHeld3
namespace Go.Proofs.YtcgpflkaejbkhaaGreatDoor
open Go.RowKit

structure MidS (w : World) (q base b : Nat) (v u : Value) (ts : List (Tab × List Col)) (xs : List (Idx × List Int)) (W : World) : Prop where
 below : Below w.heap.size w W
 ans : W.heap[q]? = some (.cells #[.slice none 0 0, .slice none 0 0] 36)
 out : W.heap[b]? = some (.cells #[v, u] 36)
 own : OwnS base b v u ts xs W
 far : w.heap.size ≤ q ∧ q < base ∧ base ≤ b
theorem MidS.keep {w : World} {q base b : Nat} {v u : Value} {ts : List (Tab × List Col)} {xs : List (Idx × List Int)} {W W' : World} (h : MidS w q base b v u ts xs W) (hB : Below W.heap.size W W') : MidS w q base b v u ts xs W' :=
 ⟨h.below.trans (hB.mono h.below.size), (hB.block _ (heap_lt h.ans)).trans h.ans, (hB.block _ (heap_lt h.out)).trans h.out, h.own.keep hB, h.far⟩
theorem MidS.row_t {w : World} {q base b : Nat} {v u : Value} {ts : List (Tab × List Col)} {xs : List (Idx × List Int)} {W : World} (h : MidS w q base b v u ts xs W) {k : Nat} (hk : v.ownBlock = some k) : w.heap.size ≤ k ∧ k ≠ q ∧ k ≠ b := by
 have h1 := (h.own.tab.block hk).1
 have h2 := h.far
 exact ⟨by omega, by omega, fun e => h.own.rows.1 (by rw [hk, e])⟩
theorem MidS.row_x {w : World} {q base b : Nat} {v u : Value} {ts : List (Tab × List Col)} {xs : List (Idx × List Int)} {W : World} (h : MidS w q base b v u ts xs W) {k : Nat} (hk : u.ownBlock = some k) : w.heap.size ≤ k ∧ k ≠ q ∧ k ≠ b := by
 have h1 := (h.own.idx.block hk).1
 have h2 := h.far
 exact ⟨by omega, by omega, fun e => h.own.rows.2 (by rw [hk, e])⟩
theorem MidS.retab {w : World} {q base b : Nat} {v v' u : Value} {ts ts' : List (Tab × List Col)} {xs : List (Idx × List Int)} {W W' : World} (h : MidS w q base b v u ts xs W) (hg : W.grownBy W' v.ownBlock) (hv : v'.ownBlock = v.ownBlock ∨ v'.ownBlock = some W.heap.size)
   (hrow : RowsAt W' base 25 ts'.length v' ((ts'.map Prod.fst).map tabL).flatten) (hd : ∀ p ∈ ts', OwnTab base b v u W p) : MidS w q base b v' u ts' xs (W'.setCell ⟨b, 0, none⟩ v') ∧ W'.heap[b]? = some (.cells #[v, u] 36) := by
 have hb := heap_lt h.out
 have hq := heap_lt h.ans
 have h1 := (hg.block b hb (fun e => (h.row_t e.symm).2.2 rfl)).trans h.out
 have h2 := (hg.block q hq (fun e => (h.row_t e.symm).2.1 rfl)).trans h.ans
 have hfar := h.far
 refine ⟨⟨(h.below.grown hg h.below.size (fun k hk => (h.row_t hk).1)).setCell (p := ⟨b, 0, none⟩) (by show w.heap.size ≤ b; omega) _, ?_, ?_, (h.own.retab hg hv hb hrow hd).box _ _ _ (Or.inr rfl), h.far⟩, h1⟩
 · rw [heap_setFar _ (by omega)]; exact h2
 · rw [setCell_eq_setRow W' _ 0 _ 36 _ _ h1]
   exact setRow_heap W' _ _ _ 36 _ h1
theorem MidS.reidx {w : World} {q base b : Nat} {v u u' : Value} {ts : List (Tab × List Col)} {xs xs' : List (Idx × List Int)} {W W' : World} (h : MidS w q base b v u ts xs W) (hg : W.grownBy W' u.ownBlock) (hv : u'.ownBlock = u.ownBlock ∨ u'.ownBlock = some W.heap.size)
   (hrow : RowsAt W' base 28 xs'.length u' ((xs'.map Prod.fst).map idxL).flatten) (hd : ∀ p ∈ xs', OwnIdx base b v u W p) : MidS w q base b v u' ts xs' (W'.setCell ⟨b, 1, none⟩ u') ∧ W'.heap[b]? = some (.cells #[v, u] 36) := by
 have hb := heap_lt h.out
 have hq := heap_lt h.ans
 have h1 := (hg.block b hb (fun e => (h.row_x e.symm).2.2 rfl)).trans h.out
 have h2 := (hg.block q hq (fun e => (h.row_x e.symm).2.1 rfl)).trans h.ans
 have hfar := h.far
 refine ⟨⟨(h.below.grown hg h.below.size (fun k hk => (h.row_x hk).1)).setCell (p := ⟨b, 1, none⟩) (by show w.heap.size ≤ b; omega) _, ?_, ?_, (h.own.reidx hg hv hb hrow hd).box _ _ _ (Or.inr rfl), h.far⟩, h1⟩
 · rw [heap_setFar _ (by omega)]; exact h2
 · rw [setCell_eq_setRow W' _ 1 _ 36 _ _ h1]
   exact setRow_heap W' _ _ _ 36 _ h1
theorem MidS.tabs {w : World} {q base b : Nat} {v u : Value} {ts ts' : List (Tab × List Col)} {xs : List (Idx × List Int)} {W W' : World} (h : MidS w q base b v u ts xs W) (hg : W.grownBy W' v.ownBlock)
   (hrow : RowsAt W' base 25 ts'.length v ((ts'.map Prod.fst).map tabL).flatten) (hd : ∀ p ∈ ts', OwnTab base b v u W p) : MidS w q base b v u ts' xs W' := by
 have hb := heap_lt h.out
 have hq := heap_lt h.ans
 exact ⟨h.below.grown hg h.below.size (fun k hk => (h.row_t hk).1), (hg.block q hq (fun e => (h.row_t e.symm).2.1 rfl)).trans h.ans, (hg.block b hb (fun e => (h.row_t e.symm).2.2 rfl)).trans h.out, h.own.retab hg (Or.inl rfl) hb hrow hd, h.far⟩
theorem MidS.idxs {w : World} {q base b : Nat} {v u : Value} {ts : List (Tab × List Col)} {xs xs' : List (Idx × List Int)} {W W' : World} (h : MidS w q base b v u ts xs W) (hg : W.grownBy W' u.ownBlock)
   (hrow : RowsAt W' base 28 xs'.length u ((xs'.map Prod.fst).map idxL).flatten) (hd : ∀ p ∈ xs', OwnIdx base b v u W p) : MidS w q base b v u ts xs' W' := by
 have hb := heap_lt h.out
 have hq := heap_lt h.ans
 exact ⟨h.below.grown hg h.below.size (fun k hk => (h.row_x hk).1), (hg.block q hq (fun e => (h.row_x e.symm).2.1 rfl)).trans h.ans, (hg.block b hb (fun e => (h.row_x e.symm).2.2 rfl)).trans h.out, h.own.reidx hg (Or.inl rfl) hb hrow hd, h.far⟩
theorem RowsAt.row_t {W : World} {base n g cap : Nat} {l : List Tab} (h : RowsAt W base 25 n (.slice (some ⟨g, 0, none⟩) n cap) (l.map tabL).flatten) : RowT W g l ∧ n ≤ cap ∧ base ≤ g := by
 rcases h with ⟨e1, _⟩ | ⟨g', cap', rest, e1, e2, e3, e4⟩
 · cases e1
 · cases e1
   exact ⟨⟨rest, e4⟩, e3, e2⟩
theorem RowsAt.row_x {W : World} {base n g cap : Nat} {l : List Idx} (h : RowsAt W base 28 n (.slice (some ⟨g, 0, none⟩) n cap) (l.map idxL).flatten) : RowX W g l ∧ n ≤ cap ∧ base ≤ g := by
 rcases h with ⟨e1, _⟩ | ⟨g', cap', rest, e1, e2, e3, e4⟩
 · cases e1
 · cases e1
   exact ⟨⟨rest, e4⟩, e3, e2⟩
theorem RowT.at {W : World} {base n g cap : Nat} {l : List Tab} (h : RowT W g l) (hb : base ≤ g) (hn : n ≤ cap) : RowsAt W base 25 n (.slice (some ⟨g, 0, none⟩) n cap) (l.map tabL).flatten := by
 obtain ⟨rest, hr⟩ := h
 exact Or.inr ⟨g, cap, rest, rfl, hb, hn, hr⟩
theorem RowX.at {W : World} {base n g cap : Nat} {l : List Idx} (h : RowX W g l) (hb : base ≤ g) (hn : n ≤ cap) : RowsAt W base 28 n (.slice (some ⟨g, 0, none⟩) n cap) (l.map idxL).flatten := by
 obtain ⟨rest, hr⟩ := h
 exact Or.inr ⟨g, cap, rest, rfl, hb, hn, hr⟩
theorem MidS.sortT {w : World} {q base b n g cap : Nat} {u : Value} {ts : List (Tab × List Col)} {xs : List (Idx × List Int)} {W W' : World} (h : MidS w q base b (.slice (some ⟨g, 0, none⟩) n cap) u ts xs W) (hn : n = ts.length) (hs : SortW W g n (sortT (ts.map Prod.fst)) W') :
   MidS w q base b (.slice (some ⟨g, 0, none⟩) n cap) u (sortG (fun p => p.1.name) ts) xs W' := by
 obtain ⟨h1, h2, h3⟩ := hs
 have e : (sortG (fun p : Tab × List Col => p.1.name) ts).map Prod.fst = YtcgpflkaejbkhaaGreatDoor.sortT (ts.map Prod.fst) := by
   rw [sortT_G]
   exact sortG_map (fun p : Tab × List Col => p.1.name) Tab.name Prod.fst (fun _ => rfl) ts
 have h0 := h.own.tab
 rw [← hn] at h0
 obtain ⟨q1, q2, q3⟩ := h0.row_t
 refine h.tabs h2 ?_ (fun p hp => h.own.cols p (sortG_mem _ hp))
 rw [e, sortG_len, ← hn]
 exact h1.at q3 q2
theorem MidS.sortX {w : World} {q base b n g cap : Nat} {v : Value} {ts : List (Tab × List Col)} {xs : List (Idx × List Int)} {W W' : World} (h : MidS w q base b v (.slice (some ⟨g, 0, none⟩) n cap) ts xs W) (hn : n = xs.length) (hs : SortX W g n (sortX (xs.map Prod.fst)) W') :
   MidS w q base b v (.slice (some ⟨g, 0, none⟩) n cap) ts (sortG (fun p => p.1.name) xs) W' := by
 obtain ⟨h1, h2, h3⟩ := hs
 have e : (sortG (fun p : Idx × List Int => p.1.name) xs).map Prod.fst = YtcgpflkaejbkhaaGreatDoor.sortX (xs.map Prod.fst) := by
   rw [sortX_G]
   exact sortG_map (fun p : Idx × List Int => p.1.name) Idx.name Prod.fst (fun _ => rfl) xs
 have h0 := h.own.idx
 rw [← hn] at h0
 obtain ⟨q1, q2, q3⟩ := h0.row_x
 refine h.idxs h2 ?_ (fun p hp => h.own.places p (sortG_mem _ hp))
 rw [e, sortG_len, ← hn]
 exact h1.at q3 q2
def OutP (w : World) (er : Int) (T : List PT) (X : List PX) (e : Ending) (w' : World) : Prop := Below w.heap.size w w' ∧
 ((er = 0 ∧ ∃ (A ia : Option Addr) (c ic h : Nat) (ts : List (Tab × List Col)) (xs : List (Idx × List Int)), e = .returned (.tuple #[.agg #[.slice A ts.length c, .slice ia xs.length ic], .int .i64 0]) ∧ OwnS w.heap.size h (.slice A ts.length c) (.slice ia xs.length ic) ts xs w' ∧ ts.map ptOf = T ∧ xs.map pxOf = X) ∨
  (er ≠ 0 ∧ e = .returned (.tuple #[.agg #[.slice none 0 0, .slice none 0 0], .int .i64 er])))
theorem MidS.done {w : World} {q base b n m c ic : Nat} {A ia : Option Addr} {ts : List (Tab × List Col)} {xs : List (Idx × List Int)} {W : World} (h : MidS w q base b (.slice A n c) (.slice ia m ic) ts xs W) (hn : n = ts.length) (hm : m = xs.length) (x y : Value) :
   OutP w 0 (ts.map ptOf) (xs.map pxOf) (.returned (.tuple #[.agg #[.slice A n c, .slice ia m ic], .int .i64 0])) ((W.setCell ⟨q, 0, none⟩ x).setCell ⟨q, 1, none⟩ y) := by
 subst hn hm
 have hf := h.far
 refine ⟨(h.below.setCell (p := ⟨q, 0, none⟩) hf.1 _).setCell (p := ⟨q, 1, none⟩) hf.1 _, Or.inl ⟨rfl, A, ia, c, ic, b, ts, xs, rfl, ?_, rfl, rfl⟩⟩
 exact (((h.own).box q 0 x (Or.inl hf.2.1)).box q 1 y (Or.inl hf.2.1)).le (by omega)
theorem ErrP.out {w : World} {er : Int} {T : List PT} {X : List PX} {e : Ending} {w' : World} (h : ErrP er w e w') (hr : er ≠ 0) : OutP w er T X e w' := ⟨h.2, Or.inr ⟨hr, h.1⟩⟩
def findN {α : Type} (nm : α → ByteArray) (l : List α) (x : ByteArray) : Option Nat := l.findIdx? (fun p => sameN (nm p) x)
theorem first_find {α : Type} {P : Nat → Bool} {l : List α} {nm : α → ByteArray} {x : ByteArray} (hP : ∀ (j : Nat) (y : α), l[j]? = some y → P j = sameN (nm y) x) {r : Int} (h : FirstIs P l.length r) : (∃ k : Nat, k < l.length ∧ findN nm l x = some k ∧ r = k) ∨ (findN nm l x = none ∧ r = -1) := by
 rcases h with ⟨k, hk, rfl, hp, hq⟩ | ⟨rfl, hp⟩
 · refine Or.inl ⟨k, hk, ?_, rfl⟩
   unfold findN
   rw [List.findIdx?_eq_some_iff_getElem]
   refine ⟨hk, by rw [← hP k l[k] (List.getElem?_eq_getElem hk)]; exact hp, fun j hj => ?_⟩
   have hjl : j < l.length := Nat.lt_trans hj hk
   have := hq j hj
   rw [hP j l[j] (List.getElem?_eq_getElem hjl)] at this
   simpa using this
 · refine Or.inr ⟨?_, rfl⟩
   unfold findN
   rw [List.findIdx?_eq_none_iff]
   intro y hy
   obtain ⟨j, hj, rfl⟩ := List.mem_iff_getElem.1 hy
   have := hp j hj
   rw [hP j l[j] (List.getElem?_eq_getElem hj)] at this
   exact this
theorem findN_map {α β : Type} (na : α → ByteArray) (nb : β → ByteArray) (f : α → β) (hf : ∀ x, nb (f x) = na x) (l : List α) (x : ByteArray) : findN nb (l.map f) x = findN na l x := by
 unfold findN
 rw [List.findIdx?_map]
 congr 1
 funext p
 show sameN (nb (f p)) x = _
 rw [hf]
def ptBad (t : PT) : Bool := !nameB t.name.data.toList || decide (t.root < 1) || decide (1600 < t.root) || decide (t.next < 1) || decide (t.rows < 0)
def errT (T : List PT) (t : PT) : Int := if ptBad t then 7 else if (findN PT.name T t.name).isNone && decide (8 ≤ T.length) then 11 else colsR t.cols
def putT (T : List PT) (t : PT) : List PT := match findN PT.name T t.name with
 | some k => T.set k t
 | none => sortG PT.name (T ++ [t])
def pxBad (x : PX) : Bool := !nameB x.name.data.toList || decide (x.state < 1) || decide (3 < x.state) || decide (x.root < 1) || decide (1600 < x.root) || decide (x.cursor < 0)
def errX (T : List PT) (X : List PX) (x : PX) : Int := if pxBad x then 7 else match findN PT.name T x.table with
 | none => 130
 | some k => if (findN PX.name X x.name).isNone && decide (12 ≤ X.length) then 11 else match T[k]? with
   | some t => placesR t.cols.length x.places
   | none => 0
def putX (X : List PX) (x : PX) : List PX := match findN PX.name X x.name with
 | some k => X.set k x
 | none => sortG PX.name (X ++ [x])
end Go.Proofs.YtcgpflkaejbkhaaGreatDoor
namespace Go.Proofs.YtcgpflkaejbkhaaGreatDoor
open Go.RowKit

def placeI : Option Nat → Int
 | some k => (k : Int)
 | none => -1
theorem first_place {α : Type} {P : Nat → Bool} {l : List α} {nm : α → ByteArray} {x : ByteArray} (hP : ∀ (j : Nat) (y : α), l[j]? = some y → P j = sameN (nm y) x) {r : Int} (h : FirstIs P l.length r) : r = placeI (findN nm l x) := by
 rcases first_find hP h with ⟨k, _, h1, rfl⟩ | ⟨h1, rfl⟩ <;> rw [h1] <;> rfl
theorem findN_lt {α : Type} {nm : α → ByteArray} {l : List α} {x : ByteArray} {k : Nat} (h : findN nm l x = some k) : k < l.length := by
 unfold findN at h
 obtain ⟨h, _⟩ := List.findIdx?_eq_some_iff_getElem.1 h
 exact h
theorem table_at (A : Option Addr) (c : Nat) (ts : List (Tab × List Col)) (ia : Option Addr) (il ic : Nat) (nm : ByteArray) (w : World) (h : DeepAt w A ts) : Calls Tryz.prog 12 #[.agg #[.slice A ts.length c, .slice ia il ic], .string nm] w (RetV (.int .i64 (placeI (findN PT.name (ts.map ptOf) nm))) w) := by
 have h1 := table_any A c (ts.map Prod.fst) ia il ic nm w h.1
 rw [List.length_map] at h1
 refine h1.mono fun e w' ⟨r, h1, h2, h3⟩ => ?_
 rw [first_place (P := nameAt (ts.map Prod.fst) nm) (l := ts) (nm := fun p => p.1.name) (fun j y hj => by unfold nameAt; rw [List.getElem?_map, hj]; rfl) h2] at h1
 rw [findN_map (fun p : Tab × List Col => p.1.name) PT.name ptOf (fun _ => rfl)]
 exact ⟨h1, h3⟩
theorem rtable_at (A : Option Addr) (c : Nat) (ts : List (Tab × List Col)) (ia : Option Addr) (il ic : Nat) (nm : ByteArray) (w : World) (h : DeepAt w A ts) : Calls Tryz.prog 13 #[.agg #[.slice A ts.length c, .slice ia il ic], .string nm] w (RetV (.int .i64 (placeI (findN PT.name (ts.map ptOf) nm))) w) := by
 have h1 := rtable_any A c (ts.map Prod.fst) ia il ic nm w h.1
 rw [List.length_map] at h1
 refine h1.mono fun e w' ⟨r, h1, h2, h3⟩ => ?_
 rw [first_place (P := nameAt (ts.map Prod.fst) nm) (l := ts) (nm := fun p => p.1.name) (fun j y hj => by unfold nameAt; rw [List.getElem?_map, hj]; rfl) h2] at h1
 rw [findN_map (fun p : Tab × List Col => p.1.name) PT.name ptOf (fun _ => rfl)]
 exact ⟨h1, h3⟩
theorem index_at (A : Option Addr) (c : Nat) (xs : List (Idx × List Int)) (ta : Option Addr) (tl tc : Nat) (nm : ByteArray) (w : World) (h : DeepIx w A xs) : Calls Tryz.prog 14 #[.agg #[.slice ta tl tc, .slice A xs.length c], .string nm] w (RetV (.int .i64 (placeI (findN PX.name (xs.map pxOf) nm))) w) := by
 have h1 := index_any A c (xs.map Prod.fst) ta tl tc nm w h.1
 rw [List.length_map] at h1
 refine h1.mono fun e w' ⟨r, h1, h2, h3⟩ => ?_
 rw [first_place (P := inameAt (xs.map Prod.fst) nm) (l := xs) (nm := fun p => p.1.name) (fun j y hj => by unfold inameAt; rw [List.getElem?_map, hj]; rfl) h2] at h1
 rw [findN_map (fun p : Idx × List Int => p.1.name) PX.name pxOf (fun _ => rfl)]
 exact ⟨h1, h3⟩
theorem rindex_at (A : Option Addr) (c : Nat) (xs : List (Idx × List Int)) (ta : Option Addr) (tl tc : Nat) (nm : ByteArray) (w : World) (h : DeepIx w A xs) : Calls Tryz.prog 15 #[.agg #[.slice ta tl tc, .slice A xs.length c], .string nm] w (RetV (.int .i64 (placeI (findN PX.name (xs.map pxOf) nm))) w) := by
 have h1 := rindex_any A c (xs.map Prod.fst) ta tl tc nm w h.1
 rw [List.length_map] at h1
 refine h1.mono fun e w' ⟨r, h1, h2, h3⟩ => ?_
 rw [first_place (P := inameAt (xs.map Prod.fst) nm) (l := xs) (nm := fun p => p.1.name) (fun j y hj => by unfold inameAt; rw [List.getElem?_map, hj]; rfl) h2] at h1
 rw [findN_map (fun p : Idx × List Int => p.1.name) PX.name pxOf (fun _ => rfl)]
 exact ⟨h1, h3⟩
structure PutXL (w : World) (A : Option Addr) (n c : Nat) (ia : Option Addr) (il ic : Nat) (t : Idx) (W : World) : Prop where
 below : Below w.heap.size w W
 sch : W.heap[w.heap.size]? = some (.cells #[.slice A n c, .slice ia il ic] 36)
 tab : W.heap[w.heap.size + 1]? = some (.cells #[.string t.name, .string t.table, .slice t.pa t.pn t.pc, .int .i64 t.state, .int .i64 t.root, .int .i64 t.cursor] 28)
 ans : W.heap[w.heap.size + 1 + 1]? = some (.cells #[.slice none 0 0, .slice none 0 0] 36)
theorem PutXL.keep {w : World} {A : Option Addr} {n c : Nat} {ia : Option Addr} {il ic : Nat} {t : Idx} {W W' : World} (h : PutXL w A n c ia il ic t W) (hB : Below W.heap.size W W') : PutXL w A n c ia il ic t W' :=
 ⟨h.below.trans (hB.mono h.below.size), (hB.block _ (heap_lt h.sch)).trans h.sch, (hB.block _ (heap_lt h.tab)).trans h.tab, (hB.block _ (heap_lt h.ans)).trans h.ans⟩
theorem PutXL.start (w : World) (A : Option Addr) (n c : Nat) (ia : Option Addr) (il ic : Nat) (t : Idx) : PutXL w A n c ia il ic t (((w.alloc (.cells #[.slice A n c, .slice ia il ic] 36)).alloc (.cells #[.string t.name, .string t.table, .slice t.pa t.pn t.pc, .int .i64 t.state, .int .i64 t.root, .int .i64 t.cursor] 28)).alloc (.cells #[.slice none 0 0, .slice none 0 0] 36)) := by
 refine ⟨((below1 w _).alloc (by simp) _).alloc (by simp; omega) _, ?_, ?_, ?_⟩
 · rw [heap_alloc_old _ _ (by simp; omega), heap_alloc_old _ _ (by simp)]; exact heap_alloc_new w _
 · rw [heap_alloc_old _ _ (by simp)]
   have := heap_alloc_new (w.alloc (.cells #[.slice A n c, .slice ia il ic] 36)) (.cells #[.string t.name, .string t.table, .slice t.pa t.pn t.pc, .int .i64 t.state, .int .i64 t.root, .int .i64 t.cursor] 28)
   rwa [World.size_alloc] at this
 · have := heap_alloc_new ((w.alloc (.cells #[.slice A n c, .slice ia il ic] 36)).alloc (.cells #[.string t.name, .string t.table, .slice t.pa t.pn t.pc, .int .i64 t.state, .int .i64 t.root, .int .i64 t.cursor] 28)) (.cells #[.slice none 0 0, .slice none 0 0] 36)
   rwa [World.size_alloc, World.size_alloc] at this
theorem PutXL.done {w : World} {A : Option Addr} {n c : Nat} {ia : Option Addr} {il ic : Nat} {t : Idx} {W : World} (h : PutXL w A n c ia il ic t W) (x y : Value) : Below w.heap.size w ((W.setCell ⟨w.heap.size + 1 + 1, 0, none⟩ x).setCell ⟨w.heap.size + 1 + 1, 1, none⟩ y) :=
 (h.below.setCell (p := ⟨w.heap.size + 1 + 1, 0, none⟩) (by show w.heap.size ≤ w.heap.size + 1 + 1; omega) _).setCell (p := ⟨w.heap.size + 1 + 1, 1, none⟩) (by show w.heap.size ≤ w.heap.size + 1 + 1; omega) _
def idxBad (t : Idx) : Bool := !nameB t.name.data.toList || decide (t.state < 1) || decide (3 < t.state) || decide (t.root < 1) || decide (1600 < t.root) || decide (t.cursor < 0)
theorem idxBad_ways {t : Idx} {b : Bool} (hb : b = nameB t.name.data.toList) (h : idxBad t = true) : b = false ∨ (b = true ∧ (t.state < 1) = True) ∨ (b = true ∧ (t.state < 1) = False ∧ (3 < t.state) = True) ∨ (b = true ∧ (t.state < 1) = False ∧ (3 < t.state) = False ∧ (t.root < 1) = True) ∨ (b = true ∧ (t.state < 1) = False ∧ (3 < t.state) = False ∧ (t.root < 1) = False ∧ (1600 < t.root) = True) ∨ (b = true ∧ (t.state < 1) = False ∧ (3 < t.state) = False ∧ (t.root < 1) = False ∧ (1600 < t.root) = False ∧ (t.cursor < 0) = True) := by
 unfold idxBad at h
 rw [← hb] at h
 cases b with
 | false => exact Or.inl rfl
 | true =>
   by_cases h1 : t.state < 1
   · exact Or.inr (Or.inl ⟨rfl, eq_true h1⟩)
   · by_cases h2 : 3 < t.state
     · exact Or.inr (Or.inr (Or.inl ⟨rfl, eq_false h1, eq_true h2⟩))
     · by_cases h3 : t.root < 1
       · exact Or.inr (Or.inr (Or.inr (Or.inl ⟨rfl, eq_false h1, eq_false h2, eq_true h3⟩)))
       · by_cases h4 : 1600 < t.root
         · exact Or.inr (Or.inr (Or.inr (Or.inr (Or.inl ⟨rfl, eq_false h1, eq_false h2, eq_false h3, eq_true h4⟩))))
         · refine Or.inr (Or.inr (Or.inr (Or.inr (Or.inr ⟨rfl, eq_false h1, eq_false h2, eq_false h3, eq_false h4, eq_true ?_⟩))))
           simp only [Bool.not_true, Bool.false_or, Bool.or_eq_true, decide_eq_true_iff] at h
           omega
theorem idxBad_no {t : Idx} (h : idxBad t = false) : nameB t.name.data.toList = true ∧ (t.state < 1) = False ∧ (3 < t.state) = False ∧ (t.root < 1) = False ∧ (1600 < t.root) = False ∧ (t.cursor < 0) = False := by
 unfold idxBad at h
 simp only [Bool.or_eq_false_iff, Bool.not_eq_false', decide_eq_false_iff_not] at h
 obtain ⟨⟨⟨⟨⟨h1, h2⟩, h3⟩, h4⟩, h5⟩, h6⟩ := h
 exact ⟨h1, eq_false h2, eq_false h3, eq_false h4, eq_false h5, eq_false h6⟩
end Go.Proofs.YtcgpflkaejbkhaaGreatDoor
namespace Go.Proofs.YtcgpflkaejbkhaaGreatDoor
open Go.RowKit

theorem OwnIdx.of_copy0 {w : World} {q base b : Nat} {v u : Value} {ts : List (Tab × List Col)} {xs : List (Idx × List Int)} {W w9 : World} {t y : Idx} {cl : List Int} (_h1 : Below W.heap.size W w9) (h2 : IdxCopy W t cl y w9) (hcl : cl.length ≤ 1000) (hM : MidS w q base b v u ts xs W) (hb : b < W.heap.size) : OwnIdx base b v u w9 (y, cl) := by
 obtain ⟨e1, e2, e3, e4, e5, e6, e7, e8, e9, e10, e11⟩ := h2
 have hf := hM.far
 refine ⟨e8, e6, e7, e10, hcl, fun a ha => ?_⟩
 have h8 := e9 a ha
 refine ⟨by omega, by omega, h8.2, fun e => ?_, fun e => ?_⟩
 · have := (hM.own.tab.block e).2.1; omega
 · have := (hM.own.idx.block e).2.1; omega
theorem OwnIdx.of_copy {w : World} {q base b : Nat} {v u : Value} {ts : List (Tab × List Col)} {xs : List (Idx × List Int)} {W w9 : World} {t y : Idx} {cl : List Int} {O9 : Obj} (h1 : Below W.heap.size W w9) (h2 : IdxCopy W t cl y w9) (hcl : cl.length ≤ 1000) (hM : MidS w q base b v u ts xs W) (hb : b < W.heap.size) : OwnIdx base b v u (w9.alloc O9) (y, cl) :=
 (OwnIdx.of_copy0 h1 h2 hcl hM hb).grown (grown_of_below (below1 w9 O9) none) (fun k _ e => by cases e)
theorem RowX.set {W : World} {g k : Nat} {l : List Idx} (h : RowX W g l) (hk : k < l.length) (y : Idx) : RowX (setIdx W g (k * 6) y) g (l.set k y) := by
 obtain ⟨rest, hr⟩ := h
 have e : l = l.take k ++ l[k] :: l.drop (k + 1) := by rw [← List.drop_eq_getElem_cons hk, List.take_append_drop]
 have e1 : (l.map idxL).flatten ++ rest = ((l.take k).map idxL).flatten ++ idxL l[k] ++ (((l.drop (k + 1)).map idxL).flatten ++ rest) := by
   conv => lhs; rw [e]
   rw [List.map_append, List.map_cons, List.flatten_append, List.flatten_cons]
   simp only [List.append_assoc]
 have e2 : l.set k y = l.take k ++ y :: l.drop (k + 1) := by
   rw [List.set_eq_take_append_cons_drop, if_pos hk]
 rw [e1] at hr
 have h2 := setIdx_list y hr
 rw [flat_takeX l k (by omega)] at h2
 refine ⟨rest, ?_⟩
 rw [h2, e2]
 simp
set_option maxRecDepth 100000 in
set_option maxHeartbeats 16000000 in
theorem putx_fresh (m : Int) (gt : Nat → Nat) (ht : ∀ j, j < 23 → finD (Ieee.double.read (gt j)) = true) (A : Option Addr) (c : Nat) (ts : List (Tab × List Col)) (ia : Option Addr) (ic : Nat) (xs : List (Idx × List Int)) (t : Idx) (w : World) (hG : Glob m gt w) (hD : DeepAt w A ts) (hX : DeepIx w ia xs) (hbad : idxBad t = false) (kt : Nat) (t0 : Tab) (l0 : List Col) (hof : findN PT.name (ts.map ptOf) t.table = some kt) (ht0 : ts[kt]? = some (t0, l0)) (cl : List Int) (hcol : IntsAt w t.pa cl) (hcn : t.pn = cl.length) (hcc : cl.length ≤ t.pc) (hnone : t.pa = none → t.pc = 0) (hcr : placesR l0.length cl = 0) (hcl : cl.length ≤ 1000) (hn : ts.length ≤ 1000) (hl : ∀ p ∈ ts, p.2.length ≤ 1000) (hlx : ∀ p ∈ xs, p.2.length ≤ 1000) (hm : xs.length ≤ 11) (hat : findN PX.name (xs.map pxOf) t.name = none) :
   Calls Tryz.prog 30 #[.agg #[.slice A ts.length c, .slice ia xs.length ic], .agg #[.string t.name, .string t.table, .slice t.pa t.pn t.pc, .int .i64 t.state, .int .i64 t.root, .int .i64 t.cursor]] w (OutP w 0 (ts.map ptOf) (sortG PX.name (xs.map pxOf ++ [pxOf (t, cl)]))) := by
 have HST := Lib.hid (PutXL.start w A ts.length c ia xs.length ic t)
 have HTI := Lib.hid (show ∀ W, Below w.heap.size w W → Calls Tryz.prog 14 #[.agg #[.slice A ts.length c, .slice ia xs.length ic], .string t.name] W (RetV (.int .i64 (placeI (findN PX.name (xs.map pxOf) t.name))) W) from fun W hB => index_at ia ic xs A ts.length c t.name W (DeepIx.keep hB hX))
 have HTT := Lib.hid (show ∀ W, Below w.heap.size w W → Calls Tryz.prog 12 #[.agg #[.slice A ts.length c, .slice ia xs.length ic], .string t.table] W (RetV (.int .i64 (placeI (findN PT.name (ts.map ptOf) t.table))) W) from fun W hB => table_at A c ts ia xs.length ic t.table W (DeepAt.keep hB hD))
 obtain ⟨hname, r1, r2, r3, r4, r5⟩ := idxBad_no hbad
 have HNA := Lib.hid (show ∀ W, Below w.heap.size w W → Calls Tryz.prog 28 #[.string t.name] W (RetV (.bool true) W) from fun W hB => by have h := name_any m gt ht t.name W (hG.keep hB); rwa [hname] at h)
 rw [hof] at HTT
 simp only [placeI] at HTT
 have r6 : ((kt : Int) < 0) = False := eq_false (by omega)
 rw [hat] at HTI
 simp only [placeI] at HTI
 have r7 : ((12 : Int) ≤ (xs.length : Int)) = False := eq_false (by omega)
 have hkt : kt < ts.length := (List.getElem?_eq_some_iff.1 ht0).1
 have HKT := Lib.hid hkt
 obtain ⟨b, off, rfl, HTC⟩ : ∃ b off, A = some ⟨b, off, none⟩ ∧ Hid (∀ W, Below w.heap.size w W → ∀ (i : Nat) (u : Value), (tabL t0)[i]? = some u → W.cell? ⟨b, off + kt * 5 + i, none⟩ = some u) := by
   rcases hD.1.2 with h0 | ⟨b, off, h1, h2, h3⟩
   · exfalso
     rw [List.map_eq_nil_iff, List.map_eq_nil_iff] at h0
     subst h0
     simp at hkt
   · refine ⟨b, off, h1, fun W hB i u hi => (hB.cell (p := ⟨b, off + kt * 5 + i, none⟩) h2).trans ((h3 kt (tabL t0) ?_).2 i u hi)⟩
     rw [List.getElem?_map, List.getElem?_map, ht0]
     rfl
 have hcn0 : t0.cn = l0.length := (hD.2 (t0, l0) (List.mem_of_getElem? ht0)).2.1
 have HPL := Lib.hid (show ∀ W, Below w.heap.size w W → Calls Tryz.prog 22 #[.agg #[.string t0.name, .slice t0.ca t0.cn t0.cc, .int .i64 t0.root, .int .i64 t0.next, .int .i64 t0.rows], .slice t.pa t.pn t.pc] W (RetV (.int .i64 0) W) from fun W hB => by
   have h := places_any t0.name t0.ca t0.cn t0.cc t0.root t0.next t0.rows t.pa t.pc cl W (IntsAt.keep hB hcol) hcc
   rw [show (t0.cn : Int) = (l0.length : Int) by rw [hcn0], hcr, ← hcn] at h
   exact h)
 have r9 : ((kt : Int) < (ts.length : Int)) = True := eq_true (by omega)
 have HCL := Lib.hid (show ∀ W, Below w.heap.size w W → Calls Tryz.prog 10 #[.agg #[.slice (some ⟨b, off, none⟩) ts.length c, .slice ia xs.length ic]] W (CloneO W ts xs) from fun W hB =>
   clones_own (some ⟨b, off, none⟩) c ts ia ic xs W (DeepAt.keep hB hD) (DeepIx.keep hB hX) hn (by omega) hl hlx)
 have HCT := Lib.hid (show ∀ W, Below w.heap.size w W → Calls Tryz.prog 37 #[.agg #[.string t.name, .string t.table, .slice t.pa t.pn t.pc, .int .i64 t.state, .int .i64 t.root, .int .i64 t.cursor]] W fun e w' => ∃ (yn yt : ByteArray) (ya : Option Addr) (yl yc : Nat) (yr yx yw : Int), e = .returned (.agg #[.string yn, .string yt, .slice ya yl yc, .int .i64 yr, .int .i64 yx, .int .i64 yw]) ∧ Below W.heap.size W w' ∧ IdxCopy W t cl ⟨yn, yt, ya, yl, yc, yr, yx, yw⟩ w' from fun W hW =>
   (clone_idx t cl W (IntsAt.keep hW hcol) hcn (fun h => by have h2 := hnone h; exact ⟨List.length_eq_zero_iff.1 (by omega), h2⟩) (by omega)).mono (fun e w' ⟨⟨yn, yt, ya, yl, yc, yr, yx, yw⟩, h1, h2, h3⟩ => ⟨yn, yt, ya, yl, yc, yr, yx, yw, h1, h2, h3⟩))
 have HSO := Lib.hid (show ∀ g cap n l W, n ≤ 19 → RowX W g l → l.length = n → n ≤ cap → Calls Tryz.prog 61 #[.slice (some ⟨g, 0, none⟩) n cap, .func (.func 62) #[] #[]] W (SortedX W g n (sortX l)) from fun g cap n l W => isort_any g cap n l W)
 have HCLL := Lib.hid hcl
 obtain ⟨T, hT⟩ : ∃ T, T = ts.map ptOf := ⟨_, rfl⟩
 obtain ⟨X, hXX⟩ : ∃ X, X = xs.map pxOf := ⟨_, rfl⟩
 have HT := Lib.hid hT
 have HXX := Lib.hid hXX
 rw [← hT, ← hXX]
 obtain ⟨n, hnn⟩ : ∃ n, n = ts.length := ⟨_, rfl⟩
 obtain ⟨mx, hmm⟩ : ∃ mx, mx = xs.length := ⟨_, rfl⟩
 have HN := Lib.hid hnn
 have HM := Lib.hid hmm
 rw [← hnn] at HST HTI HTT r9 HKT HCL hn
 rw [← hmm] at HST HTI HTT r7 HCL hm
 obtain ⟨tn, tt, ta, tl, tc, tr, tx, tw⟩ := t
 dsimp only at HST HTI HTT HNA r1 r2 r3 r4 r5 HPL HCT ⊢
 rw [← hnn, ← hmm]
 clear hG hD hX ht hnn hmm hbad hname hof hat hcr hcol hcn hcc ht0 hcn0 hkt hnone hcl hl hlx hT hXX
 obtain ⟨t0n, t0a, t0l, t0c, t0r, t0x, t0w⟩ := t0
 dsimp only at HPL HTC
 go_enter Tryz.func30, Tryz.ntmps30
 go_wp2_with fail
 obtain ⟨w0, hw0⟩ : ∃ w0, w0 = (((w.alloc (.cells #[.slice (some ⟨b, off, none⟩) n c, .slice ia mx ic] 36)).alloc (.cells #[.string tn, .string tt, .slice ta tl tc, .int .i64 tr, .int .i64 tx, .int .i64 tw] 28)).alloc (.cells #[.slice none 0 0, .slice none 0 0] 36)) := ⟨_, rfl⟩
 rw [← hw0] at HST ⊢
 have HKS := Lib.hid (show PutXL w (some ⟨b, off, none⟩) n c ia mx ic ⟨tn, tt, ta, tl, tc, tr, tx, tw⟩ w0.drew from HST.out.keep ((Below.refl _ _).drew))
 have k0 := cell_of_row w0.drew _ 0 _ _ _ HKS.out.tab
 have k1 := cell_of_row w0.drew _ 1 _ _ _ HKS.out.tab
 have k2 := cell_of_row w0.drew _ 2 _ _ _ HKS.out.tab
 have k3 := cell_of_row w0.drew _ 3 _ _ _ HKS.out.tab
 have k4 := cell_of_row w0.drew _ 4 _ _ _ HKS.out.tab
 have k5 := cell_of_row w0.drew _ 5 _ _ _ HKS.out.tab
 have s0 := cell_of_row w0.drew _ 0 _ _ _ HKS.out.sch
 have s1 := cell_of_row w0.drew _ 1 _ _ _ HKS.out.sch
 have a0 := cell_of_row w0.drew _ 0 _ _ _ HKS.out.ans
 have a1 := cell_of_row w0.drew _ 1 _ _ _ HKS.out.ans
 have f0 := frozen_of_row w0.drew _ 0 _ _ HKS.out.ans
 have f1 := frozen_of_row w0.drew _ 1 _ _ HKS.out.ans
 clear hw0
 have HSX := Lib.hid (show ∀ wx, PutXL w (some ⟨b, off, none⟩) n c ia mx ic ⟨tn, tt, ta, tl, tc, tr, tx, tw⟩ wx → PutXL w (some ⟨b, off, none⟩) n c ia mx ic ⟨tn, tt, ta, tl, tc, tr, tx, tw⟩ wx ∧ wx.cell? ⟨w.heap.size, 0, none⟩ = some (.slice (some ⟨b, off, none⟩) n c) ∧ wx.cell? ⟨w.heap.size, 1, none⟩ = some (.slice ia mx ic) ∧ wx.cell? ⟨w.heap.size + 1, 0, none⟩ = some (.string tn) ∧ wx.cell? ⟨w.heap.size + 1, 1, none⟩ = some (.string tt) from fun wx h => ⟨h, cell_of_row _ _ 0 _ _ _ h.sch, cell_of_row _ _ 1 _ _ _ h.sch, cell_of_row _ _ 0 _ _ _ h.tab, cell_of_row _ _ 1 _ _ _ h.tab⟩)
 refine wp_region_held_drew (S := (fun wx => PutXL w (some ⟨b, off, none⟩) n c ia mx ic ⟨tn, tt, ta, tl, tc, tr, tx, tw⟩ wx ∧ wx.cell? ⟨w.heap.size, 0, none⟩ = some (.slice (some ⟨b, off, none⟩) n c) ∧ wx.cell? ⟨w.heap.size, 1, none⟩ = some (.slice ia mx ic) ∧ wx.cell? ⟨w.heap.size + 1, 0, none⟩ = some (.string tn) ∧ wx.cell? ⟨w.heap.size + 1, 1, none⟩ = some (.string tt))) (by kernel_rfl) (HSX.out _ HKS.out) (fun hHeld => ?_)
 (try dsimp only at hHeld)
 refine wpAnyH_take (i := 0) (v := ?_) (List.getElem?_toArray.trans rfl) (by kernel_rfl) (by kernel_rfl) (by kernel_rfl) (fun _ _ _ h => h) (Or.inl ⟨by rfl, ?_⟩) hHeld ?_
 rotate_left
 · intro wx hSw
   (try dsimp only at hSw)
   obtain ⟨_, e0, e1, e2, e3⟩ := hSw
   go_simp
   (try with_reducible rfl)
 (try simp only [Act.put, List.setIfInBounds_toArray, List.set_cons_zero, List.set_cons_succ])
 refine wpAnyH_take (i := 1) (v := ?_) (List.getElem?_toArray.trans rfl) (by kernel_rfl) (by kernel_rfl) (by kernel_rfl) (fun _ _ _ h => h) (Or.inl ⟨by rfl, ?_⟩) hHeld ?_
 rotate_left
 · intro wx hSw
   (try dsimp only at hSw)
   obtain ⟨_, e0, e1, e2, e3⟩ := hSw
   go_simp
   (try with_reducible rfl)
 (try simp only [Act.put, List.setIfInBounds_toArray, List.set_cons_zero, List.set_cons_succ])
 refine wpAnyH_take (i := 2) (v := ?_) (List.getElem?_toArray.trans rfl) (by kernel_rfl) (by kernel_rfl) (by kernel_rfl) (fun _ _ _ h => h) (Or.inl ⟨by rfl, ?_⟩) hHeld ?_
 rotate_left
 · intro wx hSw
   (try dsimp only at hSw)
   obtain ⟨_, e0, e1, e2, e3⟩ := hSw
   go_simp
   (try with_reducible rfl)
 (try simp only [Act.put, List.setIfInBounds_toArray, List.set_cons_zero, List.set_cons_succ])
 refine wpAnyH_take (i := 4) (v := ?_) (List.getElem?_toArray.trans rfl) (by kernel_rfl) (by kernel_rfl) (by kernel_rfl) (fun _ _ _ h => h) (Or.inl ⟨by rfl, ?_⟩) hHeld ?_
 rotate_left
 · intro wx hSw
   (try dsimp only at hSw)
   obtain ⟨_, e0, e1, e2, e3⟩ := hSw
   go_simp
   (try with_reducible rfl)
 (try simp only [Act.put, List.setIfInBounds_toArray, List.set_cons_zero, List.set_cons_succ])
 refine wpAnyH_take (i := 5) (v := ?_) (List.getElem?_toArray.trans rfl) (by kernel_rfl) (by kernel_rfl) (by kernel_rfl) (fun _ _ _ h => h) (Or.inl ⟨by rfl, ?_⟩) hHeld ?_
 rotate_left
 · intro wx hSw
   (try dsimp only at hSw)
   obtain ⟨_, e0, e1, e2, e3⟩ := hSw
   go_simp
   (try with_reducible rfl)
 (try simp only [Act.put, List.setIfInBounds_toArray, List.set_cons_zero, List.set_cons_succ])
 refine wpAnyH_take (i := 6) (v := ?_) (List.getElem?_toArray.trans rfl) (by kernel_rfl) (by kernel_rfl) (by kernel_rfl) (fun _ _ _ h => h) (Or.inl ⟨by rfl, ?_⟩) hHeld ?_
 rotate_left
 · intro wx hSw
   (try dsimp only at hSw)
   obtain ⟨_, e0, e1, e2, e3⟩ := hSw
   go_simp
   (try with_reducible rfl)
 (try simp only [Act.put, List.setIfInBounds_toArray, List.set_cons_zero, List.set_cons_succ])
 refine wpAnyH_ready (rs := [3]) (by kernel_rfl) (by simp) ?_
 refine AllReadyH.cons (List.getElem?_toArray.trans rfl) (fun K hK => ?_) AllReadyH.nil
 go_simp
 go_at_call 14
 with_reducible refine Calls.mono (HTI.out _ hHeld.1.below) ?_
 rintro e w2 ⟨rfl, hB5⟩
 have hHeld2 := HSX.out _ (hHeld.1.keep hB5)
 refine hK.out _ _ hHeld2 (fun _ => ?_)
 clear hK K hHeld hB5
 have hHeld := hHeld2
 clear hHeld2
 (try simp only [Act.put, List.setIfInBounds_toArray, List.set_cons_zero, List.set_cons_succ])
 refine wpAnyH_ready (rs := [7]) (by kernel_rfl) (by simp) ?_
 refine AllReadyH.cons (List.getElem?_toArray.trans rfl) (fun K hK => ?_) AllReadyH.nil
 go_simp
 go_at_call 12
 with_reducible refine Calls.mono (HTT.out _ hHeld.1.below) ?_
 rintro e w3 ⟨rfl, hB5⟩
 have hHeld2 := HSX.out _ (hHeld.1.keep hB5)
 refine hK.out _ _ hHeld2 (fun _ => ?_)
 clear hK K hHeld hB5
 have hHeld := hHeld2
 clear hHeld2
 (try simp only [Act.put, List.setIfInBounds_toArray, List.set_cons_zero, List.set_cons_succ])
 refine wpAnyH_take (i := 8) (v := ?_) (List.getElem?_toArray.trans rfl) (by kernel_rfl) (by kernel_rfl) (by kernel_rfl) (fun _ _ _ h => h) (Or.inl ⟨by rfl, ?_⟩) hHeld ?_
 rotate_left
 · intro wx hSw
   (try dsimp only at hSw)
   obtain ⟨_, e0, e1, e2, e3⟩ := hSw
   go_simp
   (try with_reducible rfl)
 (try simp only [Act.put, List.setIfInBounds_toArray, List.set_cons_zero, List.set_cons_succ])
 refine wpAnyH_take (i := 9) (v := ?_) (List.getElem?_toArray.trans rfl) (by kernel_rfl) (by kernel_rfl) (by kernel_rfl) (fun _ _ _ h => h) (Or.inl ⟨by rfl, ?_⟩) hHeld ?_
 rotate_left
 · intro wx hSw
   (try dsimp only at hSw)
   obtain ⟨_, e0, e1, e2, e3⟩ := hSw
   go_simp
   (try with_reducible rfl)
 (try simp only [Act.put, List.setIfInBounds_toArray, List.set_cons_zero, List.set_cons_succ])
 refine wpAnyH_done (by kernel_rfl) ?_ _
 have HK3 := Lib.hid hHeld.1
 clear hHeld HSX
 all_goals
   clear k0 k1 k2 k3 k4 k5 s0 s1 a0 a1 f0 f1
   have k0 := cell_of_row _ _ 0 _ _ _ HK3.out.tab
   have k1 := cell_of_row _ _ 1 _ _ _ HK3.out.tab
   have k2 := cell_of_row _ _ 2 _ _ _ HK3.out.tab
   have k3 := cell_of_row _ _ 3 _ _ _ HK3.out.tab
   have k4 := cell_of_row _ _ 4 _ _ _ HK3.out.tab
   have k5 := cell_of_row _ _ 5 _ _ _ HK3.out.tab
   have s0 := cell_of_row _ _ 0 _ _ _ HK3.out.sch
   have s1 := cell_of_row _ _ 1 _ _ _ HK3.out.sch
   have a0 := cell_of_row _ _ 0 _ _ _ HK3.out.ans
   have a1 := cell_of_row _ _ 1 _ _ _ HK3.out.ans
   have f0 := frozen_of_row _ _ 0 _ _ HK3.out.ans
   have f1 := frozen_of_row _ _ 1 _ _ HK3.out.ans
   clear HKS HST
   go_wp2_with (first
     | (go_at_call 28; (with_reducible refine (HNA.out _ HK3.out.below).mono ?_); rintro e w5 ⟨rfl, hB5⟩
        have HK5 := Lib.hid (HK3.out.keep hB5)
        clear k0 k1 k2 k3 k4 k5 s0 s1 a0 a1 f0 f1
        have k0 := cell_of_row _ _ 0 _ _ _ HK5.out.tab
        have k1 := cell_of_row _ _ 1 _ _ _ HK5.out.tab
        have k2 := cell_of_row _ _ 2 _ _ _ HK5.out.tab
        have k3 := cell_of_row _ _ 3 _ _ _ HK5.out.tab
        have k4 := cell_of_row _ _ 4 _ _ _ HK5.out.tab
        have k5 := cell_of_row _ _ 5 _ _ _ HK5.out.tab
        have s0 := cell_of_row _ _ 0 _ _ _ HK5.out.sch
        have s1 := cell_of_row _ _ 1 _ _ _ HK5.out.sch
        have a0 := cell_of_row _ _ 0 _ _ _ HK5.out.ans
        have a1 := cell_of_row _ _ 1 _ _ _ HK5.out.ans
        have f0 := frozen_of_row _ _ 0 _ _ HK5.out.ans
        have f1 := frozen_of_row _ _ 1 _ _ HK5.out.ans
        clear hB5)
     | fail)
   have HK5d := Lib.hid (show PutXL w (some ⟨b, off, none⟩) n c ia mx ic ⟨tn, tt, ta, tl, tc, tr, tx, tw⟩ w5.drew from HK5.out.keep ((Below.refl _ _).drew))
   clear k0 k1 k2 k3 k4 k5 s0 s1 a0 a1 f0 f1
   have k0 := cell_of_row w5.drew _ 0 _ _ _ HK5d.out.tab
   have k1 := cell_of_row w5.drew _ 1 _ _ _ HK5d.out.tab
   have k2 := cell_of_row w5.drew _ 2 _ _ _ HK5d.out.tab
   have k3 := cell_of_row w5.drew _ 3 _ _ _ HK5d.out.tab
   have k4 := cell_of_row w5.drew _ 4 _ _ _ HK5d.out.tab
   have k5 := cell_of_row w5.drew _ 5 _ _ _ HK5d.out.tab
   have s0 := cell_of_row w5.drew _ 0 _ _ _ HK5d.out.sch
   have s1 := cell_of_row w5.drew _ 1 _ _ _ HK5d.out.sch
   have a0 := cell_of_row w5.drew _ 0 _ _ _ HK5d.out.ans
   have a1 := cell_of_row w5.drew _ 1 _ _ _ HK5d.out.ans
   have f0 := frozen_of_row w5.drew _ 0 _ _ HK5d.out.ans
   have f1 := frozen_of_row w5.drew _ 1 _ _ HK5d.out.ans
   have j0 : w5.drew.cell? ⟨b, off + kt * 5, none⟩ = some (.string t0n) := HTC.out _ HK5d.out.below 0 _ rfl
   have j1 : w5.drew.cell? ⟨b, off + kt * 5 + 1, none⟩ = some (.slice t0a t0l t0c) := HTC.out _ HK5d.out.below 1 _ rfl
   have j2 : w5.drew.cell? ⟨b, off + kt * 5 + 2, none⟩ = some (.int .i64 t0r) := HTC.out _ HK5d.out.below 2 _ rfl
   have j3 : w5.drew.cell? ⟨b, off + kt * 5 + 3, none⟩ = some (.int .i64 t0x) := HTC.out _ HK5d.out.below 3 _ rfl
   have j4 : w5.drew.cell? ⟨b, off + kt * 5 + 4, none⟩ = some (.int .i64 t0w) := HTC.out _ HK5d.out.below 4 _ rfl
   go_region_law (first
     | (go_simp; go_at_call 22; (with_reducible refine (HPL.out _ HK5d.out.below).mono ?_); rintro e w6 ⟨rfl, hB6⟩
        have HK6 := Lib.hid (HK5d.out.keep hB6)
        clear k0 k1 k2 k3 k4 k5 s0 s1 a0 a1 f0 f1
        have k0 := cell_of_row _ _ 0 _ _ _ HK6.out.tab
        have k1 := cell_of_row _ _ 1 _ _ _ HK6.out.tab
        have k2 := cell_of_row _ _ 2 _ _ _ HK6.out.tab
        have k3 := cell_of_row _ _ 3 _ _ _ HK6.out.tab
        have k4 := cell_of_row _ _ 4 _ _ _ HK6.out.tab
        have k5 := cell_of_row _ _ 5 _ _ _ HK6.out.tab
        have s0 := cell_of_row _ _ 0 _ _ _ HK6.out.sch
        have s1 := cell_of_row _ _ 1 _ _ _ HK6.out.sch
        have a0 := cell_of_row _ _ 0 _ _ _ HK6.out.ans
        have a1 := cell_of_row _ _ 1 _ _ _ HK6.out.ans
        have f0 := frozen_of_row _ _ 0 _ _ HK6.out.ans
        have f1 := frozen_of_row _ _ 1 _ _ HK6.out.ans
        clear hB6 j0 j1 j2 j3 j4)
     | fail)
   all_goals
     go_wp2_with (first
       | (go_at_call 10; (with_reducible refine (HCL.out _ HK6.out.below).mono ?_); rintro e w7 ⟨va, ua, vc, uc, ts', xs', rfl, hB7, hO, hp1, hp2, _, hown, h63⟩
          have HK7 := Lib.hid (HK6.out.keep hB7)
          rw [← HN.out, ← HM.out] at hO
          rw [← HM.out] at hown
          have HOWN := Lib.hid hown
          have HO := Lib.hid hO
          have HS7 := Lib.hid hB7.size
          have HB3 := Lib.hid h63
          have HP1 := Lib.hid hp1
          have HP2 := Lib.hid hp2
          clear k0 k1 k2 k3 k4 k5 s0 s1 a0 a1 f0 f1
          have k0 := cell_of_row _ _ 0 _ _ _ HK7.out.tab
          have k1 := cell_of_row _ _ 1 _ _ _ HK7.out.tab
          have k2 := cell_of_row _ _ 2 _ _ _ HK7.out.tab
          have k3 := cell_of_row _ _ 3 _ _ _ HK7.out.tab
          have k4 := cell_of_row _ _ 4 _ _ _ HK7.out.tab
          have k5 := cell_of_row _ _ 5 _ _ _ HK7.out.tab
          have s0 := cell_of_row _ _ 0 _ _ _ HK7.out.sch
          have s1 := cell_of_row _ _ 1 _ _ _ HK7.out.sch
          have a0 := cell_of_row _ _ 0 _ _ _ HK7.out.ans
          have a1 := cell_of_row _ _ 1 _ _ _ HK7.out.ans
          have f0 := frozen_of_row _ _ 0 _ _ HK7.out.ans
          have f1 := frozen_of_row _ _ 1 _ _ HK7.out.ans
          rw [← HN.out, ← HM.out]
          clear hB7 hown hO hp1 hp2 h63)
       | fail)
     obtain ⟨w8, hw8⟩ : ∃ w8, w8 = w7.alloc (.cells #[.slice va n vc, .slice ua mx uc] 36) := ⟨_, rfl⟩
     have HK8 := Lib.hid (show PutXL w (some ⟨b, off, none⟩) n c ia mx ic ⟨tn, tt, ta, tl, tc, tr, tx, tw⟩ w8 by rw [hw8]; exact HK7.out.keep (below1 w7 _))
     have hW0 : Below w8.heap.size w8 w8.drew := (Below.refl _ _).drew
     have HL1 := Lib.hid (show ts'.length = n ∧ xs'.length = mx by
       have h1 := congrArg List.length HP1.out
       have h2 := congrArg List.length HP2.out
       rw [List.length_map, List.length_map] at h1 h2
       exact ⟨h1.trans HN.out.symm, h2.trans HM.out.symm⟩)
     have HMID := Lib.hid (show MidS w (w.heap.size + 1 + 1) (w6.heap.size + 3) w7.heap.size (.slice va n vc) (.slice ua mx uc) ts' xs' w8.drew from by
       rw [hw8]
       have h6 := heap_lt HK6.out.ans
       have h7 := HS7.out
       have h9 := heap_lt HK7.out.ans
       have hb0 := HO.out w7.heap.size (Nat.le_refl _)
       refine ⟨HK7.out.below.trans (((below1 w7 _).drew).mono HK7.out.below.size), ?_, ?_, hb0.keep ((below1 w7 _).drew), by omega, by omega, ?_⟩
       · exact ((below1 w7 _).block _ h9).trans HK7.out.ans
       · exact heap_alloc_new w7 _
       · exact HB3.out)
     have HY := Lib.hid (show w8.drew.heap.size = w7.heap.size + 1 by rw [hw8]; exact World.size_alloc _ _)
     have o0 : w8.drew.cell? ⟨w7.heap.size, 1, none⟩ = some (.slice ua mx uc) := by rw [hw8]; exact cell_of_row _ _ 1 _ _ _ (heap_alloc_new w7 _)
     have j0 : w8.drew.cell? ⟨w.heap.size + 1, 0, none⟩ = some (.string tn) := cell_of_row w8.drew _ 0 _ _ _ HK8.out.tab
     have j1 : w8.drew.cell? ⟨w.heap.size + 1, 1, none⟩ = some (.string tt) := cell_of_row w8.drew _ 1 _ _ _ HK8.out.tab
     have j2 : w8.drew.cell? ⟨w.heap.size + 1, 2, none⟩ = some (.slice ta tl tc) := cell_of_row w8.drew _ 2 _ _ _ HK8.out.tab
     have j3 : w8.drew.cell? ⟨w.heap.size + 1, 3, none⟩ = some (.int .i64 tr) := cell_of_row w8.drew _ 3 _ _ _ HK8.out.tab
     have j4 : w8.drew.cell? ⟨w.heap.size + 1, 4, none⟩ = some (.int .i64 tx) := cell_of_row w8.drew _ 4 _ _ _ HK8.out.tab
     have j5 : w8.drew.cell? ⟨w.heap.size + 1, 5, none⟩ = some (.int .i64 tw) := cell_of_row w8.drew _ 5 _ _ _ HK8.out.tab
     have HX := Lib.hid (show ∀ (w9 : World) (O : Obj), Below w8.drew.heap.size w8.drew w9 → (w9.alloc O).ownsRow (w6.heap.size + 3) 28 6 (.slice ua mx uc) mx ((xs'.map Prod.fst).map idxL).flatten from fun w9 O hB9 => by
       have h8 : Below w7.heap.size w7 w8.drew := by rw [hw8]; exact (below1 w7 _).drew
       have h9 := h8.trans (hB9.mono h8.size)
       exact own_kept HOWN.out (h9.trans ((below1 w9 O).mono h9.size)) (Nat.le_refl _))
     have HZ := Lib.hid (show ∀ (w9 w10 : World) (yn yt : ByteArray) (ya : Option Addr) (yl yc : Nat) (yr yx yw : Int) (g cap : Nat) (O9 : Obj), Below w8.drew.heap.size w8.drew w9 → IdxCopy w8.drew ⟨tn, tt, ta, tl, tc, tr, tx, tw⟩ cl ⟨yn, yt, ya, yl, yc, yr, yx, yw⟩ w9 → w10.ownsRow (w6.heap.size + 3) 28 6 (.slice (some ⟨g, 0, none⟩) (mx + 1) cap) (mx + 1) (((xs'.map Prod.fst).map idxL).flatten ++ idxL ⟨yn, yt, ya, yl, yc, yr, yx, yw⟩) → (w9.alloc O9).grownBy w10 (Value.slice ua mx uc).ownBlock → ((Value.slice (some ⟨g, 0, none⟩) (mx + 1) cap).ownBlock = (Value.slice ua mx uc).ownBlock ∨ (Value.slice (some ⟨g, 0, none⟩) (mx + 1) cap).ownBlock = some (w9.alloc O9).heap.size) → MidS w (w.heap.size + 1 + 1) (w6.heap.size + 3) w7.heap.size (.slice va n vc) (.slice (some ⟨g, 0, none⟩) (mx + 1) cap) ts' (xs' ++ [(⟨yn, yt, ya, yl, yc, yr, yx, yw⟩, cl)]) (w10.setCell ⟨w7.heap.size, 1, none⟩ (.slice (some ⟨g, 0, none⟩) (mx + 1) cap)) ∧ w10.heap[w7.heap.size]? = some (.cells #[.slice va n vc, .slice ua mx uc] 36) from fun w9 w10 yn yt ya yl yc yr yx yw g cap O9 h1 h2 h3 h4 h5 => by
       have hM9 := HMID.out.keep h1
       have hMA := hM9.keep (below1 w9 O9)
       have hnew := OwnIdx.of_copy (O9 := O9) h1 h2 HCLL.out HMID.out (by rw [HY.out]; exact Nat.lt_succ_self _)
       refine hMA.reidx h4 h5 ?_ (fun p hp => ?_)
       · rw [List.length_append, HL1.out.2, List.map_append, List.map_append, List.flatten_append]
         have h3' := RowsAt.of_own h3
         simpa using h3'
       · rcases List.mem_append.1 hp with hp | hp
         · exact hMA.own.places p hp
         · rw [List.mem_singleton.1 hp]; exact hnew)
     rw [← hw8]
     clear hw8 k0 k1 k2 k3 k4 k5 s0 s1 a0 a1 f0 f1
     go_region_law (first
       | (go_simp; go_at_call 37; (with_reducible refine (HCT.out _ (HK8.out.below.trans (hW0.mono HK8.out.below.size))).mono ?_); rintro e w9 ⟨yn, yt, ya, yl, yc, yr, yx, yw, rfl, hB9, hP⟩
          have HB9 := Lib.hid hB9
          have HP := Lib.hid hP
          have o9 : w9.cell? ⟨w7.heap.size, 1, none⟩ = some (.slice ua mx uc) := cell_kept o0 hB9
          have o9b : ∀ O, (w9.alloc O).cell? ⟨w7.heap.size, 1, none⟩ = some (.slice ua mx uc) := fun O => cell_kept o9 (below1 w9 O)
          clear hB9 hP)
       | (refine step_idx _ (by rfl) (.tmp 87) (.tmp 90) (by rfl) (w6.heap.size + 3) (.slice ua mx uc) mx ((xs'.map Prod.fst).map idxL).flatten (by rfl) (HX.out _ _ HB9.out) w9.heap.size 1 ⟨yn, yt, ya, yl, yc, yr, yx, yw⟩ (by rfl) (heap_alloc_new w9 _) (by omega) (by have := HB9.out.size; have := HY.out; have := HB3.out; simp at *; omega) ?_
          intro v10 w10 hown hgr hat
          obtain ⟨g, cap, rfl⟩ := own_slice hown
          have HMM := Lib.hid (HZ.out _ _ _ _ _ _ _ _ _ _ _ _ _ HB9.out HP.out hown hgr hat)
          have z6 := cell_of_row _ _ 1 _ _ _ HMM.out.2
          have g6 := frozen_of_row _ _ 1 _ _ HMM.out.2
          clear hown hgr hat)
       | fail)
     all_goals
       have HRW := Lib.hid (show RowX _ g ((xs' ++ [((⟨yn, yt, ya, yl, yc, yr, yx, yw⟩ : Idx), cl)]).map Prod.fst) ∧ ((xs' ++ [((⟨yn, yt, ya, yl, yc, yr, yx, yw⟩ : Idx), cl)]).map Prod.fst).length = mx + 1 ∧ mx + 1 ≤ cap from by
         have h0 := HMM.out.1.own.idx
         have hlen : (xs' ++ [((⟨yn, yt, ya, yl, yc, yr, yx, yw⟩ : Idx), cl)]).length = mx + 1 := by rw [List.length_append, HL1.out.2]; rfl
         rw [hlen] at h0
         exact ⟨h0.row_x.1, by rw [List.length_map]; exact hlen, h0.row_x.2.1⟩)
       go_wp2_with (first
         | (go_at_call 61; (with_reducible refine (HSO.out g cap _ _ _ (by omega) HRW.out.1 HRW.out.2.1 HRW.out.2.2).mono ?_); rintro e w11 ⟨rfl, hS⟩
            have HM2 := Lib.hid (HMM.out.1.sortX (by rw [← HRW.out.2.1, List.length_map]) hS)
            have m0 := cell_of_row _ _ 0 _ _ _ HM2.out.out
            have m1 := cell_of_row _ _ 1 _ _ _ HM2.out.out
            have q0 := cell_of_row _ _ 0 _ _ _ HM2.out.ans
            have q1 := cell_of_row _ _ 1 _ _ _ HM2.out.ans
            have f0 := frozen_of_row _ _ 0 _ _ HM2.out.ans
            have f1 := frozen_of_row _ _ 1 _ _ HM2.out.ans
            clear hS)
         | fail)
       refine bodyPost_ret (v := .tuple #[.agg #[.slice va n vc, .slice (some ⟨g, 0, none⟩) (mx + 1) cap], .int .i64 0]) (by simp [results, Tryz.results30, go_sem, q0, q1]) rfl ?_
       have hfin := HM2.out.done HL1.out.1.symm (by rw [sortG_len, ← HRW.out.2.1, List.length_map]) (.slice va n vc) (.slice (some ⟨g, 0, none⟩) (mx + 1) cap)
       rw [sortG_map (fun p : Idx × List Int => p.1.name) PX.name pxOf (fun _ => rfl), List.map_append, HP1.out, HP2.out, ← HXX.out, ← HT.out] at hfin
       have hy : pxOf ((⟨yn, yt, ya, yl, yc, yr, yx, yw⟩ : Idx), cl) = pxOf ((⟨tn, tt, ta, tl, tc, tr, tx, tw⟩ : Idx), cl) := by
         obtain ⟨e1, e2, e3, e4, e5, _⟩ := HP.out
         unfold pxOf
         dsimp only at e1 e2 e3 e4 e5 ⊢
         rw [e1, e2, e3, e4, e5]
       rw [show [((⟨yn, yt, ya, yl, yc, yr, yx, yw⟩ : Idx), cl)].map pxOf = [pxOf ((⟨tn, tt, ta, tl, tc, tr, tx, tw⟩ : Idx), cl)] by rw [← hy]; rfl] at hfin
       exact hfin
end Go.Proofs.YtcgpflkaejbkhaaGreatDoor
