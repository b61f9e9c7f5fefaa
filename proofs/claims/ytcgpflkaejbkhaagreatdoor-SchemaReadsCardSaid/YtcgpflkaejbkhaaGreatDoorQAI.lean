/- The walk of Put of a table that is not there yet, over a schema without indexes. -/
import Derived.Test.YtcgpflkaejbkhaaGreatDoorQAH
namespace Go.Proofs.YtcgpflkaejbkhaaGreatDoor
open Go.RowKit

theorem sinkT_mem : ∀ (j : Nat) (l : List Tab) (t : Tab), t ∈ sinkT j l → t ∈ l := by
 intro j
 induction j with
 | zero => exact fun l t h => h
 | succ j ih =>
   intro l t h
   unfold sinkT at h
   split at h
   · rename_i x y hx hy
     split at h
     · have h2 := ih _ _ h
       obtain ⟨e1, e2⟩ := swap_parts hx hy
       rw [e2] at h2
       rw [e1]
       simp only [List.mem_append, List.mem_cons] at h2 ⊢
       rcases h2 with h2 | h2 | h2 | h2
       · exact Or.inl h2
       · exact Or.inr (Or.inr (Or.inl h2))
       · exact Or.inr (Or.inl h2)
       · exact Or.inr (Or.inr (Or.inr h2))
     · exact h
   · exact h
theorem isortT_mem : ∀ (f i : Nat) (l : List Tab) (t : Tab), t ∈ isortT f i l → t ∈ l := by
 intro f
 induction f with
 | zero => exact fun i l t h => h
 | succ f ih => exact fun i l t h => sinkT_mem _ _ _ (ih _ _ _ h)
theorem own_row {w : World} {base n g cap : Nat} {l : List Tab} (h : w.ownsRow base 25 5 (.slice (some ⟨g, 0, none⟩) n cap) n (l.map tabL).flatten) : RowT w g l ∧ n ≤ cap := by
 rcases h.2 with ⟨h0, _⟩ | ⟨g', cap', cur, e1, _, hh, hnc, _, _, ht⟩
 · cases h0
 · cases e1
   refine ⟨⟨cur.toList.drop (n * 5), ?_⟩, hnc⟩
   rw [← ht, List.take_append_drop]
   simpa using hh
theorem RowT.tabs {w : World} {g : Nat} {l : List Tab} (h : RowT w g l) (hl : l.length ≤ 1000) : TabsAt w (some ⟨g, 0, none⟩) l := by
 refine ⟨by rw [List.length_map]; unfold maxLen; omega, Or.inr ⟨g, 0, rfl, h.lt, fun j x hx => ?_⟩⟩
 rw [List.getElem?_map, Option.map_eq_some_iff] at hx
 obtain ⟨t, ht, rfl⟩ := hx
 refine ⟨rfl, fun i v hv => ?_⟩
 rw [Nat.zero_add]
 exact h.cell ht hv
theorem own_val {w : World} {base e size n : Nat} {v : Value} {xs : List Value} (h : w.ownsRow base e size v n xs) : ∃ va vc, v = .slice va n vc := by
 rcases h.2 with ⟨rfl, rfl⟩ | ⟨g, cap, cur, rfl, _⟩
 · exact ⟨none, 0, rfl⟩
 · exact ⟨_, cap, rfl⟩
structure PutK (w : World) (A : Option Addr) (n c : Nat) (ia : Option Addr) (ic : Nat) (t : Tab) (W : World) : Prop where
 below : Below w.heap.size w W
 sch : W.heap[w.heap.size]? = some (.cells #[.slice A n c, .slice ia 0 ic] 36)
 tab : W.heap[w.heap.size + 1]? = some (.cells #[.string t.name, .slice t.ca t.cn t.cc, .int .i64 t.root, .int .i64 t.next, .int .i64 t.rows] 25)
 ans : W.heap[w.heap.size + 1 + 1]? = some (.cells #[.slice none 0 0, .slice none 0 0] 36)
theorem PutK.keep {w : World} {A : Option Addr} {n c : Nat} {ia : Option Addr} {ic : Nat} {t : Tab} {W W' : World} (h : PutK w A n c ia ic t W) (hB : Below W.heap.size W W') : PutK w A n c ia ic t W' :=
 ⟨h.below.trans (hB.mono h.below.size), (hB.block _ (heap_lt h.sch)).trans h.sch, (hB.block _ (heap_lt h.tab)).trans h.tab, (hB.block _ (heap_lt h.ans)).trans h.ans⟩
theorem PutK.start (w : World) (A : Option Addr) (n c : Nat) (ia : Option Addr) (ic : Nat) (t : Tab) : PutK w A n c ia ic t (((w.alloc (.cells #[.slice A n c, .slice ia 0 ic] 36)).alloc (.cells #[.string t.name, .slice t.ca t.cn t.cc, .int .i64 t.root, .int .i64 t.next, .int .i64 t.rows] 25)).alloc (.cells #[.slice none 0 0, .slice none 0 0] 36)) := by
 refine ⟨((below1 w _).alloc (by simp) _).alloc (by simp; omega) _, ?_, ?_, ?_⟩
 · rw [heap_alloc_old _ _ (by simp; omega), heap_alloc_old _ _ (by simp)]; exact heap_alloc_new w _
 · rw [heap_alloc_old _ _ (by simp)]
   have := heap_alloc_new (w.alloc (.cells #[.slice A n c, .slice ia 0 ic] 36)) (.cells #[.string t.name, .slice t.ca t.cn t.cc, .int .i64 t.root, .int .i64 t.next, .int .i64 t.rows] 25)
   rwa [World.size_alloc] at this
 · have := heap_alloc_new ((w.alloc (.cells #[.slice A n c, .slice ia 0 ic] 36)).alloc (.cells #[.string t.name, .slice t.ca t.cn t.cc, .int .i64 t.root, .int .i64 t.next, .int .i64 t.rows] 25)) (.cells #[.slice none 0 0, .slice none 0 0] 36)
   rwa [World.size_alloc, World.size_alloc] at this
theorem DeepAt.keep {w w' : World} {A : Option Addr} {ts : List (Tab × List Col)} (hB : Below w.heap.size w w') (h : DeepAt w A ts) : DeepAt w' A ts :=
 ⟨CellsAt.keep hB h.1, fun p hp => ⟨CellsAt.keep hB (h.2 p hp).1, (h.2 p hp).2⟩⟩
theorem names_eq {base : Nat} {v : Value} {ts : List (Tab × List Col)} {outs : List Tab} {W : World} (hlen : outs.length = ts.length) (h : ∀ (j : Nat) (t : Tab) (l : List Col), ts[j]? = some (t, l) → ∀ t', outs[j]? = some t' → CopyAt base v t l t' W) : outs.map Tab.name = ts.map (fun p => p.1.name) := by
 apply List.ext_getElem?
 intro j
 rw [List.getElem?_map, List.getElem?_map]
 by_cases hj : j < ts.length
 · rw [List.getElem?_eq_getElem hj, List.getElem?_eq_getElem (by omega)]
   have := (h j ts[j].1 ts[j].2 (List.getElem?_eq_getElem hj) _ (List.getElem?_eq_getElem (by omega))).1
   simp only [Option.map_some]
   rw [this]
 · rw [List.getElem?_eq_none (by omega), List.getElem?_eq_none (by omega)]; rfl
def PutP (w : World) (ts : List (Tab × List Col)) (nm : ByteArray) (e : Ending) (w' : World) : Prop := ∃ (g cap : Nat) (ts' : List (Tab × List Col)) (L : List Tab), e = .returned (.tuple #[.agg #[.slice (some ⟨g, 0, none⟩) (ts.length + 1) cap, .slice none 0 0], .int .i64 0]) ∧ Below w.heap.size w w' ∧ DeepAt w' (some ⟨g, 0, none⟩) ts' ∧ ts'.length = ts.length + 1 ∧ ts.length + 1 ≤ cap ∧ (∀ p ∈ ts', p.2.length ≤ 1000) ∧ L.map Tab.name = ts.map (fun p => p.1.name) ++ [nm] ∧ ts'.map Prod.fst = sortT L
structure MidP (w : World) (b8 g cap n : Nat) (L : List Tab) (W : World) : Prop where
 below : Below w.heap.size w W
 ans : W.heap[w.heap.size + 1 + 1]? = some (.cells #[.slice none 0 0, .slice none 0 0] 36)
 out : W.heap[b8]? = some (.cells #[.slice (some ⟨g, 0, none⟩) (n + 1) cap, .slice none 0 0] 36)
 row : RowT W g L
 len : L.length = n + 1
 room : n + 1 ≤ cap
 far : w.heap.size + 1 + 1 < b8 ∧ b8 ≠ g ∧ w.heap.size + 1 + 1 < g
 cols : ∀ t' ∈ L, ∃ cl : List Col, ColsAt W t'.ca cl ∧ t'.cn = cl.length ∧ cl.length ≤ t'.cc ∧ (t'.ca = none → t'.cc = 0) ∧ cl.length ≤ 1000 ∧ (∀ a, t'.ca = some a → a.block ≠ g ∧ w.heap.size + 1 + 1 < a.block)
theorem MidP.sorted {w : World} {b8 g cap n : Nat} {L : List Tab} {W W' : World} (h : MidP w b8 g cap n L W) (hs : SortW W g (n + 1) (sortT L) W') : MidP w b8 g cap n (sortT L) W' := by
 obtain ⟨h1, h2, h3⟩ := hs
 have hg := h.row.lt
 refine ⟨h.below.grown h2 h.below.size (fun k hk => by cases hk; have := h.far; omega), (h2.block _ (heap_lt h.ans) (fun e => by cases e; have := h.far; omega)).trans h.ans, (h2.block _ (heap_lt h.out) (fun e => h.far.2.1 (Option.some.inj e))).trans h.out, h1, h3, h.room, h.far, fun t' ht => ?_⟩
 obtain ⟨cl, c1, c2, c3, c4, c5, c6⟩ := h.cols t' (isortT_mem _ _ _ _ ht)
 exact ⟨cl, c1.grown h2 (fun a ha e => (c6 a ha).1 (Option.some.inj e).symm), c2, c3, c4, c5, c6⟩
theorem MidP.done {w : World} {b8 g cap n : Nat} {L : List Tab} {W : World} (h : MidP w b8 g cap n L W) (hn : n ≤ 900) (x y : Value) : ∃ ts' : List (Tab × List Col), Below w.heap.size w ((W.setCell ⟨w.heap.size + 1 + 1, 0, none⟩ x).setCell ⟨w.heap.size + 1 + 1, 1, none⟩ y) ∧ DeepAt ((W.setCell ⟨w.heap.size + 1 + 1, 0, none⟩ x).setCell ⟨w.heap.size + 1 + 1, 1, none⟩ y) (some ⟨g, 0, none⟩) ts' ∧ ts'.map Prod.fst = L ∧ (∀ p ∈ ts', p.2.length ≤ 1000) := by
 have hpick : ∀ t' : Tab, ∃ cl : List Col, t' ∈ L → ColsAt W t'.ca cl ∧ t'.cn = cl.length ∧ cl.length ≤ t'.cc ∧ (t'.ca = none → t'.cc = 0) ∧ cl.length ≤ 1000 ∧ (∀ a, t'.ca = some a → a.block ≠ g ∧ w.heap.size + 1 + 1 < a.block) := fun t' => by
   by_cases ht : t' ∈ L
   · obtain ⟨cl, hc⟩ := h.cols t' ht
     exact ⟨cl, fun _ => hc⟩
   · exact ⟨[], fun h => absurd h ht⟩
 obtain ⟨f, hf⟩ := Classical.axiomOfChoice hpick
 have hfst : (L.map fun t' => (t', f t')).map Prod.fst = L := by rw [List.map_map]; exact List.map_id' L
 refine ⟨L.map fun t' => (t', f t'), (h.below.setCell (p := ⟨w.heap.size + 1 + 1, 0, none⟩) (by show w.heap.size ≤ w.heap.size + 1 + 1; omega) _).setCell (p := ⟨w.heap.size + 1 + 1, 1, none⟩) (by show w.heap.size ≤ w.heap.size + 1 + 1; omega) _, ⟨?_, fun p hp => ?_⟩, hfst, fun p hp => ?_⟩
 · rw [hfst]
   have ht := h.row.tabs (by have := h.len; omega)
   have hne : ∀ a, some (⟨g, 0, none⟩ : Addr) = some a → a.block ≠ w.heap.size + 1 + 1 := fun a ha => by cases ha; have := h.far; show g ≠ _; omega
   exact CellsAt.setFar (CellsAt.setFar ht _ _ _ hne) _ _ _ hne
 · obtain ⟨t', ht, rfl⟩ := List.mem_map.1 hp
   obtain ⟨c1, c2, c3, c4, c5, c6⟩ := hf t' ht
   have hne : ∀ a, t'.ca = some a → a.block ≠ w.heap.size + 1 + 1 := fun a ha => by have := (c6 a ha).2; omega
   exact ⟨CellsAt.setFar (CellsAt.setFar c1 _ _ _ hne) _ _ _ hne, c2, c3, c4⟩
 · obtain ⟨t', ht, rfl⟩ := List.mem_map.1 hp
   exact (hf t' ht).2.2.2.2.1
theorem PutK.mid {w : World} {A : Option Addr} {n c : Nat} {ia : Option Addr} {ic : Nat} {t : Tab} {w6 w7 w9 w10 : World} {ts : List (Tab × List Col)} {outs : List Tab} {va : Option Addr} {vc : Nat} {y : Tab} {cl : List Col} {g cap : Nat} {O9 : Obj}
   (hK : PutK w A n c ia ic t w7) (h6 : w.heap.size + 3 ≤ w6.heap.size) (hl : ∀ p ∈ ts, p.2.length ≤ 1000) (hcl : cl.length ≤ 1000) (hn : n = ts.length) (hlen : outs.length = n)
   (hown7 : w7.ownsRow (w6.heap.size + 3) 25 5 (.slice va n vc) n (outs.map tabL).flatten)
   (hcopy : ∀ (j : Nat) (t : Tab) (l : List Col), ts[j]? = some (t, l) → ∀ t', outs[j]? = some t' → CopyAt (w6.heap.size + 3) (.slice va n vc) t l t' w7)
   (hB9 : Below (w7.alloc (.cells #[.slice va n vc, .slice none 0 0] 36)).heap.size (w7.alloc (.cells #[.slice va n vc, .slice none 0 0] 36)).drew w9)
   (hP : TabCopy (w7.alloc (.cells #[.slice va n vc, .slice none 0 0] 36)).drew t cl y w9)
   (hown : w10.ownsRow (w6.heap.size + 3) 25 5 (.slice (some ⟨g, 0, none⟩) (n + 1) cap) (n + 1) ((outs.map tabL).flatten ++ tabL y)) (hg : (w9.alloc O9).grownBy w10 (Value.slice va n vc).ownBlock)
   (hat : (Value.slice (some ⟨g, 0, none⟩) (n + 1) cap).ownBlock = (Value.slice va n vc).ownBlock ∨ (Value.slice (some ⟨g, 0, none⟩) (n + 1) cap).ownBlock = some (w9.alloc O9).heap.size) (h67 : w6.heap.size + 3 ≤ w7.heap.size) :
   MidP w w7.heap.size g cap n (outs ++ [y]) (w10.setCell ⟨w7.heap.size, 0, none⟩ (.slice (some ⟨g, 0, none⟩) (n + 1) cap)) ∧ w10.heap[w7.heap.size]? = some (.cells #[.slice va n vc, .slice none 0 0] 36) := by
 have hB8 : Below w7.heap.size w7 (w7.alloc (.cells #[.slice va n vc, .slice none 0 0] 36)).drew := (below1 w7 _).drew
 have hs8 : (w7.alloc (.cells #[.slice va n vc, .slice none 0 0] 36)).drew.heap.size = w7.heap.size + 1 := World.size_alloc _ _
 have hs8' : (w7.alloc (.cells #[.slice va n vc, .slice none 0 0] 36)).heap.size = w7.heap.size + 1 := World.size_alloc _ _
 have hB79 : Below w7.heap.size w7 w9 := hB8.trans (hB9.mono (by omega))
 have h9 : w7.heap.size + 1 ≤ w9.heap.size := by have := hB9.size; omega
 have hBA : Below w7.heap.size w7 (w9.alloc O9) := hB79.trans ((below1 w9 O9).mono (by omega))
 have hKA := hK.keep hBA
 have hsA : (w9.alloc O9).heap.size = w9.heap.size + 1 := World.size_alloc _ _
 have hlt7 : ∀ k, (Value.slice va n vc).ownBlock = some k → w6.heap.size + 3 ≤ k ∧ k < w7.heap.size := fun k hk => hown7.lt k hk
 have hold : ∀ b, b < w9.heap.size → some b ≠ (Value.slice va n vc).ownBlock → w10.heap[b]? = w9.heap[b]? := fun b hb hne => (hg.block b (by omega) hne).trans ((below1 w9 O9).block b hb)
 have hout9 : w9.heap[w7.heap.size]? = some (.cells #[.slice va n vc, .slice none 0 0] 36) := (hB9.block _ (by omega)).trans (heap_alloc_new w7 _)
 have hne7 : some w7.heap.size ≠ (Value.slice va n vc).ownBlock := fun e => by have := hlt7 _ e.symm; omega
 have hout10 := (hold w7.heap.size (by omega) hne7).trans hout9
 obtain ⟨hrow, hroom⟩ := own_row (l := outs ++ [y]) (by rw [List.map_append, List.flatten_append]; simpa using hown)
 have hg3 : w6.heap.size + 3 ≤ g := (hown.lt g rfl).1
 have hgne : g ≠ w7.heap.size := by
   rcases hat with e | e
   · have := hlt7 g e.symm; omega
   · have e3 : g = (w9.alloc O9).heap.size := Option.some.inj e
     omega
 have hb10 : Below w.heap.size w w10 := hKA.below.grown hg (by have := hKA.below.size; omega) (fun k hk => by have := hlt7 k hk; omega)
 refine ⟨⟨hb10.setCell (p := ⟨w7.heap.size, 0, none⟩) (by show w.heap.size ≤ w7.heap.size; omega) _, ?_, ?_, ?_, by rw [List.length_append, hlen]; rfl, hroom, ⟨by omega, fun e => hgne e.symm, by omega⟩, fun t' ht => ?_⟩, hout10⟩
 · rw [heap_setFar _ (by have := heap_lt hK.ans; omega)]
   exact (hold _ (by omega) (fun e => by have := hlt7 _ e.symm; omega)).trans ((hB79.block _ (by omega)).trans hK.ans)
 · rw [setCell_eq_setRow w10 _ 0 _ 36 _ _ hout10]
   exact setRow_heap w10 _ _ _ 36 _ hout10
 · obtain ⟨rest, hr⟩ := hrow
   exact ⟨rest, by rw [heap_setFar _ hgne]; exact hr⟩
 · have hcol : ∃ cl' : List Col, ColsAt w9 t'.ca cl' ∧ t'.cn = cl'.length ∧ cl'.length ≤ t'.cc ∧ (t'.ca = none → t'.cc = 0) ∧ cl'.length ≤ 1000 ∧ (∀ a, t'.ca = some a → w6.heap.size + 3 ≤ a.block ∧ a.block < w9.heap.size ∧ some a.block ≠ (Value.slice va n vc).ownBlock ∧ a.block ≠ w7.heap.size) := by
     rcases List.mem_append.1 ht with ht | ht
     · obtain ⟨j, hj, rfl⟩ := List.mem_iff_getElem.1 ht
       have hj2 : j < ts.length := by omega
       obtain ⟨q1, q2, q3, q4, q5, q6, q7, q8, q9, q10⟩ := hcopy j ts[j].1 ts[j].2 (List.getElem?_eq_getElem hj2) outs[j] (List.getElem?_eq_getElem hj)
       refine ⟨ts[j].2, CellsAt.keep hB79 q7.1, q5, q6, q9, hl _ (List.getElem_mem hj2), fun a ha => ?_⟩
       obtain ⟨z1, z2, z3⟩ := q8 a ha
       exact ⟨z1, by omega, fun e => z3 e.symm, by omega⟩
     · obtain rfl := List.mem_singleton.1 ht
       obtain ⟨q1, q2, q3, q4, q5, q6, q7, q8, q9, q10⟩ := hP
       refine ⟨cl, q7.1, q5, q6, q9, hcl, fun a ha => ?_⟩
       obtain ⟨z1, z2⟩ := q8 a ha
       exact ⟨by omega, z2, fun e => by have := hlt7 _ e.symm; omega, by omega⟩
   obtain ⟨cl', c1, c2, c3, c4, c5, c6⟩ := hcol
   refine ⟨cl', ?_, c2, c3, c4, c5, fun a ha => ?_⟩
   · refine CellsAt.setFar (CellsAt.grown (CellsAt.keep (below1 w9 O9) c1) hg (fun a ha e => (c6 a ha).2.2.1 e.symm)) _ _ _ (fun a ha => (c6 a ha).2.2.2)
   · obtain ⟨z1, z2, z3, z4⟩ := c6 a ha
     refine ⟨fun e => ?_, by omega⟩
     rcases hat with e2 | e2
     · exact z3 (by rw [e]; exact e2)
     · have e3 : g = (w9.alloc O9).heap.size := Option.some.inj e2
       omega
set_option maxRecDepth 100000 in
set_option maxHeartbeats 16000000 in
theorem put_new (m : Int) (gt : Nat → Nat) (ht : ∀ j, j < 23 → finD (Ieee.double.read (gt j)) = true) (A : Option Addr) (c : Nat) (ts : List (Tab × List Col)) (ia : Option Addr) (ic : Nat) (t : Tab) (cl : List Col) (w : World) (hG : Glob m gt w)
   (hD : DeepAt w A ts) (hn : ts.length ≤ 7) (hl : ∀ p ∈ ts, p.2.length ≤ 1000) (hcol : ColsAt w t.ca cl) (hcn : t.cn = cl.length) (hcc : cl.length ≤ t.cc) (hnone : t.ca = none → t.cc = 0)
   (hname : nameB t.name.data.toList = true) (hroot : 1 ≤ t.root ∧ t.root ≤ 1600) (hnext : 1 ≤ t.next) (hrows : 0 ≤ t.rows) (hcr : colsR cl = 0) (hcl : cl.length ≤ 1000) (hnew : ∀ p ∈ ts, sameN p.1.name t.name = false) :
   Calls Tryz.prog 27 #[.agg #[.slice A ts.length c, .slice ia 0 ic], .agg #[.string t.name, .slice t.ca t.cn t.cc, .int .i64 t.root, .int .i64 t.next, .int .i64 t.rows]] w (PutP w ts t.name) := by
 have HST := Lib.hid (PutK.start w A ts.length c ia ic t)
 have HG := Lib.hid hG
 have HTA := Lib.hid (show ∀ W, Below w.heap.size w W → Calls Tryz.prog 12 #[.agg #[.slice A ts.length c, .slice ia 0 ic], .string t.name] W (RetV (.int .i64 (-1)) W) from fun W hB => by
   have h := table_any A c (ts.map Prod.fst) ia 0 ic t.name W (CellsAt.keep hB hD.1)
   rw [List.length_map] at h
   refine h.mono fun e w' ⟨r, h1, h2, h3⟩ => ?_
   rcases h2 with ⟨k, hk, _, hp, _⟩ | ⟨rfl, _⟩
   · exfalso
     unfold nameAt at hp
     rw [List.getElem?_map, List.getElem?_eq_getElem hk] at hp
     have := hnew _ (List.getElem_mem hk)
     rw [show sameN ts[k].1.name t.name = true from hp] at this
     cases this
   · exact ⟨h1, h3⟩)
 have HNA := Lib.hid (show ∀ W, Below w.heap.size w W → Calls Tryz.prog 28 #[.string t.name] W (RetV (.bool true) W) from fun W hB => by
   have h := name_any m gt ht t.name W (hG.keep hB)
   rwa [hname] at h)
 have HCO := Lib.hid (show ∀ W, Below w.heap.size w W → Calls Tryz.prog 20 #[.slice t.ca t.cn t.cc] W (RetV (.int .i64 0) W) from fun W hB => by
   have h := columns_any m gt ht t.ca t.cc cl W (hG.keep hB) (CellsAt.keep hB hcol) hcc
   rw [hcr, ← hcn] at h
   exact h)
 have HCL := Lib.hid (show ∀ W, Below w.heap.size w W → Calls Tryz.prog 10 #[.agg #[.slice A ts.length c, .slice ia 0 ic]] W (CloneP W ts) from fun W hB =>
   clone_any A c ts ia ic W (DeepAt.keep hB hD) (by omega) hl)
 have HCT := Lib.hid (show ∀ W, Below w.heap.size w W → Calls Tryz.prog 36 #[.agg #[.string t.name, .slice t.ca t.cn t.cc, .int .i64 t.root, .int .i64 t.next, .int .i64 t.rows]] W fun e w' => ∃ (yn : ByteArray) (ya : Option Addr) (yl yc : Nat) (yr yx yw : Int), e = .returned (.agg #[.string yn, .slice ya yl yc, .int .i64 yr, .int .i64 yx, .int .i64 yw]) ∧ Below W.heap.size W w' ∧ TabCopy W t cl ⟨yn, ya, yl, yc, yr, yx, yw⟩ w' from fun W hW =>
   (clone_tab t cl W (CellsAt.keep hW hcol) hcn (fun h => by have h2 := hnone h; exact ⟨List.length_eq_zero_iff.1 (by omega), h2⟩) (by omega)).mono (fun e w' ⟨⟨yn, ya, yl, yc, yr, yx, yw⟩, h1, h2, h3⟩ => ⟨yn, ya, yl, yc, yr, yx, yw, h1, h2, h3⟩))
 have HSO := Lib.hid (show ∀ g cap n l W, n ≤ 19 → RowT W g l → l.length = n → n ≤ cap → Calls Tryz.prog 56 #[.slice (some ⟨g, 0, none⟩) n cap, .func (.func 57) #[] #[]] W (SortedP W g n (sortT l)) from fun g cap n l W => sort_any g cap n l W)
 have r1 : (t.root < 1) = False := eq_false (by omega)
 have r2 : (1600 < t.root) = False := eq_false (by omega)
 have r3 : (t.next < 1) = False := eq_false (by omega)
 have r4 : (t.rows < 0) = False := eq_false (by omega)
 have r5 : ((8 : Int) ≤ (ts.length : Int)) = False := eq_false (by omega)
 have HL := Lib.hid hl
 have HCLL := Lib.hid hcl
 obtain ⟨n, hnn⟩ : ∃ n, n = ts.length := ⟨_, rfl⟩
 have HN := Lib.hid hnn
 rw [← hnn] at HST HTA HCL r5 hn
 obtain ⟨tn, ta, tl, tc, tr, tx, tw⟩ := t
 dsimp only at HST HTA HNA HCO HCL HCT r1 r2 r3 r4 ⊢
 rw [← hnn]
 clear hG hD hl hcol hcn hcc hnone hname hroot hnext hrows hcr hcl hnew ht hnn
 go_enter Tryz.func27, Tryz.ntmps27
 go_wp2_with (first
   | (go_at_call 12; (with_reducible refine (HTA.out _ HST.out.below).mono ?_); rintro e w3 ⟨rfl, hB3⟩
      have HK3 := Lib.hid (HST.out.keep hB3)
      have k0 := cell_of_row _ _ 0 _ _ _ HK3.out.tab
      have k1 := cell_of_row _ _ 1 _ _ _ HK3.out.tab
      have k2 := cell_of_row _ _ 2 _ _ _ HK3.out.tab
      have k3 := cell_of_row _ _ 3 _ _ _ HK3.out.tab
      have k4 := cell_of_row _ _ 4 _ _ _ HK3.out.tab
      have s0 := cell_of_row _ _ 0 _ _ _ HK3.out.sch
      have s1 := cell_of_row _ _ 1 _ _ _ HK3.out.sch
      have a0 := cell_of_row _ _ 0 _ _ _ HK3.out.ans
      have a1 := cell_of_row _ _ 1 _ _ _ HK3.out.ans
      clear hB3)
   | (go_at_call 28; (with_reducible refine (HNA.out _ HK3.out.below).mono ?_); rintro e w5 ⟨rfl, hB5⟩
      have HK5 := Lib.hid (HK3.out.keep hB5)
      clear k0 k1 k2 k3 k4 s0 s1 a0 a1
      have k0 := cell_of_row _ _ 0 _ _ _ HK5.out.tab
      have k1 := cell_of_row _ _ 1 _ _ _ HK5.out.tab
      have k2 := cell_of_row _ _ 2 _ _ _ HK5.out.tab
      have k3 := cell_of_row _ _ 3 _ _ _ HK5.out.tab
      have k4 := cell_of_row _ _ 4 _ _ _ HK5.out.tab
      have s0 := cell_of_row _ _ 0 _ _ _ HK5.out.sch
      have s1 := cell_of_row _ _ 1 _ _ _ HK5.out.sch
      have a0 := cell_of_row _ _ 0 _ _ _ HK5.out.ans
      have a1 := cell_of_row _ _ 1 _ _ _ HK5.out.ans
      clear hB5)
   | (go_at_call 20; (with_reducible refine (HCO.out _ HK5.out.below).mono ?_); rintro e w6 ⟨rfl, hB6⟩
      have HK6 := Lib.hid (HK5.out.keep hB6)
      clear k0 k1 k2 k3 k4 s0 s1 a0 a1
      have k0 := cell_of_row _ _ 0 _ _ _ HK6.out.tab
      have k1 := cell_of_row _ _ 1 _ _ _ HK6.out.tab
      have k2 := cell_of_row _ _ 2 _ _ _ HK6.out.tab
      have k3 := cell_of_row _ _ 3 _ _ _ HK6.out.tab
      have k4 := cell_of_row _ _ 4 _ _ _ HK6.out.tab
      have s0 := cell_of_row _ _ 0 _ _ _ HK6.out.sch
      have s1 := cell_of_row _ _ 1 _ _ _ HK6.out.sch
      have a0 := cell_of_row _ _ 0 _ _ _ HK6.out.ans
      have a1 := cell_of_row _ _ 1 _ _ _ HK6.out.ans
      clear hB6)
   | (go_at_call 10; (with_reducible refine (HCL.out _ HK6.out.below).mono ?_); rintro e w7 ⟨v, outs, rfl, hB7, hown, hlen, h67, hcopy⟩
      have HK7 := Lib.hid (HK6.out.keep hB7)
      have HB7 := Lib.hid hB7
      rw [← HN.out] at hown hlen
      obtain ⟨va, vc, rfl⟩ := own_val hown
      have HOWN := Lib.hid hown
      have HLEN := Lib.hid hlen
      have h67 := Lib.hid h67
      have HNM := Lib.hid (names_eq (hlen.trans HN.out) hcopy)
      have HCOPY := Lib.hid hcopy
      clear k0 k1 k2 k3 k4 s0 s1 a0 a1
      have k0 := cell_of_row _ _ 0 _ _ _ HK7.out.tab
      have k1 := cell_of_row _ _ 1 _ _ _ HK7.out.tab
      have k2 := cell_of_row _ _ 2 _ _ _ HK7.out.tab
      have k3 := cell_of_row _ _ 3 _ _ _ HK7.out.tab
      have k4 := cell_of_row _ _ 4 _ _ _ HK7.out.tab
      have s0 := cell_of_row _ _ 0 _ _ _ HK7.out.sch
      have s1 := cell_of_row _ _ 1 _ _ _ HK7.out.sch
      have a0 := cell_of_row _ _ 0 _ _ _ HK7.out.ans
      have a1 := cell_of_row _ _ 1 _ _ _ HK7.out.ans
      clear hB7 hown hlen hcopy)
   | fail)
 obtain ⟨w8, hw8⟩ : ∃ w8, w8 = w7.alloc (.cells #[.slice va n vc, .slice none 0 0] 36) := ⟨_, rfl⟩
 have HW8 := Lib.hid hw8
 have HK8 := Lib.hid (show PutK w A n c ia ic ⟨tn, ta, tl, tc, tr, tx, tw⟩ w8 by rw [hw8]; exact HK7.out.keep (below1 w7 _))
 have hW0 : Below w8.heap.size w8 w8.drew := (Below.refl _ _).drew
 have HY := Lib.hid (show w8.heap.size = w7.heap.size + 1 by rw [hw8]; exact World.size_alloc _ _)
 have HX := Lib.hid (show ∀ (w9 : World) (O : Obj), Below w8.drew.heap.size w8.drew w9 → (w9.alloc O).ownsRow (w6.heap.size + 3) 25 5 (.slice va n vc) n (outs.map tabL).flatten from fun w9 O hB9 => by
   have hB : Below w7.heap.size w7 (w9.alloc O) := by
     have h8 : Below w7.heap.size w7 w8.drew := by rw [hw8]; exact (below1 w7 _).drew
     have hd : w8.drew.heap.size = w8.heap.size := rfl
     have h9 := h8.trans (hB9.mono h8.size)
     exact h9.trans ((below1 w9 O).mono h9.size)
   exact own_kept HOWN.out hB (Nat.le_refl _))
 have HZ := Lib.hid (show ∀ (w9 w10 : World) (yn : ByteArray) (ya : Option Addr) (yl yc : Nat) (yr yx yw : Int) (g cap : Nat) (O9 : Obj), Below w8.drew.heap.size w8.drew w9 → TabCopy w8.drew ⟨tn, ta, tl, tc, tr, tx, tw⟩ cl ⟨yn, ya, yl, yc, yr, yx, yw⟩ w9 → w10.ownsRow (w6.heap.size + 3) 25 5 (.slice (some ⟨g, 0, none⟩) (n + 1) cap) (n + 1) ((outs.map tabL).flatten ++ tabL ⟨yn, ya, yl, yc, yr, yx, yw⟩) → (w9.alloc O9).grownBy w10 (Value.slice va n vc).ownBlock → ((Value.slice (some ⟨g, 0, none⟩) (n + 1) cap).ownBlock = (Value.slice va n vc).ownBlock ∨ (Value.slice (some ⟨g, 0, none⟩) (n + 1) cap).ownBlock = some (w9.alloc O9).heap.size) → MidP w w7.heap.size g cap n (outs ++ [⟨yn, ya, yl, yc, yr, yx, yw⟩]) (w10.setCell ⟨w7.heap.size, 0, none⟩ (.slice (some ⟨g, 0, none⟩) (n + 1) cap)) ∧ w10.heap[w7.heap.size]? = some (.cells #[.slice va n vc, .slice none 0 0] 36) from fun w9 w10 yn ya yl yc yr yx yw g cap O9 h1 h2 h3 h4 h5 => by
   rw [hw8] at h1 h2
   exact PutK.mid HK7.out (by have := heap_lt HK6.out.ans; omega) HL.out HCLL.out HN.out HLEN.out HOWN.out HCOPY.out h1 h2 h3 h4 h5 h67.out)
 have o0 : w8.drew.cell? ⟨w7.heap.size, 0, none⟩ = some (.slice va n vc) := by rw [hw8]; exact cell_of_row _ _ 0 _ _ _ (heap_alloc_new w7 _)
 have j0 : w8.drew.cell? ⟨w.heap.size + 1, 0, none⟩ = some (.string tn) := cell_of_row w8.drew _ 0 _ _ _ HK8.out.tab
 have j1 : w8.drew.cell? ⟨w.heap.size + 1, 1, none⟩ = some (.slice ta tl tc) := cell_of_row w8.drew _ 1 _ _ _ HK8.out.tab
 have j2 : w8.drew.cell? ⟨w.heap.size + 1, 2, none⟩ = some (.int .i64 tr) := cell_of_row w8.drew _ 2 _ _ _ HK8.out.tab
 have j3 : w8.drew.cell? ⟨w.heap.size + 1, 3, none⟩ = some (.int .i64 tx) := cell_of_row w8.drew _ 3 _ _ _ HK8.out.tab
 have j4 : w8.drew.cell? ⟨w.heap.size + 1, 4, none⟩ = some (.int .i64 tw) := cell_of_row w8.drew _ 4 _ _ _ HK8.out.tab
 rw [← hw8]
 clear hw8 k0 k1 k2 k3 k4 s0 s1 a0 a1
 go_region_law (first
   | (go_simp; go_at_call 36; (with_reducible refine (HCT.out _ (HK8.out.below.trans (hW0.mono HK8.out.below.size))).mono ?_); rintro e w9 ⟨yn, ya, yl, yc, yr, yx, yw, rfl, hB9, hP⟩
      have HB9 := Lib.hid hB9
      have HP := Lib.hid hP
      have o9 : w9.cell? ⟨w7.heap.size, 0, none⟩ = some (.slice va n vc) := cell_kept o0 hB9
      have o9b : ∀ O, (w9.alloc O).cell? ⟨w7.heap.size, 0, none⟩ = some (.slice va n vc) := fun O => cell_kept o9 (below1 w9 O)
      clear hB9 hP)
   | (refine step_tab _ (by rfl) (.tmp 68) (.tmp 71) (by rfl) (w6.heap.size + 3) (.slice va n vc) n (outs.map tabL).flatten (by rfl) (HX.out _ _ HB9.out) w9.heap.size 1 ⟨yn, ya, yl, yc, yr, yx, yw⟩ (by rfl) (heap_alloc_new w9 _) (by omega) (by have := HB9.out.size; have := HY.out; have := h67.out; simp at *; omega) ?_
      intro v10 w10 hown hgr hat
      obtain ⟨g, cap, rfl⟩ := own_slice hown
      have HM := Lib.hid (HZ.out _ _ _ _ _ _ _ _ _ _ _ _ HB9.out HP.out hown hgr hat)
      have z6 := cell_of_row _ _ 0 _ _ _ HM.out.2
      have g6 := frozen_of_row _ _ 0 _ _ HM.out.2
      clear hown hgr hat)
   | fail)
 all_goals
   go_wp2_with (first
     | (go_at_call 56; (with_reducible refine (HSO.out g cap _ _ _ (by omega) HM.out.1.row HM.out.1.len HM.out.1.room).mono ?_); rintro e w11 ⟨rfl, hS⟩
        have HM2 := Lib.hid (HM.out.1.sorted hS)
        have m0 := cell_of_row _ _ 0 _ _ _ HM2.out.out
        have m1 := cell_of_row _ _ 1 _ _ _ HM2.out.out
        have q0 := cell_of_row _ _ 0 _ _ _ HM2.out.ans
        have q1 := cell_of_row _ _ 1 _ _ _ HM2.out.ans
        have f0 := frozen_of_row _ _ 0 _ _ HM2.out.ans
        have f1 := frozen_of_row _ _ 1 _ _ HM2.out.ans
        clear hS)
     | fail)
   refine bodyPost_ret (v := .tuple #[.agg #[.slice (some ⟨g, 0, none⟩) (n + 1) cap, .slice none 0 0], .int .i64 0]) (by simp [results, Tryz.results27, go_sem, q0, q1]) rfl ?_
   obtain ⟨ts', d1, d2, d3, d4⟩ := HM2.out.done (by omega) (.slice (some ⟨g, 0, none⟩) (n + 1) cap) (.slice none 0 0)
   refine ⟨g, cap, ts', outs ++ [⟨yn, ya, yl, yc, yr, yx, yw⟩], by rw [← HN.out], d1, d2, ?_, by rw [← HN.out]; exact HM.out.1.room, d4, ?_, d3⟩
   · have e := congrArg List.length d3
     rw [List.length_map] at e
     rw [e, HM2.out.len, HN.out]
   · rw [List.map_append, HNM.out, show [(⟨yn, ya, yl, yc, yr, yx, yw⟩ : Tab)].map Tab.name = [yn] from rfl]
     congr 2
     exact HP.out.1
end Go.Proofs.YtcgpflkaejbkhaaGreatDoor
namespace Go.Proofs.YtcgpflkaejbkhaaGreatDoor
open Go.RowKit

theorem name_a : nameB [97] = true := by decide +kernel
theorem name_b : nameB [98] = true := by decide +kernel
theorem name_select : nameB [115, 101, 108, 101, 99, 116] = false := by decide +kernel
theorem cols_x : colsR [⟨⟨#[120]⟩, 1, false⟩] = 0 := by decide +kernel
theorem put_x (m : Int) (gt : Nat → Nat) (ht : ∀ j, j < 23 → finD (Ieee.double.read (gt j)) = true) (A : Option Addr) (c : Nat) (ts : List (Tab × List Col)) (nm : ByteArray) (root : Int) (b : Nat) (w : World) (hG : Glob m gt w)
   (hD : DeepAt w A ts) (hn : ts.length ≤ 7) (hl : ∀ p ∈ ts, p.2.length ≤ 1000) (hq : w.heap[b]? = some (.cells #[.string ⟨#[120]⟩, .int .i64 1, .bool false] 42))
   (hname : nameB nm.data.toList = true) (hroot : 1 ≤ root ∧ root ≤ 1600) (hnew : ∀ p ∈ ts, sameN p.1.name nm = false) :
   Calls Tryz.prog 27 #[.agg #[.slice A ts.length c, .slice none 0 0], .agg #[.string nm, .slice (some ⟨b, 0, none⟩) 1 1, .int .i64 root, .int .i64 1, .int .i64 0]] w (PutP w ts nm) :=
 put_new m gt ht A c ts none 0 ⟨nm, some ⟨b, 0, none⟩, 1, 1, root, 1, 0⟩ [⟨⟨#[120]⟩, 1, false⟩] w hG hD hn hl
   ⟨by decide, Or.inr ⟨b, 0, rfl, heap_lt hq, fun j x hx => by
     have hj : j = 0 := by
       have := (List.getElem?_eq_some_iff.1 hx).1
       simp at this
       exact this
     subst hj
     obtain rfl : colL ⟨⟨#[120]⟩, 1, false⟩ = x := by simpa using hx
     refine ⟨rfl, fun i v hv => ?_⟩
     rw [cell_of_row _ _ _ _ _ _ hq]
     simpa [colL] using hv⟩⟩
   rfl (Nat.le_refl _) (fun h => by cases h) hname hroot (show (1 : Int) ≤ 1 by decide) (show (0 : Int) ≤ 0 by decide) cols_x (by decide) hnew
theorem put_names1 {ts' : List (Tab × List Col)} {L : List Tab} {nm : ByteArray} (h1 : L.map Tab.name = [nm]) (h2 : ts'.map Prod.fst = sortT L) : ∃ p, ts' = [p] ∧ p.1.name = nm := by
 match L, h1 with
 | [y], h1 =>
   have hs : sortT [y] = [y] := rfl
   rw [hs] at h2
   match ts', h2 with
   | [p], h2 =>
     refine ⟨p, rfl, ?_⟩
     have e : p.1 = y := by simpa using h2
     rw [e]; simpa using h1
theorem put_names2 {ts' : List (Tab × List Col)} {L : List Tab} {a b : ByteArray} (hlt : ltN a b = true) (h1 : L.map Tab.name = [b, a]) (h2 : ts'.map Prod.fst = sortT L) : ∃ p q, ts'.map Prod.fst = [p, q] ∧ p.name = a ∧ q.name = b := by
 match L, h1 with
 | [y, z], h1 =>
   have e1 : y.name = b := (List.cons.inj h1).1
   have e2 : z.name = a := (List.cons.inj (List.cons.inj h1).2).1
   have hs : sortT [y, z] = [z, y] := by
     show sinkT 1 [y, z] = [z, y]
     unfold sinkT
     dsimp only [List.getElem?_cons_zero, List.getElem?_cons_succ]
     rw [e1, e2, if_pos hlt]
     rfl
   rw [hs] at h2
   exact ⟨z, y, h2, e2, e1⟩
theorem b_not_a : sameN ⟨#[98]⟩ ⟨#[97]⟩ = false := by decide +kernel
theorem a_ahead : ltN ⟨#[97]⟩ ⟨#[98]⟩ = true := by decide +kernel
def TwoP (w : World) (e : Ending) (w' : World) : Prop := ∃ (g c : Nat) (pa pb : Tab), e = .returned (.tuple #[.agg #[.slice (some ⟨g, 0, none⟩) 2 c, .slice none 0 0], .int .i64 0]) ∧ Below w.heap.size w w' ∧ TabsAt w' (some ⟨g, 0, none⟩) [pa, pb] ∧ pa.name = ⟨#[97]⟩ ∧ pb.name = ⟨#[98]⟩
def OneP (w : World) (e : Ending) (w2 : World) : Prop := ∃ (g c : Nat), e = .returned (.tuple #[.agg #[.slice (some ⟨g, 0, none⟩) 1 c, .slice none 0 0], .int .i64 0]) ∧
 Calls Tryz.prog 27 #[.agg #[.slice (some ⟨g, 0, none⟩) 1 c, .slice none 0 0], .agg #[.string ⟨#[97]⟩, .slice (some ⟨w.heap.size, 0, none⟩) 1 1, .int .i64 3, .int .i64 1, .int .i64 0]] (w2.alloc (.cells #[.slice (some ⟨g, 0, none⟩) 1 c, .slice none 0 0] 36)) (TwoP w)
theorem put_one (m : Int) (gt : Nat → Nat) (ht : ∀ j, j < 23 → finD (Ieee.double.read (gt j)) = true) (w : World) (hG : Glob m gt w) : Calls Tryz.prog 27 #[.agg #[.slice none 0 0, .slice none 0 0], .agg #[.string ⟨#[98]⟩, .slice (some ⟨w.heap.size, 0, none⟩) 1 1, .int .i64 2, .int .i64 1, .int .i64 0]] (w.alloc (.cells #[.string ⟨#[120]⟩, .int .i64 1, .bool false] 42)) (OneP w) := by
 have hB1 : Below w.heap.size w (w.alloc (.cells #[.string ⟨#[120]⟩, .int .i64 1, .bool false] 42)) := below1 w _
 have hX1 := heap_alloc_new w (.cells #[.string ⟨#[120]⟩, .int .i64 1, .bool false] 42)
 refine (put_x m gt ht none 0 [] ⟨#[98]⟩ 2 w.heap.size _ (hG.keep hB1) ⟨CellsAt.nil_at _ _ _, fun p hp => by cases hp⟩ (by decide) (fun p hp => by cases hp) hX1 name_b (by decide) (fun p hp => by cases hp)).mono fun e w2 h => ?_
 obtain ⟨g1, c1, ts1, L1, rfl, hB2, hD2, hl2, hc2, hcl2, hn2, hs2⟩ := h
 obtain ⟨p, rfl, hpn⟩ := put_names1 hn2 hs2
 have hlt1 := heap_lt hX1
 have hB2' : Below w.heap.size w w2 := hB1.trans (hB2.mono hB1.size)
 have hB3 : Below w.heap.size w (w2.alloc (.cells #[.slice (some ⟨g1, 0, none⟩) 1 c1, .slice none 0 0] 36)) := hB2'.alloc hB2'.size _
 have hX3 : (w2.alloc (.cells #[.slice (some ⟨g1, 0, none⟩) 1 c1, .slice none 0 0] 36)).heap[w.heap.size]? = some (.cells #[.string ⟨#[120]⟩, .int .i64 1, .bool false] 42) := by
   rw [heap_alloc_old _ _ (Nat.lt_of_lt_of_le hlt1 hB2.size)]
   exact (hB2.block _ hlt1).trans hX1
 refine ⟨g1, c1, rfl, ?_⟩
 refine (put_x m gt ht (some ⟨g1, 0, none⟩) c1 [p] ⟨#[97]⟩ 3 w.heap.size _ (hG.keep hB3) (DeepAt.keep (below1 w2 _) hD2) (show 1 ≤ 7 by decide) hcl2 hX3 name_a (by decide) (fun q hq => by rw [List.mem_singleton.1 hq, hpn]; exact b_not_a)).mono fun e w4 h => ?_
 obtain ⟨g2, c2, ts2, L2, rfl, hB4, hD4, hl4, hc4, hcl4, hn4, hs4⟩ := h
 obtain ⟨pa, pb, hpp, ha, hb⟩ := put_names2 (a := ⟨#[97]⟩) (b := ⟨#[98]⟩) a_ahead (by rw [hn4]; simp [hpn]) hs4
 refine ⟨g2, c2, pa, pb, rfl, hB3.trans (hB4.mono hB3.size), ?_, ha, hb⟩
 have h := hD4.1
 rwa [hpp] at h
theorem same_refl (x : ByteArray) : sameN x x = true := sameN_iff.2 rfl
theorem table_two {w : World} {g c : Nat} {pa pb : Tab} (hT : TabsAt w (some ⟨g, 0, none⟩) [pa, pb]) (ha : pa.name = ⟨#[97]⟩) (hb : pb.name = ⟨#[98]⟩) :
   (∀ W, Below w.heap.size w W → Calls Tryz.prog 12 #[.agg #[.slice (some ⟨g, 0, none⟩) 2 c, .slice none 0 0], .string ⟨#[97]⟩] W (RetV (.int .i64 0) W)) ∧ (∀ W, Below w.heap.size w W → Calls Tryz.prog 12 #[.agg #[.slice (some ⟨g, 0, none⟩) 2 c, .slice none 0 0], .string ⟨#[99]⟩] W (RetV (.int .i64 (-1)) W)) := by
 constructor
 · intro W hB
   refine (table_any (some ⟨g, 0, none⟩) c [pa, pb] none 0 0 ⟨#[97]⟩ W (CellsAt.keep hB hT)).mono fun e w' ⟨r, h1, h2, h3⟩ => ?_
   have h0 : nameAt [pa, pb] ⟨#[97]⟩ 0 = true := by
     show sameN pa.name _ = true
     rw [ha]; exact same_refl _
   rcases h2 with ⟨k, hk, rfl, hp, hq⟩ | ⟨rfl, hp⟩
   · cases k with
     | zero => exact ⟨h1, h3⟩
     | succ k => rw [hq 0 (Nat.succ_pos k)] at h0; cases h0
   · rw [hp 0 (by simp)] at h0; cases h0
 · intro W hB
   refine (table_any (some ⟨g, 0, none⟩) c [pa, pb] none 0 0 ⟨#[99]⟩ W (CellsAt.keep hB hT)).mono fun e w' ⟨r, h1, h2, h3⟩ => ?_
   rcases h2 with ⟨k, hk, rfl, hp, hq⟩ | ⟨rfl, hp⟩
   · exfalso
     match k, hk with
     | 0, _ =>
       have e : nameAt [pa, pb] ⟨#[99]⟩ 0 = sameN pa.name ⟨#[99]⟩ := rfl
       rw [e, ha] at hp
       exact absurd hp (by decide +kernel)
     | 1, _ =>
       have e : nameAt [pa, pb] ⟨#[99]⟩ 1 = sameN pb.name ⟨#[99]⟩ := rfl
       rw [e, hb] at hp
       exact absurd hp (by decide +kernel)
   · exact ⟨h1, h3⟩
set_option maxRecDepth 100000 in
set_option maxHeartbeats 8000000 in
theorem lives_any (m : Int) (gt : Nat → Nat) (ht : ∀ j, j < 23 → finD (Ieee.double.read (gt j)) = true) (w : World) (hG : Glob m gt w) : Calls Tryz.prog 7 #[] w (RetT w) := by
 have HG := Lib.hid hG
 have HNM := Lib.hid (show ∀ W, Glob m gt W → Calls Tryz.prog 28 #[.string ⟨#[97]⟩] W (RetV (.bool true) W) from fun W g => name_a ▸ name_any m gt ht ⟨#[97]⟩ W g)
 have HNS := Lib.hid (show ∀ W, Glob m gt W → Calls Tryz.prog 28 #[.string ⟨#[115, 101, 108, 101, 99, 116]⟩] W (RetV (.bool false) W) from fun W g => name_select ▸ name_any m gt ht ⟨#[115, 101, 108, 101, 99, 116]⟩ W g)
 have HP1 := Lib.hid (put_one m gt ht w hG)
 clear hG ht
 go_enter Tryz.func7, Tryz.ntmps7
 go_wp2_with (first
   | (go_at_call 27; (with_reducible refine HP1.out.mono ?_); rintro e w2 ⟨g1, c1, rfl, hp2⟩; have HP2 := Lib.hid hp2; clear hp2)
   | (go_at_call 27; (with_reducible refine HP2.out.mono ?_); rintro e w4 ⟨g2, c2, pa, pb, rfl, hB4, hT, ha, hb⟩
      have HB4 := Lib.hid hB4
      obtain ⟨hta, htc⟩ := table_two (c := c2) hT ha hb
      have HTA := Lib.hid hta
      have HTC := Lib.hid htc
      have HA4 := Lib.hid (below1 w4 (.cells #[.slice (some ⟨g2, 0, none⟩) 2 c2, .slice none 0 0] 36))
      have HQ4 := Lib.hid (heap_alloc_new w4 (.cells #[.slice (some ⟨g2, 0, none⟩) 2 c2, .slice none 0 0] 36))
      clear hB4 hT ha hb hta htc)
   | (go_at_call 12; (with_reducible refine (HTA.out _ HA4.out).mono ?_); rintro e w5 ⟨rfl, hB5⟩
      have HA5 := Lib.hid (HA4.out.trans (hB5.mono HA4.out.size))
      have hq5 := (hB5.block w4.heap.size (by simp)).trans HQ4.out
      have HQ5 := Lib.hid hq5
      have t0 := cell_of_row _ _ 0 _ _ _ hq5
      have t1 := cell_of_row _ _ 1 _ _ _ hq5
      clear hB5 hq5)
   | (go_at_call 12; (with_reducible refine (HTC.out _ HA5.out).mono ?_); rintro e w6 ⟨rfl, hB6⟩
      have HB6 := Lib.hid (HB4.out.trans ((HA5.out.trans (hB6.mono HA5.out.size)).mono HB4.out.size))
      clear hB6)
   | (go_at_call 28; (with_reducible refine (HNM.out _ (HG.out.keep HB6.out)).mono ?_); rintro e w7 ⟨rfl, hB7⟩
      have HB7 := Lib.hid (HB6.out.trans (hB7.mono HB6.out.size))
      clear hB7)
   | (go_at_call 28; (with_reducible refine (HNS.out _ (HG.out.keep HB7.out)).mono ?_); rintro e w8 ⟨rfl, hB8⟩
      have HB8 := Lib.hid (HB7.out.trans (hB8.mono HB7.out.size))
      clear hB8)
   | fail)
 go_ret
 exact ⟨rfl, HB8.out⟩
end Go.Proofs.YtcgpflkaejbkhaaGreatDoor
namespace Go.Proofs.YtcgpflkaejbkhaaGreatDoor
open Go.RowKit
structure Idx where
 name : ByteArray
 table : ByteArray
 pa : Option Addr
 pn : Nat
 pc : Nat
 state : Int
 root : Int
 cursor : Int
def idxL (x : Idx) : List Value := [.string x.name, .string x.table, .slice x.pa x.pn x.pc, .int .i64 x.state, .int .i64 x.root, .int .i64 x.cursor]
def IdxsAt (w : World) (A : Option Addr) (l : List Idx) : Prop := CellsAt w 6 A (l.map idxL)
def inameAt (l : List Idx) (nm : ByteArray) (j : Nat) : Bool := match l[j]? with | some t => sameN t.name nm | none => false

theorem list6 {x : List Value} (h : x.length = 6) : ∃ v0 v1 v2 v3 v4 v5, x = [v0, v1, v2, v3, v4, v5] := by
 match x, h with
 | [v0, v1, v2, v3, v4, v5], _ => exact ⟨v0, v1, v2, v3, v4, v5, rfl⟩
set_option maxHeartbeats 2000000 in
theorem index_idx (P : Nat → Bool) (g : Nat) (lb : Array Value) (eg : ∀ args w, (callFunc g args).run Tryz.prog w = .ok (.enter g args) w) (A : Option Addr) (c : Nat) (ls : List (List Value)) (w : World) (hc : CellsAt w 6 A ls)
   (hp : ∀ (j : Nat) (x : List Value), ls[j]? = some x → ∀ W, Below w.heap.size w W → Calls Tryz.prog g (#[.agg x.toArray] ++ lb) W (RetV (.bool (P j)) W)) :
   Calls Tryz.prog 40 #[.slice A ls.length c, .func (.func g) #[] lb] w (FirstP P ls.length w) := by
 obtain ⟨n, hn⟩ : ∃ n, n = ls.length := ⟨_, rfl⟩
 have hs : n ≤ maxLen := by rw [hn]; exact hc.1
 unfold maxLen at hs
 have H := Lib.hid hc.2
 have HP := Lib.hid hp
 rw [← hn]
 have HN := Lib.hid hn
 clear hc hp hn
 go_enter Tryz.func40, Tryz.ntmps40
 go_wp2_with fail
 go_loopw [8] (fun i wr => ∃ k : Nat, k ≤ n ∧ i = .int .i64 k ∧ Below w.heap.size w wr ∧ Hid (∀ j, j < k → P j = false)) (fun i _ => n - (intOf i).toNat)
 case atStart => exact ⟨0, Nat.zero_le _, rfl, Below.refl _ _, Lib.hid (fun j hj => absurd hj (Nat.not_lt_zero _))⟩
 case round =>
   obtain ⟨k, hk, rfl, hB, HC⟩ := hrel
   obtain ⟨wo, rfl⟩ : ∃ wo : World, wo = wr := ⟨_, rfl⟩
   have HB := Lib.hid hB
   clear hB
   by_cases hlt : k < n
   · rcases H.out with h0 | ⟨b, off, rfl, hbl, hc⟩
     · exfalso; have := HN.out; rw [h0] at this; simp at this; omega
     · obtain ⟨x, hx⟩ : ∃ x, ls[k]? = some x := ⟨_, List.getElem?_eq_getElem (by have := HN.out; omega)⟩
       have HK := hc k x hx
       obtain ⟨v0, v1, v2, v3, v4, v5, rfl⟩ := list6 HK.1
       have hcc : ∀ (i : Nat) (v : Value), [v0, v1, v2, v3, v4, v5][i]? = some v → wo.cell? ⟨b, off + k * 6 + i, none⟩ = some v := fun i v hi => (HB.out.cell (p := ⟨b, off + k * 6 + i, none⟩) hbl).trans (HK.2 i v hi)
       have k0 : wo.cell? ⟨b, off + k * 6, none⟩ = some v0 := hcc 0 v0 rfl
       have k1 : wo.cell? ⟨b, off + k * 6 + 1, none⟩ = some v1 := hcc 1 v1 rfl
       have k2 : wo.cell? ⟨b, off + k * 6 + 2, none⟩ = some v2 := hcc 2 v2 rfl
       have k3 : wo.cell? ⟨b, off + k * 6 + 3, none⟩ = some v3 := hcc 3 v3 rfl
       have k4 : wo.cell? ⟨b, off + k * 6 + 4, none⟩ = some v4 := hcc 4 v4 rfl
       have k5 : wo.cell? ⟨b, off + k * 6 + 5, none⟩ = some v5 := hcc 5 v5 rfl
       clear hcc HK
       have HCC := Lib.hid (HP.out k _ hx wo HB.out)
       clear hx hc
       cases hq : P k with
       | true =>
         rw [hq] at HCC
         have HR := Lib.hid (show FirstIs P n k from Or.inl ⟨k, hlt, rfl, hq, HC.out⟩)
         clear hq
         go_wp2_with (first
           | (go_at_fn g; (with_reducible refine HCC.out.mono ?_); rintro e w2 ⟨rfl, hB2⟩)
           | fail)
         go_ret
         exact ⟨k, rfl, HR.out, HB.out.trans (hB2.mono HB.out.size)⟩
       | false =>
         rw [hq] at HCC
         have HD := Lib.hid (show ∀ j, j < k + 1 → P j = false from fun j hj => by
           by_cases e : j = k
           · rw [e]; exact hq
           · exact HC.out j (by omega))
         clear hq
         go_wp2_with (first
           | (go_at_fn g; (with_reducible refine HCC.out.mono ?_); rintro e w2 ⟨rfl, hB2⟩)
           | fail)
         go_roundw
         case rel => exact ⟨k + 1, by omega, by go_num, HB.out.trans (hB2.mono HB.out.size), HD⟩
         case measure => simp [intOf] <;> omega
   · have HR := Lib.hid (show FirstIs P n (-1) from Or.inr ⟨rfl, fun j hj => HC.out j (by omega)⟩)
     go_wp2_with fail
     go_ret
     exact ⟨-1, rfl, HR.out, HB.out⟩
set_option maxRecDepth 100000 in
set_option maxHeartbeats 2000000 in
theorem same_idx (t : Idx) (b : Nat) (nm : ByteArray) (W : World) (h : W.cell? ⟨b, 0, none⟩ = some (.string nm)) : Calls Tryz.prog 41 (#[.agg (idxL t).toArray] ++ #[.pointer (some ⟨b, 0, none⟩)]) W (RetV (.bool (sameN t.name nm)) W) := by
 obtain ⟨tn, tt, ta, tl, tc, tr, tx, ts⟩ := t
 show Calls Tryz.prog 41 #[.agg #[.string tn, .string tt, .slice ta tl tc, .int .i64 tr, .int .i64 tx, .int .i64 ts], .pointer (some ⟨b, 0, none⟩)] W (RetV (.bool (sameN tn nm)) W)
 have HB := Lib.hid (show (tn.toList == nm.toList) = sameN tn nm from rfl)
 have h2 := cell_kept h (below1 W (.cells #[.string tn, .string tt, .slice ta tl tc, .int .i64 tr, .int .i64 tx, .int .i64 ts] 28))
 go_enter Tryz.func41, Tryz.ntmps41
 go_wp2_with fail
 go_ret
 exact ⟨ret_b HB.out, below1 W _⟩
set_option maxRecDepth 100000 in
set_option maxHeartbeats 2000000 in
theorem index_any (A : Option Addr) (c : Nat) (l : List Idx) (ta : Option Addr) (tl tc : Nat) (nm : ByteArray) (w : World) (h : IdxsAt w A l) : Calls Tryz.prog 14 #[.agg #[.slice ta tl tc, .slice A l.length c], .string nm] w (FirstP (inameAt l nm) l.length w) := by
 have HI := Lib.hid (show ∀ (b : Nat) (W : World), Below w.heap.size w W → W.cell? ⟨b, 0, none⟩ = some (.string nm) → Calls Tryz.prog 40 #[.slice A l.length c, .func (.func 41) #[] #[.pointer (some ⟨b, 0, none⟩)]] W (FirstP (inameAt l nm) l.length W) from fun b W hB hb => by
   have h1 := index_idx (inameAt l nm) 41 #[.pointer (some ⟨b, 0, none⟩)] (Go.Proofs.enters_of Tryz.func41 (by kernel_rfl) rfl) A c (l.map idxL) W (CellsAt.keep hB h) (fun j x hx W2 hB2 => by
     rw [List.getElem?_map, Option.map_eq_some_iff] at hx
     obtain ⟨t, ht, rfl⟩ := hx
     have e : inameAt l nm j = sameN t.name nm := by unfold inameAt; rw [ht]
     rw [e]
     exact same_idx t b nm W2 (cell_kept hb hB2))
   rw [List.length_map] at h1
   exact h1)
 clear h
 go_enter Tryz.func14, Tryz.ntmps14
 have HW := Lib.hid (show Below w.heap.size w ((w.alloc (.cells #[.slice ta tl tc, .slice A l.length c] 36)).alloc (.cells #[.string nm] 9)) from (below1 w _).alloc (by simp) _)
 have h0 := heap_alloc_new (w.alloc (.cells #[.slice ta tl tc, .slice A l.length c] 36)) (.cells #[.string nm] 9)
 rw [World.size_alloc] at h0
 have HC := Lib.hid (cell_of_row _ _ 0 _ _ _ h0)
 clear h0
 go_wp2_with (first
   | (go_at_call 40; (with_reducible refine (HI.out _ _ HW.out HC.out).mono ?_); rintro e w2 ⟨r, rfl, hr, hB⟩; have HR := Lib.hid hr; have HB := Lib.hid (HW.out.trans (hB.mono HW.out.size)); clear hr hB)
   | fail)
 go_ret
 exact ⟨r, rfl, HR.out, HB.out⟩
set_option maxRecDepth 100000 in
set_option maxHeartbeats 4000000 in
theorem rtable_any (A : Option Addr) (c : Nat) (l : List Tab) (ia : Option Addr) (il ic : Nat) (nm : ByteArray) (w : World) (h : TabsAt w A l) : Calls Tryz.prog 13 #[.agg #[.slice A l.length c, .slice ia il ic], .string nm] w (FirstP (nameAt l nm) l.length w) := by
 obtain ⟨n, hn⟩ : ∃ n, n = l.length := ⟨_, rfl⟩
 have hs := h.1
 rw [List.length_map, ← hn] at hs
 unfold maxLen at hs
 have H := Lib.hid h
 have HN := Lib.hid hn
 rw [← hn]
 clear h hn
 have hq := heap_alloc_new w (.cells #[.slice A n c, .slice ia il ic] 36)
 have q := cell_of_row _ _ 0 _ _ _ hq
 have HB := Lib.hid (below1 w (.cells #[.slice A n c, .slice ia il ic] 36))
 clear hq
 go_enter Tryz.func13, Tryz.ntmps13
 go_wp2_with fail
 go_loop [5] (fun i => ∃ k : Nat, k ≤ n ∧ i = .int .i64 k ∧ Hid (∀ j, j < k → nameAt l nm j = false)) (fun i => n - (intOf i).toNat)
 case atStart => exact ⟨0, Nat.zero_le _, rfl, Lib.hid (fun j hj => absurd hj (Nat.not_lt_zero _))⟩
 case round =>
   obtain ⟨k, hk, rfl, HC⟩ := hrel
   by_cases hlt : k < n
   · obtain ⟨x, hx⟩ : ∃ x, l[k]? = some x := ⟨_, List.getElem?_eq_getElem (by have := HN.out; omega)⟩
     rcases H.out.2 with h0 | ⟨b, off, rfl, hbl, hc⟩
     · exfalso
       have := List.map_eq_nil_iff.1 h0
       subst this
       simp at hx
     · have hcell := (HB.out.cell (p := ⟨b, off + k * 5 + 0, none⟩) hbl).trans ((hc k (tabL x) (by rw [List.getElem?_map, hx]; rfl)).2 0 (.string x.name) rfl)
       rw [Nat.add_zero] at hcell
       have HE := Lib.hid (show nameAt l nm k = (x.name.toList == nm.toList) by unfold nameAt sameN; rw [hx])
       generalize x.name = xn at hcell HE
       clear hx hc
       cases hq : (xn.toList == nm.toList) with
       | true =>
         have HR := Lib.hid (show FirstIs (nameAt l nm) n k from Or.inl ⟨k, hlt, rfl, HE.out.trans hq, HC.out⟩)
         go_wp2_with fail
         go_ret
         exact ⟨k, rfl, HR.out, HB.out⟩
       | false =>
         have HD := Lib.hid (show ∀ j, j < k + 1 → nameAt l nm j = false from fun j hj => by
           by_cases e : j = k
           · rw [e]; exact HE.out.trans hq
           · exact HC.out j (by omega))
         go_wp2_with fail
         go_round
         case rel => exact ⟨k + 1, by omega, by go_num, HD⟩
         case measure => simp [intOf] <;> omega
   · have HR := Lib.hid (show FirstIs (nameAt l nm) n (-1) from Or.inr ⟨rfl, fun j hj => HC.out j (by omega)⟩)
     go_wp2_with fail
     go_ret
     exact ⟨-1, rfl, HR.out, HB.out⟩
set_option maxRecDepth 100000 in
set_option maxHeartbeats 4000000 in
theorem rindex_any (A : Option Addr) (c : Nat) (l : List Idx) (ta : Option Addr) (tl tc : Nat) (nm : ByteArray) (w : World) (h : IdxsAt w A l) : Calls Tryz.prog 15 #[.agg #[.slice ta tl tc, .slice A l.length c], .string nm] w (FirstP (inameAt l nm) l.length w) := by
 obtain ⟨n, hn⟩ : ∃ n, n = l.length := ⟨_, rfl⟩
 have hs := h.1
 rw [List.length_map, ← hn] at hs
 unfold maxLen at hs
 have H := Lib.hid h
 have HN := Lib.hid hn
 rw [← hn]
 clear h hn
 have hq := heap_alloc_new w (.cells #[.slice ta tl tc, .slice A n c] 36)
 have q := cell_of_row _ _ 1 _ _ _ hq
 have HB := Lib.hid (below1 w (.cells #[.slice ta tl tc, .slice A n c] 36))
 clear hq
 go_enter Tryz.func15, Tryz.ntmps15
 go_wp2_with fail
 go_loop [5] (fun i => ∃ k : Nat, k ≤ n ∧ i = .int .i64 k ∧ Hid (∀ j, j < k → inameAt l nm j = false)) (fun i => n - (intOf i).toNat)
 case atStart => exact ⟨0, Nat.zero_le _, rfl, Lib.hid (fun j hj => absurd hj (Nat.not_lt_zero _))⟩
 case round =>
   obtain ⟨k, hk, rfl, HC⟩ := hrel
   by_cases hlt : k < n
   · obtain ⟨x, hx⟩ : ∃ x, l[k]? = some x := ⟨_, List.getElem?_eq_getElem (by have := HN.out; omega)⟩
     rcases H.out.2 with h0 | ⟨b, off, rfl, hbl, hc⟩
     · exfalso
       have := List.map_eq_nil_iff.1 h0
       subst this
       simp at hx
     · have hcell := (HB.out.cell (p := ⟨b, off + k * 6 + 0, none⟩) hbl).trans ((hc k (idxL x) (by rw [List.getElem?_map, hx]; rfl)).2 0 (.string x.name) rfl)
       rw [Nat.add_zero] at hcell
       have HE := Lib.hid (show inameAt l nm k = (x.name.toList == nm.toList) by unfold inameAt sameN; rw [hx])
       generalize x.name = xn at hcell HE
       clear hx hc
       cases hq : (xn.toList == nm.toList) with
       | true =>
         have HR := Lib.hid (show FirstIs (inameAt l nm) n k from Or.inl ⟨k, hlt, rfl, HE.out.trans hq, HC.out⟩)
         go_wp2_with fail
         go_ret
         exact ⟨k, rfl, HR.out, HB.out⟩
       | false =>
         have HD := Lib.hid (show ∀ j, j < k + 1 → inameAt l nm j = false from fun j hj => by
           by_cases e : j = k
           · rw [e]; exact HE.out.trans hq
           · exact HC.out j (by omega))
         go_wp2_with fail
         go_round
         case rel => exact ⟨k + 1, by omega, by go_num, HD⟩
         case measure => simp [intOf] <;> omega
   · have HR := Lib.hid (show FirstIs (inameAt l nm) n (-1) from Or.inr ⟨rfl, fun j hj => HC.out j (by omega)⟩)
     go_wp2_with fail
     go_ret
     exact ⟨-1, rfl, HR.out, HB.out⟩
set_option maxRecDepth 100000 in
set_option maxHeartbeats 4000000 in
theorem rcolumn_any (A : Option Addr) (c : Nat) (l : List Col) (tn : ByteArray) (tr tx tw : Int) (nm : ByteArray) (w : World) (h : ColsAt w A l) : Calls Tryz.prog 19 #[.agg #[.string tn, .slice A l.length c, .int .i64 tr, .int .i64 tx, .int .i64 tw], .string nm] w (FirstP (cnameAt l nm) l.length w) := by
 obtain ⟨n, hn⟩ : ∃ n, n = l.length := ⟨_, rfl⟩
 have hs := h.1
 rw [List.length_map, ← hn] at hs
 unfold maxLen at hs
 have H := Lib.hid h
 have HN := Lib.hid hn
 rw [← hn]
 clear h hn
 have hq := heap_alloc_new w (.cells #[.string tn, .slice A n c, .int .i64 tr, .int .i64 tx, .int .i64 tw] 25)
 have q := cell_of_row _ _ 1 _ _ _ hq
 have HB := Lib.hid (below1 w (.cells #[.string tn, .slice A n c, .int .i64 tr, .int .i64 tx, .int .i64 tw] 25))
 clear hq
 go_enter Tryz.func19, Tryz.ntmps19
 go_wp2_with fail
 go_loop [5] (fun i => ∃ k : Nat, k ≤ n ∧ i = .int .i64 k ∧ Hid (∀ j, j < k → cnameAt l nm j = false)) (fun i => n - (intOf i).toNat)
 case atStart => exact ⟨0, Nat.zero_le _, rfl, Lib.hid (fun j hj => absurd hj (Nat.not_lt_zero _))⟩
 case round =>
   obtain ⟨k, hk, rfl, HC⟩ := hrel
   by_cases hlt : k < n
   · obtain ⟨x, hx⟩ : ∃ x, l[k]? = some x := ⟨_, List.getElem?_eq_getElem (by have := HN.out; omega)⟩
     rcases H.out.2 with h0 | ⟨b, off, rfl, hbl, hc⟩
     · exfalso
       have := List.map_eq_nil_iff.1 h0
       subst this
       simp at hx
     · have hcell := (HB.out.cell (p := ⟨b, off + k * 3 + 0, none⟩) hbl).trans ((hc k (colL x) (by rw [List.getElem?_map, hx]; rfl)).2 0 (.string x.name) rfl)
       rw [Nat.add_zero] at hcell
       have HE := Lib.hid (show cnameAt l nm k = (x.name.toList == nm.toList) by unfold cnameAt sameN; rw [hx])
       generalize x.name = xn at hcell HE
       clear hx hc
       cases hq : (xn.toList == nm.toList) with
       | true =>
         have HR := Lib.hid (show FirstIs (cnameAt l nm) n k from Or.inl ⟨k, hlt, rfl, HE.out.trans hq, HC.out⟩)
         go_wp2_with fail
         go_ret
         exact ⟨k, rfl, HR.out, HB.out⟩
       | false =>
         have HD := Lib.hid (show ∀ j, j < k + 1 → cnameAt l nm j = false from fun j hj => by
           by_cases e : j = k
           · rw [e]; exact HE.out.trans hq
           · exact HC.out j (by omega))
         go_wp2_with fail
         go_round
         case rel => exact ⟨k + 1, by omega, by go_num, HD⟩
         case measure => simp [intOf] <;> omega
   · have HR := Lib.hid (show FirstIs (cnameAt l nm) n (-1) from Or.inr ⟨rfl, fun j hj => HC.out j (by omega)⟩)
     go_wp2_with fail
     go_ret
     exact ⟨-1, rfl, HR.out, HB.out⟩
end Go.Proofs.YtcgpflkaejbkhaaGreatDoor
