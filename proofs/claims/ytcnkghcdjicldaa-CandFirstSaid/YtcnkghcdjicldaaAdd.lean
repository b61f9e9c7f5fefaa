/- The walk of add. -/
import Derived.Test.YtcnkghcdjicldaaDefs2
import Derived.Deep.RegionLaw
import Derived.Deep.Cut
namespace Go.Proofs.Ytcnkghcdjicldaa
open Go.RowKit

theorem heap_setFar {W : World} {b j k : Nat} (v : Value) (h : k ≠ b) : (W.setCell ⟨b, j, none⟩ v).heap[k]? = W.heap[k]? := by
  simp only [World.setCell, Array.getElem?_modify]
  rw [if_neg (fun e => h e.symm)]
theorem own_set {w : World} {base e size n b j : Nat} {v u : Value} {xs : List Value} (h : w.ownsRow base e size v n xs) (hb : b < base) : (w.setCell ⟨b, j, none⟩ u).ownsRow base e size v n xs := by
  obtain ⟨h1, h2⟩ := h
  exact ⟨h1, h2.imp id fun ⟨g, cap, cur, e1, e2, e3, e4⟩ => ⟨g, cap, cur, e1, e2, (heap_setFar u (by omega)).trans e3, e4⟩⟩
set_option maxHeartbeats 1000000 in
theorem clip_any (A : Option Addr) (n c : Nat) (w : World) (h : n ≤ c) (hc : c ≤ maxLen) : Calls Try.prog 41 #[.slice A n c] w fun e w' => e = .returned (.slice A n n) ∧ w = w' := by
  have hc2 := hc
  unfold maxLen at hc2
  go_enter Try.func41, Try.ntmps41
  go_wp2
  go_ret
  exact ⟨rfl, rfl⟩
/-- is an index that one? -/
def isD (tab : Int) (cols : List Int) (d : DefT) : Bool := (d.tab == tab) && (d.cols == cols)
set_option maxHeartbeats 1000000 in
theorem add_value (tab : Int) (cols : List Int) (A3 : Option Addr) (c3 b1 b2 : Nat) (d : DefT) (W : World) (h1 : W.cell? ⟨b1, 0, none⟩ = some (.int .i64 tab)) (h2 : W.cell? ⟨b2, 0, none⟩ = some (.slice A3 cols.length c3)) (hi : Ints W A3 c3 cols) (hd : Ints W d.A d.c d.cols) :
    Calls Try.prog 39 (#[.agg d.cells.toArray] ++ #[.pointer (some ⟨b1, 0, none⟩), .pointer (some ⟨b2, 0, none⟩)]) W (RetV (.bool (isD tab cols d)) W) := by
  obtain ⟨t, A, c, l⟩ := d
  obtain ⟨R, hR⟩ : ∃ R, R = isD tab cols ⟨t, A, c, l⟩ := ⟨_, rfl⟩
  rw [← hR]
  have HR := Lib.hid (show R = ((t == tab) && (l == cols)) from hR)
  have HE := Lib.hid (equal_any A A3 c c3 l cols (W.alloc (.cells #[.int .i64 t, .slice A l.length c, .bool false] 36)) (hd.keep (below1 _ _)) (hi.keep (below1 _ _)))
  have h3 := cell_keep h1 (below1 W (.cells #[.int .i64 t, .slice A l.length c, .bool false] 36))
  have h4 := cell_keep h2 (below1 W (.cells #[.int .i64 t, .slice A l.length c, .bool false] 36))
  generalize (l == cols) = r at HR HE
  clear h1 h2 hi hd hR
  show Calls Try.prog 39 #[.agg #[.int .i64 t, .slice A l.length c, .bool false], .pointer (some ⟨b1, 0, none⟩), .pointer (some ⟨b2, 0, none⟩)] W _
  by_cases ht : t = tab
  · subst ht
    go_enter Try.func39, Try.ntmps39
    go_wp2_with (first
      | (go_at_call 40; (with_reducible refine HE.out.mono ?_); rintro e w2 ⟨rfl, hB⟩)
      | fail)
    go_ret
    exact ⟨ret_bool (by rw [HR.out]; simp), (below1 W _).trans (hB.mono (below1 W _).size)⟩
  · have hne : (t == tab) = false := by simpa using ht
    clear ht
    go_enter Try.func39, Try.ntmps39
    go_wp2_with fail
    go_ret
    exact ⟨ret_bool (by rw [HR.out, hne]; rfl), below1 W _⟩
/-- a list with an index more, if it has columns, and isn't there -/
def addR (L : List (Int × List Int)) (tab : Int) (cols : List Int) : List (Int × List Int) :=
  if cols.take 3 = [] then L else if L.any (fun d => (d.1 == tab) && (d.2 == cols.take 3)) = true then L else L ++ [(tab, cols.take 3)]
theorem any_pure (ds : List DefT) (tab : Int) (cols : List Int) : (pureD ds).any (fun d => (d.1 == tab) && (d.2 == cols)) = ds.any (isD tab cols) := by
  unfold pureD
  rw [List.any_map]; rfl
/-- what holds in add once the columns are cut -/
def AddIn (w wc : World) (tab : Int) (cols : List Int) : Prop := ∃ A3 c3, wc.cell? ⟨w.heap.size, 0, none⟩ = some (.int .i64 tab) ∧ wc.cell? ⟨w.heap.size + 1, 0, none⟩ = some (.slice A3 cols.length c3) ∧ Ints wc A3 c3 cols ∧ Below w.heap.size w wc ∧ w.heap.size + 1 < wc.heap.size
theorem add_in {w w2 : World} {tab : Int} {cols : List Int} {v3 v : Value} (hB : Below ((w.alloc (.cells #[.int .i64 tab] 3)).alloc (.cells #[v] 22)).heap.size ((w.alloc (.cells #[.int .i64 tab] 3)).alloc (.cells #[v] 22)) w2)
    (ho : w2.ownsRow ((w.alloc (.cells #[.int .i64 tab] 3)).alloc (.cells #[v] 22)).heap.size 3 1 v3 cols.length (intsV cols)) : AddIn w (w2.setCell ⟨w.heap.size + 1, 0, none⟩ v3) tab cols := by
  have hz : ((w.alloc (.cells #[.int .i64 tab] 3)).alloc (.cells #[v] 22)).heap.size = w.heap.size + 2 := by simp
  have hsz := hB.size
  rw [hz] at hsz
  have hb2 := below2 w (.cells #[.int .i64 tab] 3) (.cells #[v] 22)
  have hq0 : w2.heap[w.heap.size]? = some (.cells #[.int .i64 tab] 3 (0, 0)) := by
    rw [hB.block _ (by rw [hz]; omega)]
    exact (Below.heap_alloc _ _ _ (by simp)).trans (heap_alloc_new w _)
  have hq1 : w2.heap[w.heap.size + 1]? = some (.cells #[v] 22 (0, 0)) := by
    rw [hB.block _ (by rw [hz]; omega)]
    have := heap_alloc_new (w.alloc (.cells #[.int .i64 tab] 3)) (.cells #[v] 22)
    rwa [World.size_alloc] at this
  obtain ⟨A3, c3, rfl, hI⟩ := ints_own (own_set (b := w.heap.size + 1) (j := 0) (u := v3) ho (by rw [hz]; omega)) rfl
  refine ⟨A3, c3, ?_, ?_, hI, ?_, by simp; omega⟩
  · exact cell_of_row _ _ 0 _ _ _ ((heap_setFar _ (by omega)).trans hq0)
  · have h := setCell_eq_setRow w2 (w.heap.size + 1) 0 #[v] 22 (0, 0) (.slice A3 cols.length c3) hq1
    rw [h]
    exact cell_of_row _ _ 0 _ _ _ (setRow_heap w2 (w.heap.size + 1) _ _ 22 _ hq1)
  · exact (hb2.trans (hB.mono hb2.size)).setCell (p := ⟨w.heap.size + 1, 0, none⟩) (Nat.le_succ _) _
end Go.Proofs.Ytcnkghcdjicldaa
