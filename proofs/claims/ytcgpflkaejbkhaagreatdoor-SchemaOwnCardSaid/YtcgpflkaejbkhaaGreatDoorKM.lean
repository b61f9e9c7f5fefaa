/- What holds while an answer's own cells are overwritten: its slices stand, and so does all that was there before. -/
import Derived.Test.YtcgpflkaejbkhaaGreatDoorJW
namespace Go.Proofs.YtcgpflkaejbkhaaGreatDoor
open Go.RowKit

/-- a world in which cells that are no slices, of blocks above a base, may have been overwritten -/
def Sim (base : Nat) (Wt W : World) : Prop := Below base Wt W ∧ ∀ (k : Nat) (r : Array Value) (ty : TypeId), Wt.heap[k]? = some (.cells r ty (0, 0)) → ∃ r' : Array Value, W.heap[k]? = some (.cells r' ty (0, 0)) ∧ r'.size = r.size ∧ ∀ (i : Nat) (a : Option Addr) (n c : Nat), r[i]? = some (.slice a n c) → r'[i]? = some (.slice a n c)
theorem Sim.refl (base : Nat) (W : World) : Sim base W W := ⟨Below.refl _ _, fun _ r _ h => ⟨r, h, rfl, fun _ _ _ _ h => h⟩⟩
theorem Sim.set {base : Nat} {Wt W : World} (h : Sim base Wt W) {k i : Nat} {u : Value} (hk : base ≤ k) (hc : Wt.cell? ⟨k, i, none⟩ = some u) (hu : ∀ a n c, u ≠ .slice a n c) (v : Value) : Sim base Wt (W.setCell ⟨k, i, none⟩ v) := by
  refine ⟨h.1.setCell (p := ⟨k, i, none⟩) hk v, fun k' r ty hr => ?_⟩
  obtain ⟨r', e1, e2, e3⟩ := h.2 k' r ty hr
  by_cases hkk : k' = k
  · subst hkk
    rw [setCell_eq_setRow W _ i _ ty _ _ e1]
    refine ⟨_, setRow_heap W _ _ _ ty _ e1, by simpa using e2, fun j a n c hj => ?_⟩
    have hij : i ≠ j := fun e => by
      subst e
      rw [cell_of_row Wt _ i _ _ _ hr, hj] at hc
      exact hu a n c (Option.some.inj hc).symm
    have := e3 j a n c hj
    simpa [Array.getElem?_setIfInBounds_ne hij] using this
  · exact ⟨r', (heap_setFar v hkk).trans e1, e2, e3⟩
theorem Sim.slice {base : Nat} {Wt W : World} (h : Sim base Wt W) {k i : Nat} {r : Array Value} {ty : TypeId} {a : Option Addr} {n c : Nat} (hr : Wt.heap[k]? = some (.cells r ty (0, 0))) (hc : Wt.cell? ⟨k, i, none⟩ = some (.slice a n c)) : W.cell? ⟨k, i, none⟩ = some (.slice a n c) := by
  obtain ⟨r', e1, _, e3⟩ := h.2 k r ty hr
  rw [cell_of_row Wt _ i _ _ _ hr] at hc
  rw [cell_of_row W _ i _ _ _ e1]
  exact e3 i a n c hc
theorem Sim.cell {base : Nat} {Wt W : World} (h : Sim base Wt W) {k i : Nat} {r : Array Value} {ty : TypeId} {u : Value} (hr : Wt.heap[k]? = some (.cells r ty (0, 0))) (hc : Wt.cell? ⟨k, i, none⟩ = some u) : ∃ u', W.cell? ⟨k, i, none⟩ = some u' := by
  obtain ⟨r', e1, e2, _⟩ := h.2 k r ty hr
  rw [cell_of_row Wt _ i _ _ _ hr] at hc
  have hlt := (Array.getElem?_eq_some_iff.1 hc).1
  exact ⟨_, (cell_of_row W _ i _ _ _ e1).trans (Array.getElem?_eq_getElem (by omega))⟩
theorem Sim.free {base : Nat} {Wt W : World} (h : Sim base Wt W) {k : Nat} {r : Array Value} {ty : TypeId} (hr : Wt.heap[k]? = some (.cells r ty (0, 0))) (i : Nat) : W.frozen? ⟨k, i, none⟩ = false := by
  obtain ⟨r', e1, _⟩ := h.2 k r ty hr
  exact frozen_of_row W k i _ _ e1
theorem Sim.box {base : Nat} {Wt W : World} (h : Sim base Wt W) {b : Nat} {p1 p4 : Option Addr} {p2 p3 p5 p6 : Nat} (hb : Wt.heap[b]? = some (.cells #[.slice p1 p2 p3, .slice p4 p5 p6] 36)) : W.heap[b]? = some (.cells #[.slice p1 p2 p3, .slice p4 p5 p6] 36) := by
  obtain ⟨r', e1, e2, e3⟩ := h.2 b _ 36 hb
  have h0 := e3 0 p1 p2 p3 rfl
  have h1 := e3 1 p4 p5 p6 rfl
  have : r' = #[.slice p1 p2 p3, .slice p4 p5 p6] := by
    apply Array.ext_getElem?
    intro i
    match i with
    | 0 => exact h0
    | 1 => exact h1
    | i + 2 =>
      rw [Array.getElem?_eq_none (by rw [e2]; simp), Array.getElem?_eq_none (by simp)]
  rw [e1, this]
/-- a cell that may be overwritten -/
def Soft (base : Nat) (Wt : World) (p : Addr) : Prop := ∀ W, Sim base Wt W → (∃ u, W.cell? p = some u) ∧ W.frozen? p = false ∧ ∀ v, Sim base Wt (W.setCell p v)
theorem soft_of {base : Nat} {Wt : World} {k i : Nat} {r : Array Value} {ty : TypeId} {u : Value} (hk : base ≤ k) (hr : Wt.heap[k]? = some (.cells r ty (0, 0))) (hc : Wt.cell? ⟨k, i, none⟩ = some u) (hu : ∀ a n c, u ≠ .slice a n c) : Soft base Wt ⟨k, i, none⟩ :=
  fun _ h => ⟨h.cell hr hc, h.free hr i, fun v => h.set hk hc hu v⟩
theorem row_at {W : World} {base e K n c : Nat} {A : Option Addr} {ls : List (List Value)} (h : RowsAt W base e n (.slice A n c) ls.flatten) (hK : 0 < K) (hl : ∀ x ∈ ls, x.length = K) (hn : ls.length ≤ 1000) {k : Nat} {x : List Value} (hx : ls[k]? = some x) :
    ∃ b off, A = some ⟨b, off, none⟩ ∧ base ≤ b ∧ (∃ r : Array Value, W.heap[b]? = some (.cells r e (0, 0))) ∧ ∀ (i : Nat) (u : Value), x[i]? = some u → W.cell? ⟨b, off + k * K + i, none⟩ = some u := by
  have hc := (h.cells hK hl hn).1
  rcases hc.2 with h0 | ⟨b, off, h1, h2, h3⟩
  · rw [h0] at hx; simp at hx
  · refine ⟨b, off, h1, ?_, ?_, fun i u hu => (h3 k x hx).2 i u hu⟩
    · rcases h with ⟨e1, _⟩ | ⟨g, cap, rest, e1, e2, _⟩
      · cases e1; cases h1
      · cases e1; cases h1; exact e2
    · rcases h with ⟨e1, _⟩ | ⟨g, cap, rest, e1, e2, _, e4⟩
      · cases e1; cases h1
      · cases e1; cases h1; exact ⟨_, e4⟩
theorem OwnS.tabAt {base h n c : Nat} {A : Option Addr} {u : Value} {ts : List (Tab × List Col)} {xs : List (Idx × List Int)} {W : World} (hS : OwnS base h (.slice A n c) u ts xs W) (hn : n = ts.length) (hl : ts.length ≤ 1000) {k : Nat} {t : Tab} {l : List Col} (hk : ts[k]? = some (t, l)) :
    ∃ b off, A = some ⟨b, off, none⟩ ∧ Hid (Soft base W ⟨b, off + k * 5, none⟩) ∧ Hid (∀ W', Sim base W W' → W'.cell? ⟨b, off + k * 5 + 1, none⟩ = some (.slice t.ca t.cn t.cc)) := by
  subst hn
  obtain ⟨b, off, h1, h2, ⟨r, h3⟩, h4⟩ := row_at hS.tab (by omega) (tab_len _) (by rw [List.length_map, List.length_map]; exact hl) (k := k) (x := tabL t) (by rw [List.getElem?_map, List.getElem?_map, hk]; rfl)
  exact ⟨b, off, h1, Lib.hid (soft_of h2 h3 (h4 0 _ rfl) (fun a n c e => by cases e)), Lib.hid fun W' hW => hW.slice h3 (h4 1 _ rfl)⟩
theorem OwnS.idxAt {base h n c : Nat} {A : Option Addr} {v : Value} {ts : List (Tab × List Col)} {xs : List (Idx × List Int)} {W : World} (hS : OwnS base h v (.slice A n c) ts xs W) (hn : n = xs.length) (hl : xs.length ≤ 1000) {k : Nat} {t : Idx} {l : List Int} (hk : xs[k]? = some (t, l)) :
    ∃ b off, A = some ⟨b, off, none⟩ ∧ Hid (Soft base W ⟨b, off + k * 6, none⟩) ∧ Hid (∀ W', Sim base W W' → W'.cell? ⟨b, off + k * 6 + 2, none⟩ = some (.slice t.pa t.pn t.pc)) := by
  subst hn
  obtain ⟨b, off, h1, h2, ⟨r, h3⟩, h4⟩ := row_at hS.idx (by omega) (idx_len _) (by rw [List.length_map, List.length_map]; exact hl) (k := k) (x := idxL t) (by rw [List.getElem?_map, List.getElem?_map, hk]; rfl)
  exact ⟨b, off, h1, Lib.hid (soft_of h2 h3 (h4 0 _ rfl) (fun a n c e => by cases e)), Lib.hid fun W' hW => hW.slice h3 (h4 2 _ rfl)⟩
theorem OwnS.colAt {base h : Nat} {v u : Value} {ts : List (Tab × List Col)} {xs : List (Idx × List Int)} {W : World} (hS : OwnS base h v u ts xs W) {k : Nat} {t : Tab} {l : List Col} (hk : ts[k]? = some (t, l)) {q : Nat} (hq : q < t.cn) :
    ∃ b off, t.ca = some ⟨b, off, none⟩ ∧ Hid (Soft base W ⟨b, off + q * 3, none⟩) := by
  obtain ⟨⟨h1, h1u⟩, h2, h3, h4, h5, h6⟩ := hS.cols _ (List.mem_of_getElem? hk)
  dsimp only at h1 h1u h2 h6
  have hz := List.getElem?_eq_getElem (l := l) (i := q) (by omega)
  rcases h1.2 with h0 | ⟨b, off, e1, e2, e3⟩
  · rw [List.map_eq_nil_iff] at h0
    subst h0
    simp at hz
  · obtain ⟨r, ty, hr⟩ := h1u _ e1
    exact ⟨b, off, e1, Lib.hid (soft_of (h6 _ e1).1 hr ((e3 q (colL l[q]) (by rw [List.getElem?_map, hz]; rfl)).2 0 _ rfl) (fun a n c e => by cases e))⟩
theorem OwnS.placeAt {base h : Nat} {v u : Value} {ts : List (Tab × List Col)} {xs : List (Idx × List Int)} {W : World} (hS : OwnS base h v u ts xs W) {k : Nat} {t : Idx} {l : List Int} (hk : xs[k]? = some (t, l)) {q : Nat} (hq : q < t.pn) :
    ∃ b off, t.pa = some ⟨b, off, none⟩ ∧ Hid (Soft base W ⟨b, off + q, none⟩) := by
  obtain ⟨⟨h1, h1u⟩, h2, h3, h4, h5, h6⟩ := hS.places _ (List.mem_of_getElem? hk)
  dsimp only at h1 h1u h2 h6
  have hz := List.getElem?_eq_getElem (l := l) (i := q) (by omega)
  rcases h1.2 with h0 | ⟨b, off, e1, e2, e3⟩
  · subst h0
    simp at hz
  · obtain ⟨r, ty, hr⟩ := h1u _ e1
    exact ⟨b, off, e1, Lib.hid (soft_of (h6 _ e1).1 hr (e3 q l[q] hz) (fun a n c e => by cases e))⟩
end Go.Proofs.YtcgpflkaejbkhaaGreatDoor
