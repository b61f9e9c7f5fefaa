/- One index more behind a list of indexes: the runs of append. -/
import Derived.Test.YtcnkghcdjicldaaDefs
namespace Go.Proofs.Ytcnkghcdjicldaa
open Go.RowKit

/-- the cells behind an address, as append asks for them -/
theorem defs_olds {w : World} {A : Option Addr} {c : Nat} {ds : List DefT} (h : DefsAt w A c ds) : ds = [] ∨ ∃ ad : Addr, A = some ad ∧ ad.block < w.heap.size ∧ ∀ j v, (ds.flatMap DefT.cells)[j]? = some v → w.cell? (ad.add j) = some v := by
  rcases h.1.2 with h0 | ⟨b, off, rfl, hb, hc⟩
  · exact .inl (by simpa using h0)
  · refine .inr ⟨_, rfl, hb, fun j v hv => ?_⟩
    have hj : j < ds.length * 3 := by
      rcases Nat.lt_or_ge j (ds.length * 3) with g | g
      · exact g
      · rw [List.getElem?_eq_none (by rw [flat_len]; omega)] at hv; cases hv
    obtain ⟨d, hd⟩ : ∃ d, ds[j / 3]? = some d := ⟨_, List.getElem?_eq_getElem (by omega)⟩
    have e : j = (j / 3) * 3 + j % 3 := by omega
    rw [e, flat_get ds (j / 3) (j % 3) d hd (by omega)] at hv
    have := (hc (j / 3) d.cells (by rw [List.getElem?_map, hd]; rfl)).2 (j % 3) v hv
    rw [show off + j / 3 * 3 + j % 3 = off + j by omega] at this
    rw [Addr.add_lit]
    exact this
theorem new_block {w : World} {T : TypeId} {ds : List DefT} {zs : Array Value} (hl : ds.length ≤ maxLen) : CellsAt (w.drew.alloc (.cells ((ds.flatMap DefT.cells).toArray ++ zs) T)) 3 (some ⟨w.heap.size, 0, none⟩) (ds.map DefT.cells) := by
  refine cells_of_block (heap_alloc_new w.drew _) ?_ hl
  have e := flat_len ds
  rw [Array.toList_append, List.take_append_of_le_length (by rw [List.toList_toArray]; omega), List.toList_toArray, List.take_of_length_le (by omega)]
/-- one more behind a list that has no room -/
theorem append_def (w : World) (ty : TypeId) (A : Option Addr) (c : Nat) (ds : List DefT) (hd : DefsAt w A c ds) (hl : ds.length ≤ 1000) (g : Nat) (d : DefT) (hg : ∀ j v, d.cells[j]? = some v → w.cell? ⟨g, j, none⟩ = some v) :
    ∃ c' w', (Builtin.append_ #[30, 30] ty #[.slice A ds.length ds.length, .slice (some ⟨g, 0, none⟩) 1 1]).run Try.prog w = .ok (.slice (some ⟨w.heap.size, 0, none⟩) (ds.length + 1) c') w' ∧
      CellsAt w' 3 (some ⟨w.heap.size, 0, none⟩) ((ds ++ [d]).map DefT.cells) ∧ ds.length + 1 ≤ c' ∧ c' ≤ maxLen ∧ Below w.heap.size w w' := by
  obtain ⟨i0, hi0, hz0, hz1, hz2⟩ := info_parts info36
  have hsm : ds.length + 1 ≤ maxLen := by unfold maxLen; omega
  have hnews : ∀ j u, d.cells[j]? = some u → w.cell? ((⟨g, 0, none⟩ : Addr).add j) = some u := fun j u hu => by
    have := hg j u hu
    rw [Addr.add_lit, Nat.zero_add]; exact this
  have hflat : (ds ++ [d]).flatMap DefT.cells = ds.flatMap DefT.cells ++ d.cells := by simp
  cases A with
  | none =>
    have h0 : ds = [] := by
      rcases defs_olds hd with h0 | ⟨ad, hA, _⟩
      · exact h0
      · cases hA
    subst h0
    have hr := run_append_nil (P := Try.prog) (w := w) 30 ty 36 i0 (.agg #[.int .i64 0, .slice none 0 0, .bool false]) Try.underlying30 hi0 hz0 ⟨g, 0, none⟩ 1 1 d.cells (by rw [hz1]; rfl) hnews (by omega) (by omega) (by rw [hz2]; omega)
    refine ⟨_, _, hr, ?_, grownCap_ge w _ _ _, grownCap_le_maxLen w _ _ _ (by unfold maxLen; omega), ((Below.refl _ w).drew).alloc (Nat.le_refl _) _⟩
    have := new_block (w := w) (T := 36) (ds := [d]) (zs := Builtin.zeroCells (Value.cells (.agg #[.int .i64 0, .slice none 0 0, .bool false])) (grownCap w 1 0 36 - 1)) (by unfold maxLen; simp)
    simpa using this
  | some ad =>
    have ho : ∀ j v, (ds.flatMap DefT.cells)[j]? = some v → w.cell? (ad.add j) = some v := by
      rcases defs_olds hd with h0 | ⟨ad', hA, _, ho⟩
      · subst h0; intro j v hv; simp at hv
      · cases hA; exact ho
    have hr := run_append_grow (P := Try.prog) w 30 ty 36 i0 (.agg #[.int .i64 0, .slice none 0 0, .bool false]) Try.underlying30 hi0 hz0 ad ds.length ds.length (ds.flatMap DefT.cells) (by rw [flat_len, hz1]) ho ⟨g, 0, none⟩ 1 1 d.cells (by rw [hz1]; rfl) hnews (by omega) (by unfold maxLen at hsm; omega) (by rw [hz2]; exact growslice_fits (by omega) (by omega))
    refine ⟨_, _, hr, ?_, grownCap_ge w _ _ _, grownCap_le_maxLen w _ _ _ hsm, ((Below.refl _ w).drew).alloc (Nat.le_refl _) _⟩
    have := new_block (w := w) (T := 36) (ds := ds ++ [d]) (zs := Builtin.zeroCells (Value.cells (.agg #[.int .i64 0, .slice none 0 0, .bool false])) (grownCap w (ds.length + 1) ds.length 36 - (ds.length + 1))) (by simp; omega)
    rw [hflat] at this
    simpa using this
/-- what has been put behind a list, as it stands -/
theorem DefsAt.more {w w' : World} {A A' : Option Addr} {c c' : Nat} {ds : List DefT} {d : DefT} (h : DefsAt w A c ds) (hB : Below w.heap.size w w') (hd : Ints w d.A d.c d.cols) (hc : CellsAt w' 3 A' ((ds ++ [d]).map DefT.cells)) (h1 : ds.length + 1 ≤ c') (h2 : c' ≤ maxLen) : DefsAt w' A' c' (ds ++ [d]) := by
  refine ⟨hc, fun x hx => ?_, by simpa using h1, h2⟩
  rcases List.mem_append.1 hx with hx | hx
  · exact (h.2.1 x hx).keep hB
  · obtain rfl := List.mem_singleton.1 hx; exact hd.keep hB
end Go.Proofs.Ytcnkghcdjicldaa
