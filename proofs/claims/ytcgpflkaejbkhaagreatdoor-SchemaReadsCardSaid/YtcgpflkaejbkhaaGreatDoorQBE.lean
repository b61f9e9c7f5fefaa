/- Schemas, and things that are done, opened: what a parameter, and what an element of a slice, reads as. -/
import Derived.Test.YtcgpflkaejbkhaaGreatDoorQAN
import Derived.Deep.RegionLaw
import Derived.Deep.RegionHeld3
import Derived.Test.YtcgpflkaejbkhaaGreatDoorQAY
import Derived.ChangeSlices
import Derived.WideShapes
import Derived.OpenShut
namespace Go.Proofs.YtcgpflkaejbkhaaGreatDoor
open Go.RowKit Go.ChangeShapes Go.WideShapes
theorem addsZ (b off i m : Nat) : ((⟨b, off, none⟩ : Addr).add i).add m = ⟨b, off + i + m, none⟩ := by rw [Addr.add_lit, Addr.add_lit]
section
variable {H : Type} {enc : TypeId × Value → H} {W : World}
theorem elem_spot {a : Addr} {K : Nat} {cs : List Value} (h : W.cells? 0 (a.add (0 * K)) K = some cs) (hK : 0 < K) : a.spot = none ∧ a.block < W.heap.size := by
 obtain ⟨_, hlen, hc⟩ := World.cells?_some h
 have h0 := hc 0 hK
 rw [List.getElem?_eq_getElem (by omega), Nat.zero_mul] at h0
 have e : (a.add 0).add 0 = a := by simp [Addr.add]
 rw [e] at h0
 exact ⟨World.cell?_spot h0, World.block_lt_of_cell? W _ h0⟩
theorem elem_cell {b off i K : Nat} {cs : List Value} (h : W.cells? 0 ((⟨b, off, none⟩ : Addr).add (i * K)) K = some cs) : ∀ (m : Nat) (v : Value), cs[m]? = some v → W.cell? ⟨b, off + i * K + m, none⟩ = some v := by
 obtain ⟨_, hlen, hc⟩ := World.cells?_some h
 intro m v hv
 have hm : m < K := by
   rcases Nat.lt_or_ge m K with g | g
   · exact g
   · rw [List.getElem?_eq_none (by omega)] at hv; cases hv
 have := hc m hm
 rw [addsZ, hv] at this
 rw [← this, Nat.add_assoc]
set_option maxRecDepth 100000 in
theorem open_elems {α : Type} {t e : TypeId} {K : Nat} (ht : Tryz.prog.underlying t = some (.slice e)) (hK : Tryz.prog.cellsOf e = K) (hK0 : 0 < K) (R : α → List Value → Prop) {fuel : Nat} {cs : List Value} {x : DataW H × List MemPlace} (h : DataW.trod enc Tryz.prog W 0 (fun _ => true) true fuel t cs = some x)
   (hR : ∀ (n : Nat) (cs' : List Value) (y : DataW H × List MemPlace), n < fuel → DataW.trod enc Tryz.prog W 0 (fun _ => true) true n e cs' = some y → cs'.length = K → ∃ a, R a cs') :
   ∃ A c, ∃ l : List α, cs = [.slice A l.length c] ∧ (A = none → c = 0) ∧ l.length ≤ c ∧ c ≤ maxLen ∧ (l = [] ∨ ∃ b off, A = some ⟨b, off, none⟩ ∧ b < W.heap.size ∧ ∀ (j : Nat) (a : α), l[j]? = some a → ∃ cs', R a cs' ∧ ∀ (m : Nat) (v : Value), cs'[m]? = some v → W.cell? ⟨b, off + j * K + m, none⟩ = some v) := by
 rcases DataW.trod_slice ht h with ⟨rfl, _⟩ | ⟨a, len, cap, elems, rest, n, rfl, rfl, _, _, hl, hm, hlen, hel, _, _⟩
 · exact ⟨none, 0, [], rfl, fun _ => rfl, Nat.le_refl _, by unfold maxLen; omega, .inl rfl⟩
 · have each : ∀ i, i < len → ∃ p : α × List Value, W.cells? 0 (a.add (i * K)) K = some p.2 ∧ R p.1 p.2 := fun i hi => by
     have := hel i hi
     rw [hK, List.getElem?_eq_getElem (by omega)] at this
     obtain ⟨cs', h1, h2⟩ := Option.bind_eq_some_iff.1 this
     obtain ⟨r, hr⟩ := hR n cs' _ (Nat.lt_succ_self n) h2 (World.cells?_some h1).2.1
     exact ⟨⟨r, cs'⟩, h1, hr⟩
   by_cases h0 : len = 0
   · subst h0
     exact ⟨some a, cap, [], rfl, (fun h => by cases h), by simp, hm, .inl rfl⟩
   · obtain ⟨f, hf⟩ : ∃ f : Nat → α × List Value, ∀ i, i < len → W.cells? 0 (a.add (i * K)) K = some (f i).2 ∧ R (f i).1 (f i).2 := by
       refine ⟨fun i => if h : i < len then (each i h).choose else (each 0 (by omega)).choose, fun i hi => ?_⟩
       simp only [hi, dif_pos]
       exact (each i hi).choose_spec
     refine ⟨some a, cap, (List.range len).map (fun i => (f i).1), by simp, (fun h => by cases h), by simpa using hl, hm, .inr ?_⟩
     obtain ⟨hs, hb⟩ := elem_spot (hf 0 (by omega)).1 hK0
     obtain ⟨b, off, spot⟩ := a
     dsimp only at hs
     subst hs
     refine ⟨b, off, rfl, hb, fun j z hz => ?_⟩
     rw [List.getElem?_map] at hz
     obtain ⟨i, hi, rfl⟩ := Option.map_eq_some_iff.1 hz
     have hj : j < len := by
       rcases Nat.lt_or_ge j len with g | g
       · exact g
       · rw [List.getElem?_eq_none (by simpa using g)] at hi; cases hi
     obtain rfl : j = i := by simpa [hj] using hi
     exact ⟨(f j).2, (hf j hj).2, elem_cell (hf j hj).1⟩
end
end Go.Proofs.YtcgpflkaejbkhaaGreatDoor
