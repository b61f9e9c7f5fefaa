/- Slices of the call's own, and what is put behind them: own words for this claim. -/
import Derived.Test.YtcnkghcdjicldaaRows
import Derived.Below
import Derived.Laws.OwnMore
import Derived.Maps.AppendAt
import Derived.Deep.Draws
import Derived.OwnWalk
import Derived.RegionTactic
namespace Go.Proofs.Ytcnkghcdjicldaa
open Go.RowKit

theorem adds (a : Addr) (i j : Nat) : (a.add i).add j = a.add (i + j) := by
  unfold Addr.add
  by_cases hi : i = 0 <;> by_cases hj : j = 0 <;> simp [hi, hj, Nat.add_assoc]
theorem add_block (a : Addr) (n : Nat) : (a.add n).block = a.block := by unfold Addr.add; split <;> rfl

/-- a slice's cells stand in memory, below a block; a slice that is nil is empty -/
def Src (w : World) (B : Nat) (A : Option Addr) (m c : Nat) (us : List Value) : Prop :=
  (A = none ∧ m = 0 ∧ c = 0 ∧ us = []) ∨ ∃ ad : Addr, A = some ad ∧ ad.block < B ∧ us.length = m ∧ m ≤ c ∧ ∀ j u, us[j]? = some u → w.cell? (ad.add j) = some u

section
variable {w w' : World} {B : Nat} {A : Option Addr} {m c : Nat} {us : List Value}
theorem Src.length (h : Src w B A m c us) : us.length = m := by
  rcases h with ⟨_, h1, _, h2⟩ | ⟨_, _, _, h, _⟩
  · rw [h2, h1]; rfl
  · exact h
theorem Src.room (h : Src w B A m c us) : m ≤ c := by
  rcases h with ⟨_, h1, h2, _⟩ | ⟨_, _, _, _, h, _⟩
  · omega
  · exact h
theorem Src.keep (h : Src w B A m c us) (hk : Below B w w') : Src w' B A m c us := by
  rcases h with h | ⟨ad, h1, h2, h3, h4, h5⟩
  · exact .inl h
  · exact .inr ⟨ad, h1, h2, h3, h4, fun j u hu => (hk.cell (by rw [add_block]; exact h2)).trans (h5 j u hu)⟩
/-- a beginning of it -/
theorem Src.front (h : Src w B A m c us) (p : Nat) (hp : p ≤ m) : Src w B A p c (us.take p) := by
  have hl := h.length
  rcases h with ⟨h1, h2, h3, h4⟩ | ⟨ad, h1, h2, h3, h4, h5⟩
  · exact .inl ⟨h1, by omega, h3, by rw [h4]; simp⟩
  · refine .inr ⟨ad, h1, h2, by rw [List.length_take]; omega, by omega, fun j u hu => ?_⟩
    rw [List.getElem?_take] at hu
    split at hu
    · exact h5 j u hu
    · cases hu
/-- its end -/
theorem Src.back (h : Src w B A m c us) (p : Nat) (hp : p ≤ m) : Src w B (if c = p then A else A.map (·.add p)) (m - p) (c - p) (us.drop p) := by
  have hl := h.length
  rcases h with ⟨h1, h2, h3, h4⟩ | ⟨ad, h1, h2, h3, h4, h5⟩
  · exact .inl ⟨by rw [if_pos (by omega)]; exact h1, by omega, by omega, by rw [h4]; simp⟩
  · subst h1
    by_cases e : c = p
    · rw [if_pos e]
      exact .inr ⟨ad, rfl, h2, by rw [List.length_drop]; omega, by omega, fun j u hu => by
        rw [List.drop_eq_nil_of_le (by omega)] at hu; simp at hu⟩
    · rw [if_neg e]
      refine .inr ⟨ad.add p, rfl, by rw [add_block]; exact h2, by rw [List.length_drop]; omega, by omega, fun j u hu => ?_⟩
      rw [adds]
      exact h5 _ u (by rw [← hu, List.getElem?_drop])
theorem Src.of_own {base e : Nat} {n cap : Nat} (h : w.ownsRow base e 1 (.slice A n cap) n us) : Src w w.heap.size A n cap us := by
  obtain ⟨h1, h2⟩ := h
  rcases h2 with ⟨hv, hn⟩ | ⟨g, cap', cur, hv, hb, hh, hnc, hcm, hs, ht⟩
  · injection hv with a1 a2 a3
    subst a1 a3
    exact .inl ⟨rfl, by omega, rfl, List.eq_nil_of_length_eq_zero (by omega)⟩
  · injection hv with a1 a2 a3
    subst a1 a3
    have hlt : g < w.heap.size := by
      rcases Nat.lt_or_ge g w.heap.size with hl | hge
      · exact hl
      · rw [Array.getElem?_eq_none hge] at hh; cases hh
    refine .inr ⟨_, rfl, hlt, by omega, hnc, World.ownsRow.cells ⟨h1, .inr ⟨g, cap, cur, rfl, hb, hh, hnc, hcm, hs, ht⟩⟩ rfl⟩
/-- a block of one cell -/
theorem Src.new (w : World) (u : Value) (e : TypeId) : Src (w.alloc (.cells #[u] e)) (w.heap.size + 1) (some ⟨w.heap.size, 0, none⟩) 1 1 [u] := by
  refine .inr ⟨_, rfl, Nat.lt_succ_self _, rfl, Nat.le_refl _, fun j v hv => ?_⟩
  have hj : j < 1 := by
    rcases Nat.lt_or_ge j 1 with h | h
    · exact h
    · rw [List.getElem?_eq_none (by simpa using h)] at hv; cases hv
  obtain rfl : j = 0 := by omega
  have : u = v := by simpa using hv
  subst this
  show (w.alloc (.cells #[u] e)).cell? ((⟨w.heap.size, 0, none⟩ : Addr).add 0) = some u
  rw [show ((⟨w.heap.size, 0, none⟩ : Addr).add 0) = ⟨w.heap.size, 0, none⟩ from rfl, cell_of_row _ _ _ _ _ _ (heap_alloc_new w _)]
  rfl
end

/-- behind a slice of the call's own another one's cells -/
theorem append_run {P : Program} (w : World) (base : Nat) (t ty e : TypeId) (i : TypeInfo) (z : Value) (bytes : Nat) (ht : P.underlying t = some (.slice e)) (hi : P.info? e = some i) (hz : i.zero = some z)
    (hsize : i.size = 1) (hby : i.bytes = bytes) (hzs : z.cells.size = 1) (v : Value) (n : Nat) (xs : List Value) (hown : w.ownsRow base e 1 v n xs)
    (B : Nat) (A : Option Addr) (m c : Nat) (us : List Value) (hs : Src w B A m c us) (h1 : ∀ u ∈ us, u.oneCell' = true)
    (h63 : n + m ≤ maxLen) (hbytes : (n + m) * bytes ≤ 140737488355328) (hbase : base ≤ w.heap.size) :
    ∃ v' w', (Builtin.append_ #[t, t] ty #[v, .slice A m c]).run P w = .ok v' w' ∧ w'.ownsRow base e 1 v' (n + m) (xs ++ us) ∧ w.grownBy w' v.ownBlock ∧
      (v'.ownBlock = v.ownBlock ∨ v'.ownBlock = some w.heap.size) := by
  rcases hs with ⟨rfl, rfl, rfl, rfl⟩ | ⟨ad, rfl, _, hl, _, hc⟩
  · exact ⟨v, w, run_append_owned_none w base t ty e i 1 ht hi v n xs hown, by simpa using hown, World.grownBy.refl w _, .inl rfl⟩
  · obtain ⟨v', w', g1, g2, g3, _, g5⟩ := run_append_own_at (P := P) w base t ty e i z 1 bytes ht hi hz hsize hby hzs (by omega) v n xs hown ad m c us (by omega) hc h1 h63 hbytes hbase
    exact ⟨v', w', g1, g2, g3, g5⟩

/-- .. as a step of a region that draws its order -/
theorem step_append {P : Program} (w : World) {ops : Array Oper} {o : Oper} {a : Act} {K : Act → World → Prop} {Q : Exit → Act → World → Prop} {E : Prop} (hgd : o.guard = none) (s x : Operand) (t : TypeId)
    (ho : o.op = .call { callee := .builtin .append, args := #[s, x], argTypes := #[t, t] }) (base : Nat) (e : TypeId) (i : TypeInfo) (z : Value) (bytes : Nat) (ht : P.underlying t = some (.slice e)) (hi : P.info? e = some i) (hz : i.zero = some z)
    (hsize : i.size = 1) (hby : i.bytes = bytes) (hzs : z.cells.size = 1) (v : Value) (n : Nat) (xs : List Value) (hv : a.eval s = v) (hown : w.ownsRow base e 1 v n xs)
    (B : Nat) (A : Option Addr) (m c : Nat) (us : List Value) (hx : a.eval x = .slice A m c) (hs : Src w B A m c us) (h1 : ∀ u ∈ us, u.oneCell' = true)
    (h63 : n + m ≤ maxLen) (hbytes : (n + m) * bytes ≤ 140737488355328) (hbase : base ≤ w.heap.size)
    (h : ∀ v' w', w'.ownsRow base e 1 v' (n + m) (xs ++ us) → w.grownBy w' v.ownBlock → (v'.ownBlock = v.ownBlock ∨ v'.ownBlock = some w.heap.size) → K (a.put o.dst v') w') :
    if Region.wanted o (yielded ops a.tmps) = true then Oper.wp P o a w K Q else E := by
  have hw : Region.wanted o (yielded ops a.tmps) = true := by simp [Region.wanted, hgd]
  rw [if_pos hw]
  obtain ⟨v', w', hrun, g2, g3, g4⟩ := append_run (P := P) w base t o.type e i z bytes ht hi hz hsize hby hzs v n xs hown B A m c us hs h1 h63 hbytes hbase
  unfold Oper.wp
  simp only [execOp, ho, resolve, invoke, builtin, Sem.run_bind, Sem.run_pure, Result.andThen_ok, List.map_toArray, List.map_cons, List.map_nil, hv, hx, hrun]
  exact h v' w' g2 g3 g4
theorem Src.grown {w w' : World} {B : Nat} {A : Option Addr} {m c : Nat} {us : List Value} (h : Src w B A m c us) {row : Option Nat} (hg : w.grownBy w' row) (hB : B ≤ w.heap.size) (hr : ∀ ad, A = some ad → row ≠ some ad.block) : Src w' B A m c us := by
  rcases h with h | ⟨ad, h1, h2, h3, h4, h5⟩
  · exact .inl h
  · refine .inr ⟨ad, h1, h2, h3, h4, fun j u hu => ?_⟩
    rw [← h5 j u hu]
    exact World.cell?_of_block (hg.block _ (by rw [add_block]; omega) (by rw [add_block]; exact fun e => hr ad h1 e.symm))
theorem Src.more {w : World} {B B' : Nat} {A : Option Addr} {m c : Nat} {us : List Value} (h : Src w B A m c us) (hB : B ≤ B') : Src w B' A m c us := by
  rcases h with h | ⟨ad, h1, h2, h3⟩
  · exact .inl h
  · exact .inr ⟨ad, h1, by omega, h3⟩
/-- a row that starts at a later block starts at an earlier one too -/
theorem owns_base {w : World} {b b' e size n : Nat} {v : Value} {xs : List Value} (h : w.ownsRow b e size v n xs) (hb : b' ≤ b) : w.ownsRow b' e size v n xs := by
  obtain ⟨h1, h2⟩ := h
  refine ⟨h1, h2.imp id fun ⟨g, cap, cur, e1, e2, e3⟩ => ⟨g, cap, cur, e1, by omega, e3⟩⟩
theorem slice_ge {B g n c k : Nat} (h : B ≤ g) (hk : Value.ownBlock (.slice (some ⟨g, 0, none⟩) n c) = some k) : B ≤ k := by cases hk; exact h
theorem slice_ne {g g' n c : Nat} (h : g ≠ g') : (Value.slice (some ⟨g, 0, none⟩) n c).ownBlock ≠ some g' := by intro e; cases e; exact h rfl
/-- what an append leaves of what was there -/
theorem below_append {w w1 w2 : World} {B e size n : Nat} {v : Value} {xs : List Value} (h : Below B w w1) (ho : w1.ownsRow B e size v n xs) (hB : B ≤ w1.heap.size) (hg : w1.grownBy w2 v.ownBlock) : Below B w w2 :=
  h.grown hg hB fun k hk => (ho.lt k hk).1
/-- a cell that lies beside an empty row, once that row has grown -/
theorem src_ex {wo w1 : World} {x : Value} {n c B : Nat} (hg : World.grownBy (((wo.alloc (.cells #[] 2)).alloc (.cells #[x] 2)).drew) w1 (Value.ownBlock (.slice (some ⟨wo.heap.size, 0, none⟩) n c))) (hB : wo.heap.size + 2 ≤ B) : Src w1 B (some ⟨wo.heap.size + 1, 0, none⟩) 1 1 [x] := by
  have h := Src.new (wo.alloc (.cells #[] 2)) x 2
  rw [World.size_alloc] at h
  have h2 : Src (((wo.alloc (.cells #[] 2)).alloc (.cells #[x] 2)).drew) (wo.heap.size + 1 + 1) (some ⟨wo.heap.size + 1, 0, none⟩) 1 1 [x] := h
  exact (h2.grown hg (by simp) (fun ad h => by cases h; exact slice_ne (Nat.ne_of_lt (Nat.lt_succ_self _)))).more (by omega)
theorem src_xe {wo w1 : World} {x : Value} {n c B : Nat} (hg : World.grownBy (((wo.alloc (.cells #[x] 2)).alloc (.cells #[] 2)).drew) w1 (Value.ownBlock (.slice (some ⟨wo.heap.size + 1, 0, none⟩) n c))) (hB : wo.heap.size + 2 ≤ B) : Src w1 B (some ⟨wo.heap.size, 0, none⟩) 1 1 [x] := by
  have h := (Src.new wo x 2).keep ((Below.refl _ (wo.alloc (.cells #[x] 2))).alloc (by simp) (.cells #[] 2))
  have h2 : Src (((wo.alloc (.cells #[x] 2)).alloc (.cells #[] 2)).drew) (wo.heap.size + 1) (some ⟨wo.heap.size, 0, none⟩) 1 1 [x] := h
  exact (h2.grown hg (by simp) (fun ad h => by cases h; exact slice_ne (Nat.ne_of_gt (Nat.lt_succ_self _)))).more (by omega)
theorem owns_slice {w : World} {b e size n : Nat} {v : Value} {xs : List Value} (h : w.ownsRow b e size v n xs) : ∃ A c, v = .slice A n c := by
  rcases h.2 with ⟨rfl, rfl⟩ | ⟨g, cap, cur, rfl, _⟩
  · exact ⟨none, 0, rfl⟩
  · exact ⟨_, _, rfl⟩
end Go.Proofs.Ytcnkghcdjicldaa
