/- A query, opened: what a parameter, and what an element of a slice, reads as. -/
import Derived.Test.YtcnkghcdjicldaaBase
import Derived.ChangeSlices
import Derived.WideShapes
import Derived.OpenShut
namespace Go.Proofs.Ytcnkghcdjicldaa
open Go.RowKit Go.ChangeShapes Go.WideShapes

theorem cells2 : Try.prog.cellsOf 2 = 1 := by kernel_rfl
theorem cells3 : Try.prog.cellsOf 3 = 1 := by kernel_rfl
theorem cells4 : Try.prog.cellsOf 4 = 1 := by kernel_rfl
theorem cells9 : Try.prog.cellsOf 9 = 1 := by kernel_rfl
theorem cells22 : Try.prog.cellsOf 22 = 1 := by kernel_rfl
theorem cells23 : Try.prog.cellsOf 23 = 1 := by kernel_rfl
theorem cells24 : Try.prog.cellsOf 24 = 1 := by kernel_rfl
theorem cells26 : Try.prog.cellsOf 26 = 9 := by kernel_rfl
theorem cells38 : Try.prog.cellsOf 38 = 1 := by kernel_rfl
theorem cells40 : Try.prog.cellsOf 40 = 4 := by kernel_rfl
theorem cells42 : Try.prog.cellsOf 42 = 10 := by kernel_rfl
theorem cells44 : Try.prog.cellsOf 44 = 2 := by kernel_rfl
section
variable {H : Type} {enc : TypeId × Value → H} {W : World}

theorem trod_float {P : Program} {t : TypeId} {k : FloatKind} {w : World} {base : Nat} {sp : Nat → Bool} {held : Bool} {fuel : Nat} {cs : List Value} {x : DataW H × List MemPlace}
    (ht : P.underlying t = some (.float k)) (h : DataW.trod enc P w base sp held fuel t cs = some x) : ∃ n, cs = [.float k n] := by
  cases fuel with
  | zero => simp [DataW.trod] at h
  | succ n =>
    unfold DataW.trod at h
    rw [ht] at h
    split at h <;> simp_all
theorem elem_spot {a : Addr} {K : Nat} {cs : List Value} (h : W.cells? 0 (a.add (0 * K)) K = some cs) (hK : 0 < K) : a.spot = none ∧ a.block < W.heap.size := by
  obtain ⟨_, hlen, hc⟩ := World.cells?_some h
  have h0 := hc 0 hK
  rw [List.getElem?_eq_getElem (by omega), Nat.zero_mul] at h0
  have e : (a.add 0).add 0 = a := by simp [Addr.add]
  rw [e] at h0
  exact ⟨World.cell?_spot h0, World.block_lt_of_cell? W _ h0⟩
/-- an element's cells -/
theorem elem_cell {b off i K : Nat} {cs : List Value} (h : W.cells? 0 ((⟨b, off, none⟩ : Addr).add (i * K)) K = some cs) : ∀ (m : Nat) (v : Value), cs[m]? = some v → W.cell? ⟨b, off + i * K + m, none⟩ = some v := by
  obtain ⟨_, hlen, hc⟩ := World.cells?_some h
  intro m v hv
  have hm : m < K := by
    rcases Nat.lt_or_ge m K with g | g
    · exact g
    · rw [List.getElem?_eq_none (by omega)] at hv; cases hv
  have := hc m hm
  rw [adds, hv, Addr.add_lit] at this
  rw [← this, Nat.add_assoc]
theorem open_ints' {fuel : Nat} {cs : List Value} {x : DataW H × List MemPlace} (h : DataW.trod enc Try.prog W 0 (fun _ => true) true fuel 22 cs = some x) : ∃ A c zs, cs = [.slice A zs.length c] ∧ IntsR W A c zs := by
  rcases DataW.trod_slice Try.underlying22 h with ⟨rfl, _⟩ | ⟨a, len, cap, elems, rest, n, _, rfl, _, _, hl, hm, hlen, hel, _, _⟩
  · exact ⟨none, 0, [], rfl, Nat.le_refl _, by unfold maxLen; omega, .inl rfl⟩
  · have each : ∀ i, i < len → ∃ z : Int, W.cells? 0 (a.add (i * 1)) 1 = some [.int .i64 z] := fun i hi => by
      have := hel i hi
      rw [cells3, List.getElem?_eq_getElem (by omega)] at this
      obtain ⟨cs', h1, h2⟩ := Option.bind_eq_some_iff.1 this
      obtain ⟨z, rfl, _⟩ := DataW.trod_int Try.underlying3 h2
      exact ⟨z, h1⟩
    obtain ⟨f, hf⟩ : ∃ f : Nat → Int, ∀ i, i < len → W.cells? 0 (a.add (i * 1)) 1 = some [.int .i64 (f i)] := by
      refine ⟨fun i => if h : i < len then (each i h).choose else 0, fun i hi => ?_⟩
      simp only [hi, dif_pos]
      exact (each i hi).choose_spec
    refine ⟨some a, cap, (List.range len).map f, by simp, by simpa using hl, hm, ?_⟩
    by_cases h0 : len = 0
    · left; rw [h0]; rfl
    · right
      obtain ⟨hs, hb⟩ := elem_spot (hf 0 (by omega)) (by omega)
      obtain ⟨b, off, spot⟩ := a
      dsimp only at hs
      subst hs
      refine ⟨b, off, rfl, hb, fun j z hz => ?_⟩
      rw [List.getElem?_map] at hz
      obtain ⟨i, hi, rfl⟩ := Option.map_eq_some_iff.1 hz
      have hj : j < len := by
        rcases Nat.lt_or_ge j len with g | g
        · exact g
        · rw [List.getElem?_eq_none (by simpa using g)] at hi; cases hi
      obtain rfl : j = i := by simpa [hj] using hi
      have := elem_cell (hf j hj) 0 _ rfl
      simpa using this
/-- the elements of a slice, each opened -/
theorem open_elems {α : Type} {t e : TypeId} {K : Nat} (ht : Try.prog.underlying t = some (.slice e)) (hK : Try.prog.cellsOf e = K) (hK0 : 0 < K) (R : α → List Value → Prop) {fuel : Nat} {cs : List Value} {x : DataW H × List MemPlace} (h : DataW.trod enc Try.prog W 0 (fun _ => true) true fuel t cs = some x)
    (hR : ∀ (n : Nat) (cs' : List Value) (y : DataW H × List MemPlace), n < fuel → DataW.trod enc Try.prog W 0 (fun _ => true) true n e cs' = some y → cs'.length = K → ∃ a, R a cs') :
    ∃ A c, ∃ l : List α, cs = [.slice A l.length c] ∧ l.length ≤ c ∧ c ≤ maxLen ∧ (l = [] ∨ ∃ b off, A = some ⟨b, off, none⟩ ∧ b < W.heap.size ∧ ∀ (j : Nat) (a : α), l[j]? = some a → ∃ cs', R a cs' ∧ ∀ (m : Nat) (v : Value), cs'[m]? = some v → W.cell? ⟨b, off + j * K + m, none⟩ = some v) := by
  rcases DataW.trod_slice ht h with ⟨rfl, _⟩ | ⟨a, len, cap, elems, rest, n, rfl, rfl, _, _, hl, hm, hlen, hel, _, _⟩
  · exact ⟨none, 0, [], rfl, Nat.le_refl _, by unfold maxLen; omega, .inl rfl⟩
  · have each : ∀ i, i < len → ∃ p : α × List Value, W.cells? 0 (a.add (i * K)) K = some p.2 ∧ R p.1 p.2 := fun i hi => by
      have := hel i hi
      rw [hK, List.getElem?_eq_getElem (by omega)] at this
      obtain ⟨cs', h1, h2⟩ := Option.bind_eq_some_iff.1 this
      obtain ⟨r, hr⟩ := hR n cs' _ (Nat.lt_succ_self n) h2 (World.cells?_some h1).2.1
      exact ⟨⟨r, cs'⟩, h1, hr⟩
    by_cases h0 : len = 0
    · subst h0
      exact ⟨some a, cap, [], rfl, by simp, hm, .inl rfl⟩
    · obtain ⟨f, hf⟩ : ∃ f : Nat → α × List Value, ∀ i, i < len → W.cells? 0 (a.add (i * K)) K = some (f i).2 ∧ R (f i).1 (f i).2 := by
        refine ⟨fun i => if h : i < len then (each i h).choose else (each 0 (by omega)).choose, fun i hi => ?_⟩
        simp only [hi, dif_pos]
        exact (each i hi).choose_spec
      refine ⟨some a, cap, (List.range len).map (fun i => (f i).1), by simp, by simpa using hl, hm, .inr ?_⟩
      obtain ⟨hs, hb⟩ := elem_spot (hf 0 (by omega)).1 hK0
      obtain ⟨b, off, spot⟩ := a
      dsimp only at hs
      subst hs
      refine ⟨b, off, rfl, hb, fun j z hz => ?_⟩
      rw [List.getElem?_map] at hz
      obtain ⟨i, hi, rfl⟩ := Option.map_eq_some_iff.1 hz
      have hj : j < len := by
        rcases Nat.lt_or_ge j len with g | g
        · exact g
        · rw [List.getElem?_eq_none (by simpa using g)] at hi; cases hi
      obtain rfl : j = i := by simpa [hj] using hi
      exact ⟨(f j).2, (hf j hj).2, elem_cell (hf j hj).1⟩
theorem open_sorts {fuel : Nat} {cs : List Value} {x : DataW H × List MemPlace} (h : DataW.trod enc Try.prog W 0 (fun _ => true) true fuel 24 cs = some x) : ∃ A c l, cs = [.slice A l.length c] ∧ SortsAt W A l := by
  obtain ⟨A, c, l, h1, h2, h3, h4⟩ := open_elems (α := Int × Bool) Try.underlying24 cells44 (by omega) (fun s cs' => cs' = [.int .i64 s.1, .bool s.2]) h (fun n cs' y _ hy hl => by
    obtain ⟨xs, m, _, _, _, hlen, hfs⟩ := DataW.trod_struct Try.underlying44 hy
    match cs', hl with
    | [c0, c1], _ =>
      match xs, hlen with
      | [x0, x1], _ =>
        have g0 : DataW.trod enc Try.prog W 0 (fun _ => true) true m 3 (([c0, c1].drop 0).take (Try.prog.cellsOf 3)) = some x0 := hfs 0 _ rfl
        rw [cells3] at g0
        have g1 : DataW.trod enc Try.prog W 0 (fun _ => true) true m 4 (([c0, c1].drop 1).take (Try.prog.cellsOf 4)) = some x1 := hfs 1 _ rfl
        rw [cells4] at g1
        obtain ⟨k, e0, _, _⟩ := DataW.trod_int Try.underlying3 g0
        obtain ⟨b, e1, _⟩ := DataW.trod_bool Try.underlying4 g1
        cases (show [c0] = [_] from e0)
        cases (show [c1] = [_] from e1)
        exact ⟨(k, b), rfl⟩)
  refine ⟨A, c, l, h1, Nat.le_trans h2 h3, h4.imp id fun ⟨b, off, g1, g2, g3⟩ => ⟨b, off, g1, g2, fun j s hs => ?_⟩⟩
  obtain ⟨cs', rfl, g4⟩ := g3 j s hs
  exact ⟨g4 0 _ rfl, g4 1 _ rfl⟩
/-- a node's cells, with what is below them -/
def NodeC (W : World) (t : NodeT) (cs : List Value) : Prop := cs = t.cells ∧ NodesAt W t.A t.args
theorem open_nodes : ∀ (fuel : Nat) (cs : List Value) (x : DataW H × List MemPlace), DataW.trod enc Try.prog W 0 (fun _ => true) true fuel 23 cs = some x → ∃ A c l, cs = [.slice A l.length c] ∧ NodesAt W A l := by
  intro fuel
  induction fuel using Nat.strongRecOn with
  | ind fuel ih =>
    intro cs x h
    obtain ⟨A, c, l, h1, h2, h3, h4⟩ := open_elems (α := NodeT) Try.underlying23 cells42 (by omega) (NodeC W) h (fun n cs' y hn hy hl => by
      obtain ⟨xs, m, hm, _, _, hlen, hfs⟩ := DataW.trod_struct Try.underlying42 hy
      match cs', hl with
      | [c0, c1, c2, c3, c4, c5, c6, c7, c8, c9], _ =>
        match xs, hlen with
        | [x0, x1, x2, x3, x4, x5, x6], _ =>
          have g0 : DataW.trod enc Try.prog W 0 (fun _ => true) true m 3 (([c0, c1, c2, c3, c4, c5, c6, c7, c8, c9].drop 0).take (Try.prog.cellsOf 3)) = some x0 := hfs 0 _ rfl
          have g1 : DataW.trod enc Try.prog W 0 (fun _ => true) true m 9 (([c0, c1, c2, c3, c4, c5, c6, c7, c8, c9].drop 1).take (Try.prog.cellsOf 9)) = some x1 := hfs 1 _ rfl
          have g2 : DataW.trod enc Try.prog W 0 (fun _ => true) true m 40 (([c0, c1, c2, c3, c4, c5, c6, c7, c8, c9].drop 2).take (Try.prog.cellsOf 40)) = some x2 := hfs 2 _ rfl
          have g3 : DataW.trod enc Try.prog W 0 (fun _ => true) true m 3 (([c0, c1, c2, c3, c4, c5, c6, c7, c8, c9].drop 6).take (Try.prog.cellsOf 3)) = some x3 := hfs 3 _ rfl
          have g4 : DataW.trod enc Try.prog W 0 (fun _ => true) true m 4 (([c0, c1, c2, c3, c4, c5, c6, c7, c8, c9].drop 7).take (Try.prog.cellsOf 4)) = some x4 := hfs 4 _ rfl
          have g5 : DataW.trod enc Try.prog W 0 (fun _ => true) true m 3 (([c0, c1, c2, c3, c4, c5, c6, c7, c8, c9].drop 8).take (Try.prog.cellsOf 3)) = some x5 := hfs 5 _ rfl
          have g6 : DataW.trod enc Try.prog W 0 (fun _ => true) true m 23 (([c0, c1, c2, c3, c4, c5, c6, c7, c8, c9].drop 9).take (Try.prog.cellsOf 23)) = some x6 := hfs 6 _ rfl
          rw [cells3] at g0 g3 g5
          rw [cells9] at g1
          rw [cells40] at g2
          rw [cells4] at g4
          rw [cells23] at g6
          obtain ⟨k, e0, _, _⟩ := DataW.trod_int Try.underlying3 g0
          obtain ⟨o, e1, _, _⟩ := DataW.trod_string Try.underlying9 g1
          obtain ⟨a, e3, _, _⟩ := DataW.trod_int Try.underlying3 g3
          obtain ⟨nt, e4, _⟩ := DataW.trod_bool Try.underlying4 g4
          obtain ⟨ty, e5, _, _⟩ := DataW.trod_int Try.underlying3 g5
          obtain ⟨A, c, l, e6, hN⟩ := ih m (by omega) _ _ g6
          obtain ⟨ys, m2, _, _, _, hlen2, hfs2⟩ := DataW.trod_struct Try.underlying40 g2
          match ys, hlen2 with
          | [y0, y1, y2, y3], _ =>
            have k0 : DataW.trod enc Try.prog W 0 (fun _ => true) true m2 3 (([c2, c3, c4, c5].drop 0).take (Try.prog.cellsOf 3)) = some y0 := hfs2 0 _ rfl
            have k1 : DataW.trod enc Try.prog W 0 (fun _ => true) true m2 2 (([c2, c3, c4, c5].drop 1).take (Try.prog.cellsOf 2)) = some y1 := hfs2 1 _ rfl
            have k2 : DataW.trod enc Try.prog W 0 (fun _ => true) true m2 38 (([c2, c3, c4, c5].drop 2).take (Try.prog.cellsOf 38)) = some y2 := hfs2 2 _ rfl
            have k3 : DataW.trod enc Try.prog W 0 (fun _ => true) true m2 9 (([c2, c3, c4, c5].drop 3).take (Try.prog.cellsOf 9)) = some y3 := hfs2 3 _ rfl
            rw [cells3] at k0
            rw [cells2] at k1
            rw [cells38] at k2
            rw [cells9] at k3
            obtain ⟨lk, f0, _, _⟩ := DataW.trod_int Try.underlying3 k0
            obtain ⟨ln, f1, _, _⟩ := DataW.trod_int Try.underlying2 k1
            obtain ⟨lf, f2⟩ := trod_float Try.underlying38 k2
            obtain ⟨ls, f3, _, _⟩ := DataW.trod_string Try.underlying9 k3
            cases (show [c0] = [_] from e0)
            cases (show [c1] = [_] from e1)
            cases (show [c6] = [_] from e3)
            cases (show [c7] = [_] from e4)
            cases (show [c8] = [_] from e5)
            cases (show [c9] = [_] from e6)
            cases (show [c2] = [_] from f0)
            cases (show [c3] = [_] from f1)
            cases (show [c4] = [_] from f2)
            cases (show [c5] = [_] from f3)
            exact ⟨.mk k o lk ln lf ls a nt ty A c l, rfl, hN⟩)
    refine ⟨A, c, l, h1, ?_⟩
    rcases h4 with rfl | ⟨b, off, rfl, hb, hc⟩
    · exact .nil A
    · refine .mk b off l hb (Nat.le_trans h2 h3) (fun j t ht i v hv => ?_) (fun j t ht => ?_)
      · obtain ⟨cs', ⟨rfl, _⟩, g⟩ := hc j t ht
        exact g i v hv
      · obtain ⟨cs', ⟨_, hN⟩, _⟩ := hc j t ht
        exact hN
/-- a query's cells -/
theorem open_query {fuel : Nat} {cs : List Value} {x : DataW H × List MemPlace} (h : DataW.trod enc Try.prog W 0 (fun _ => true) true fuel 26 cs = some x) (hl : cs.length = 9) : ∃ q, cs = q.cells.toList ∧ QAt W q := by
  obtain ⟨xs, m, _, _, _, hlen, hfs⟩ := DataW.trod_struct Try.underlying26 h
  match cs, hl with
  | [c0, c1, c2, c3, c4, c5, c6, c7, c8], _ =>
    match xs, hlen with
    | [x0, x1, x2, x3, x4, x5, x6, x7, x8], _ =>
      have g0 : DataW.trod enc Try.prog W 0 (fun _ => true) true m 22 (([c0, c1, c2, c3, c4, c5, c6, c7, c8].drop 0).take (Try.prog.cellsOf 22)) = some x0 := hfs 0 _ rfl
      have g1 : DataW.trod enc Try.prog W 0 (fun _ => true) true m 22 (([c0, c1, c2, c3, c4, c5, c6, c7, c8].drop 1).take (Try.prog.cellsOf 22)) = some x1 := hfs 1 _ rfl
      have g2 : DataW.trod enc Try.prog W 0 (fun _ => true) true m 3 (([c0, c1, c2, c3, c4, c5, c6, c7, c8].drop 2).take (Try.prog.cellsOf 3)) = some x2 := hfs 2 _ rfl
      have g3 : DataW.trod enc Try.prog W 0 (fun _ => true) true m 23 (([c0, c1, c2, c3, c4, c5, c6, c7, c8].drop 3).take (Try.prog.cellsOf 23)) = some x3 := hfs 3 _ rfl
      have g4 : DataW.trod enc Try.prog W 0 (fun _ => true) true m 22 (([c0, c1, c2, c3, c4, c5, c6, c7, c8].drop 4).take (Try.prog.cellsOf 22)) = some x4 := hfs 4 _ rfl
      have g5 : DataW.trod enc Try.prog W 0 (fun _ => true) true m 4 (([c0, c1, c2, c3, c4, c5, c6, c7, c8].drop 5).take (Try.prog.cellsOf 4)) = some x5 := hfs 5 _ rfl
      have g6 : DataW.trod enc Try.prog W 0 (fun _ => true) true m 23 (([c0, c1, c2, c3, c4, c5, c6, c7, c8].drop 6).take (Try.prog.cellsOf 23)) = some x6 := hfs 6 _ rfl
      have g7 : DataW.trod enc Try.prog W 0 (fun _ => true) true m 24 (([c0, c1, c2, c3, c4, c5, c6, c7, c8].drop 7).take (Try.prog.cellsOf 24)) = some x7 := hfs 7 _ rfl
      have g8 : DataW.trod enc Try.prog W 0 (fun _ => true) true m 3 (([c0, c1, c2, c3, c4, c5, c6, c7, c8].drop 8).take (Try.prog.cellsOf 3)) = some x8 := hfs 8 _ rfl
      rw [cells22] at g0 g1 g4
      rw [cells3] at g2 g8
      rw [cells23] at g3 g6
      rw [cells4] at g5
      rw [cells24] at g7
      obtain ⟨tA, tc, tabs, e0, h0⟩ := open_ints' g0
      obtain ⟨bA, bc, beg, e1, h1⟩ := open_ints' g1
      obtain ⟨width, e2, _, _⟩ := DataW.trod_int Try.underlying3 g2
      obtain ⟨wA, wc, wh, e3, h3⟩ := open_nodes _ _ _ g3
      obtain ⟨gA, gc, gl, e4, _⟩ := open_ints' g4
      obtain ⟨grouped, e5, _⟩ := DataW.trod_bool Try.underlying4 g5
      obtain ⟨iA, ic, il, e6, _⟩ := open_nodes _ _ _ g6
      obtain ⟨oA, oc, ord, e7, h7⟩ := open_sorts g7
      obtain ⟨limit, e8, _, _⟩ := DataW.trod_int Try.underlying3 g8
      cases (show [c0] = [_] from e0)
      cases (show [c1] = [_] from e1)
      cases (show [c2] = [_] from e2)
      cases (show [c3] = [_] from e3)
      cases (show [c4] = [_] from e4)
      cases (show [c5] = [_] from e5)
      cases (show [c6] = [_] from e6)
      cases (show [c7] = [_] from e7)
      cases (show [c8] = [_] from e8)
      exact ⟨⟨tA, tc, tabs, bA, bc, beg, width, wA, wc, wh, gA, gl.length, gc, grouped, iA, il.length, ic, oA, oc, ord, limit⟩, rfl, h0, h1, h3, h7⟩
theorem query_open {b0 : Nat} {v : Value} {d : DataW H} {p : List MemPlace} (k1 : Value.okWide Try.prog W .any b0 26 v) (h1 : DataW.Trod enc Try.prog W 0 (fun _ => true) true 26 v d p) : ∃ q, v = qV q ∧ QAt W q := by
  obtain ⟨cs, rfl, hsz⟩ := okWide_struct Try.underlying26 k1
  obtain ⟨fuel, hf⟩ := h1
  rw [cells26] at hsz
  obtain ⟨q, e, hq⟩ := open_query hf (by have h : cs.size = 9 := hsz; show cs.toList.length = 9; rw [← h]; simp)
  refine ⟨q, ?_, hq⟩
  unfold qV
  rw [show cs = q.cells from Array.ext' e]
end
end Go.Proofs.Ytcnkghcdjicldaa
