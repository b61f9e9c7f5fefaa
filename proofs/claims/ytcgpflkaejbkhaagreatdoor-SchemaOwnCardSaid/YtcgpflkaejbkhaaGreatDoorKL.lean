/- Schemas, and things that are done, opened: what a parameter, and what an element of a slice, reads as. -/
import Derived.Test.YtcgpflkaejbkhaaGreatDoorKJ
import Derived.ChangeSlices
import Derived.WideShapes
import Derived.OpenShut
namespace Go.Proofs.YtcgpflkaejbkhaaGreatDoor
open Go.RowKit Go.ChangeShapes Go.WideShapes

theorem cells2 : Tryz.prog.cellsOf 2 = 1 := by kernel_rfl
theorem cells3 : Tryz.prog.cellsOf 3 = 1 := by kernel_rfl
theorem cells4 : Tryz.prog.cellsOf 4 = 1 := by kernel_rfl
theorem cells9 : Tryz.prog.cellsOf 9 = 1 := by kernel_rfl
theorem cells22 : Tryz.prog.cellsOf 22 = 1 := by kernel_rfl
theorem cells23 : Tryz.prog.cellsOf 23 = 1 := by kernel_rfl
theorem cells25 : Tryz.prog.cellsOf 25 = 5 := by kernel_rfl
theorem cells26 : Tryz.prog.cellsOf 26 = 1 := by kernel_rfl
theorem cells28 : Tryz.prog.cellsOf 28 = 6 := by kernel_rfl
theorem cells30 : Tryz.prog.cellsOf 30 = 13 := by kernel_rfl
theorem cells33 : Tryz.prog.cellsOf 33 = 1 := by kernel_rfl
theorem cells34 : Tryz.prog.cellsOf 34 = 1 := by kernel_rfl
theorem cells36 : Tryz.prog.cellsOf 36 = 2 := by kernel_rfl
theorem cells42 : Tryz.prog.cellsOf 42 = 3 := by kernel_rfl
theorem addsZ (b off i m : Nat) : ((⟨b, off, none⟩ : Addr).add i).add m = ⟨b, off + i + m, none⟩ := by rw [Addr.add_lit, Addr.add_lit]
section
variable {H : Type} {enc : TypeId × Value → H} {W : World}
theorem elem_spot {a : Addr} {K : Nat} {cs : List Value} (h : W.cells? 0 (a.add (0 * K)) K = some cs) (hK : 0 < K) : a.spot = none ∧ a.block < W.heap.size := by
  obtain ⟨_, hlen, hc⟩ := World.cells?_some h
  have h0 := hc 0 hK
  rw [List.getElem?_eq_getElem (by omega), Nat.zero_mul] at h0
  have e : (a.add 0).add 0 = a := by simp [Addr.add]
  rw [e] at h0
  exact ⟨World.cell?_spot h0, World.block_lt_of_cell? W _ h0⟩
/-- an element's cells -/
theorem elem_cell {b off i K : Nat} {cs : List Value} (h : W.cells? 0 ((⟨b, off, none⟩ : Addr).add (i * K)) K = some cs) : ∀ (m : Nat) (v : Value), cs[m]? = some v → W.cell? ⟨b, off + i * K + m, none⟩ = some v := by
  obtain ⟨_, hlen, hc⟩ := World.cells?_some h
  intro m v hv
  have hm : m < K := by
    rcases Nat.lt_or_ge m K with g | g
    · exact g
    · rw [List.getElem?_eq_none (by omega)] at hv; cases hv
  have := hc m hm
  rw [addsZ, hv] at this
  rw [← this, Nat.add_assoc]
set_option maxRecDepth 100000 in
/-- the elements of a slice, each opened -/
theorem open_elems {α : Type} {t e : TypeId} {K : Nat} (ht : Tryz.prog.underlying t = some (.slice e)) (hK : Tryz.prog.cellsOf e = K) (hK0 : 0 < K) (R : α → List Value → Prop) {fuel : Nat} {cs : List Value} {x : DataW H × List MemPlace} (h : DataW.trod enc Tryz.prog W 0 (fun _ => true) true fuel t cs = some x)
    (hR : ∀ (n : Nat) (cs' : List Value) (y : DataW H × List MemPlace), n < fuel → DataW.trod enc Tryz.prog W 0 (fun _ => true) true n e cs' = some y → cs'.length = K → ∃ a, R a cs') :
    ∃ A c, ∃ l : List α, cs = [.slice A l.length c] ∧ (A = none → c = 0) ∧ l.length ≤ c ∧ c ≤ maxLen ∧ (l = [] ∨ ∃ b off, A = some ⟨b, off, none⟩ ∧ b < W.heap.size ∧ ∀ (j : Nat) (a : α), l[j]? = some a → ∃ cs', R a cs' ∧ ∀ (m : Nat) (v : Value), cs'[m]? = some v → W.cell? ⟨b, off + j * K + m, none⟩ = some v) := by
  rcases DataW.trod_slice ht h with ⟨rfl, _⟩ | ⟨a, len, cap, elems, rest, n, rfl, rfl, _, _, hl, hm, hlen, hel, _, _⟩
  · exact ⟨none, 0, [], rfl, fun _ => rfl, Nat.le_refl _, by unfold maxLen; omega, .inl rfl⟩
  · have each : ∀ i, i < len → ∃ p : α × List Value, W.cells? 0 (a.add (i * K)) K = some p.2 ∧ R p.1 p.2 := fun i hi => by
      have := hel i hi
      rw [hK, List.getElem?_eq_getElem (by omega)] at this
      obtain ⟨cs', h1, h2⟩ := Option.bind_eq_some_iff.1 this
      obtain ⟨r, hr⟩ := hR n cs' _ (Nat.lt_succ_self n) h2 (World.cells?_some h1).2.1
      exact ⟨⟨r, cs'⟩, h1, hr⟩
    by_cases h0 : len = 0
    · subst h0
      exact ⟨some a, cap, [], rfl, (fun h => by cases h), by simp, hm, .inl rfl⟩
    · obtain ⟨f, hf⟩ : ∃ f : Nat → α × List Value, ∀ i, i < len → W.cells? 0 (a.add (i * K)) K = some (f i).2 ∧ R (f i).1 (f i).2 := by
        refine ⟨fun i => if h : i < len then (each i h).choose else (each 0 (by omega)).choose, fun i hi => ?_⟩
        simp only [hi, dif_pos]
        exact (each i hi).choose_spec
      refine ⟨some a, cap, (List.range len).map (fun i => (f i).1), by simp, (fun h => by cases h), by simpa using hl, hm, .inr ?_⟩
      obtain ⟨hs, hb⟩ := elem_spot (hf 0 (by omega)).1 hK0
      obtain ⟨b, off, spot⟩ := a
      dsimp only at hs
      subst hs
      refine ⟨b, off, rfl, hb, fun j z hz => ?_⟩
      rw [List.getElem?_map] at hz
      obtain ⟨i, hi, rfl⟩ := Option.map_eq_some_iff.1 hz
      have hj : j < len := by
        rcases Nat.lt_or_ge j len with g | g
        · exact g
        · rw [List.getElem?_eq_none (by simpa using g)] at hi; cases hi
      obtain rfl : j = i := by simpa [hj] using hi
      exact ⟨(f j).2, (hf j hj).2, elem_cell (hf j hj).1⟩
set_option maxRecDepth 100000 in
theorem open_ints {fuel : Nat} {cs : List Value} {x : DataW H × List MemPlace} (h : DataW.trod enc Tryz.prog W 0 (fun _ => true) true fuel 26 cs = some x) : ∃ (A : Option Addr) (c : Nat) (l : List Int), cs = [.slice A l.length c] ∧ IntsAt W A l ∧ l.length ≤ c ∧ (A = none → c = 0) := by
  obtain ⟨A, c, l, h1, h0, h2, h3, h4⟩ := open_elems (α := Int) Tryz.underlying26 cells3 (by omega) (fun z cs' => cs' = [.int .i64 z]) h (fun n cs' y _ hy hl => by
    obtain ⟨z, e, _, _⟩ := DataW.trod_int Tryz.underlying3 hy
    exact ⟨z, e⟩)
  refine ⟨A, c, l, h1, ⟨Nat.le_trans h2 h3, h4.imp id fun ⟨b, off, g1, g2, g3⟩ => ⟨b, off, g1, g2, fun j z hz => ?_⟩⟩, h2, h0⟩
  obtain ⟨cs', rfl, g4⟩ := g3 j z hz
  have := g4 0 _ rfl
  rwa [Nat.mul_one, Nat.add_zero] at this
set_option maxRecDepth 100000 in
theorem open_cols {fuel : Nat} {cs : List Value} {x : DataW H × List MemPlace} (h : DataW.trod enc Tryz.prog W 0 (fun _ => true) true fuel 23 cs = some x) : ∃ (A : Option Addr) (c : Nat) (l : List Col), cs = [.slice A l.length c] ∧ ColsAt W A l ∧ l.length ≤ c ∧ (A = none → c = 0) := by
  obtain ⟨A, c, l, h1, h0, h2, h3, h4⟩ := open_elems (α := Col) Tryz.underlying23 cells42 (by omega) (fun z cs' => cs' = colL z) h (fun n cs' y _ hy hl => by
    obtain ⟨xs, m, _, _, _, hlen, hfs⟩ := DataW.trod_struct Tryz.underlying42 hy
    match cs', hl with
    | [c0, c1, c2], _ =>
      match xs, hlen with
      | [x0, x1, x2], _ =>
        have g0 : DataW.trod enc Tryz.prog W 0 (fun _ => true) true m 9 (([c0, c1, c2].drop 0).take (Tryz.prog.cellsOf 9)) = some x0 := hfs 0 _ rfl
        have g1 : DataW.trod enc Tryz.prog W 0 (fun _ => true) true m 3 (([c0, c1, c2].drop 1).take (Tryz.prog.cellsOf 3)) = some x1 := hfs 1 _ rfl
        have g2 : DataW.trod enc Tryz.prog W 0 (fun _ => true) true m 4 (([c0, c1, c2].drop 2).take (Tryz.prog.cellsOf 4)) = some x2 := hfs 2 _ rfl
        rw [cells9] at g0
        rw [cells3] at g1
        rw [cells4] at g2
        obtain ⟨a, e0, _, _⟩ := DataW.trod_string Tryz.underlying9 g0
        obtain ⟨k, e1, _, _⟩ := DataW.trod_int Tryz.underlying3 g1
        obtain ⟨b, e2, _⟩ := DataW.trod_bool Tryz.underlying4 g2
        cases (show [c0] = [_] from e0)
        cases (show [c1] = [_] from e1)
        cases (show [c2] = [_] from e2)
        exact ⟨⟨a, k, b⟩, rfl⟩)
  refine ⟨A, c, l, h1, ⟨by rw [List.length_map]; exact Nat.le_trans h2 h3, ?_⟩, h2, h0⟩
  rcases h4 with rfl | ⟨b, off, g1, g2, g3⟩
  · exact Or.inl rfl
  · refine Or.inr ⟨b, off, g1, g2, fun j y hy => ?_⟩
    rw [List.getElem?_map, Option.map_eq_some_iff] at hy
    obtain ⟨z, hz, rfl⟩ := hy
    obtain ⟨cs', rfl, g4⟩ := g3 j z hz
    exact ⟨rfl, g4⟩
set_option maxRecDepth 100000 in
theorem open_tab {fuel : Nat} {cs : List Value} {x : DataW H × List MemPlace} (h : DataW.trod enc Tryz.prog W 0 (fun _ => true) true fuel 25 cs = some x) (hl : cs.length = 5) : ∃ (t : Tab) (l : List Col), cs = tabL t ∧ ReadT W (t, l) := by
  obtain ⟨xs, m, _, _, _, hlen, hfs⟩ := DataW.trod_struct Tryz.underlying25 h
  match cs, hl with
  | [c0, c1, c2, c3, c4], _ =>
    match xs, hlen with
    | [x0, x1, x2, x3, x4], _ =>
      have g0 : DataW.trod enc Tryz.prog W 0 (fun _ => true) true m 9 (([c0, c1, c2, c3, c4].drop 0).take (Tryz.prog.cellsOf 9)) = some x0 := hfs 0 _ rfl
      rw [cells9] at g0
      have g1 : DataW.trod enc Tryz.prog W 0 (fun _ => true) true m 23 (([c0, c1, c2, c3, c4].drop 1).take (Tryz.prog.cellsOf 23)) = some x1 := hfs 1 _ rfl
      rw [cells23] at g1
      have g2 : DataW.trod enc Tryz.prog W 0 (fun _ => true) true m 3 (([c0, c1, c2, c3, c4].drop 2).take (Tryz.prog.cellsOf 3)) = some x2 := hfs 2 _ rfl
      rw [cells3] at g2
      have g3 : DataW.trod enc Tryz.prog W 0 (fun _ => true) true m 2 (([c0, c1, c2, c3, c4].drop 3).take (Tryz.prog.cellsOf 2)) = some x3 := hfs 3 _ rfl
      rw [cells2] at g3
      have g4 : DataW.trod enc Tryz.prog W 0 (fun _ => true) true m 2 (([c0, c1, c2, c3, c4].drop 4).take (Tryz.prog.cellsOf 2)) = some x4 := hfs 4 _ rfl
      rw [cells2] at g4
      obtain ⟨v0, e0, _, _⟩ := DataW.trod_string Tryz.underlying9 g0
      obtain ⟨A1, cc1, l1, e1, f1, p1, q1⟩ := open_cols g1
      obtain ⟨v2, e2, _, _⟩ := DataW.trod_int Tryz.underlying3 g2
      obtain ⟨v3, e3, _, _⟩ := DataW.trod_int Tryz.underlying2 g3
      obtain ⟨v4, e4, _, _⟩ := DataW.trod_int Tryz.underlying2 g4
      cases (show [c0] = [_] from e0)
      cases (show [c1] = [_] from e1)
      cases (show [c2] = [_] from e2)
      cases (show [c3] = [_] from e3)
      cases (show [c4] = [_] from e4)
      exact ⟨⟨v0, A1, l1.length, cc1, v2, v3, v4⟩, l1, rfl, f1, rfl, p1, q1⟩
set_option maxRecDepth 100000 in
theorem open_idx {fuel : Nat} {cs : List Value} {x : DataW H × List MemPlace} (h : DataW.trod enc Tryz.prog W 0 (fun _ => true) true fuel 28 cs = some x) (hl : cs.length = 6) : ∃ (t : Idx) (l : List Int), cs = idxL t ∧ ReadX W (t, l) := by
  obtain ⟨xs, m, _, _, _, hlen, hfs⟩ := DataW.trod_struct Tryz.underlying28 h
  match cs, hl with
  | [c0, c1, c2, c3, c4, c5], _ =>
    match xs, hlen with
    | [x0, x1, x2, x3, x4, x5], _ =>
      have g0 : DataW.trod enc Tryz.prog W 0 (fun _ => true) true m 9 (([c0, c1, c2, c3, c4, c5].drop 0).take (Tryz.prog.cellsOf 9)) = some x0 := hfs 0 _ rfl
      rw [cells9] at g0
      have g1 : DataW.trod enc Tryz.prog W 0 (fun _ => true) true m 9 (([c0, c1, c2, c3, c4, c5].drop 1).take (Tryz.prog.cellsOf 9)) = some x1 := hfs 1 _ rfl
      rw [cells9] at g1
      have g2 : DataW.trod enc Tryz.prog W 0 (fun _ => true) true m 26 (([c0, c1, c2, c3, c4, c5].drop 2).take (Tryz.prog.cellsOf 26)) = some x2 := hfs 2 _ rfl
      rw [cells26] at g2
      have g3 : DataW.trod enc Tryz.prog W 0 (fun _ => true) true m 3 (([c0, c1, c2, c3, c4, c5].drop 3).take (Tryz.prog.cellsOf 3)) = some x3 := hfs 3 _ rfl
      rw [cells3] at g3
      have g4 : DataW.trod enc Tryz.prog W 0 (fun _ => true) true m 3 (([c0, c1, c2, c3, c4, c5].drop 4).take (Tryz.prog.cellsOf 3)) = some x4 := hfs 4 _ rfl
      rw [cells3] at g4
      have g5 : DataW.trod enc Tryz.prog W 0 (fun _ => true) true m 2 (([c0, c1, c2, c3, c4, c5].drop 5).take (Tryz.prog.cellsOf 2)) = some x5 := hfs 5 _ rfl
      rw [cells2] at g5
      obtain ⟨v0, e0, _, _⟩ := DataW.trod_string Tryz.underlying9 g0
      obtain ⟨v1, e1, _, _⟩ := DataW.trod_string Tryz.underlying9 g1
      obtain ⟨A2, cc2, l2, e2, f2, p2, q2⟩ := open_ints g2
      obtain ⟨v3, e3, _, _⟩ := DataW.trod_int Tryz.underlying3 g3
      obtain ⟨v4, e4, _, _⟩ := DataW.trod_int Tryz.underlying3 g4
      obtain ⟨v5, e5, _, _⟩ := DataW.trod_int Tryz.underlying2 g5
      cases (show [c0] = [_] from e0)
      cases (show [c1] = [_] from e1)
      cases (show [c2] = [_] from e2)
      cases (show [c3] = [_] from e3)
      cases (show [c4] = [_] from e4)
      cases (show [c5] = [_] from e5)
      exact ⟨⟨v0, v1, A2, l2.length, cc2, v3, v4, v5⟩, l2, rfl, f2, rfl, p2, q2⟩
set_option maxRecDepth 100000 in
theorem open_tabs {fuel : Nat} {cs : List Value} {x : DataW H × List MemPlace} (h : DataW.trod enc Tryz.prog W 0 (fun _ => true) true fuel 33 cs = some x) : ∃ (A : Option Addr) (c : Nat) (l : List (Tab × List Col)), cs = [.slice A l.length c] ∧ DeepAt W A l := by
  obtain ⟨A, c, l, h1, h0, h2, h3, h4⟩ := open_elems (α := Tab × List Col) Tryz.underlying33 cells25 (by omega) (fun z cs' => cs' = tabL z.1 ∧ ReadT W z) h (fun n cs' y _ hy hl => by
    obtain ⟨t, cl, e, hr⟩ := open_tab hy hl
    exact ⟨(t, cl), e, hr⟩)
  rcases h4 with rfl | ⟨b, off, g1, g2, g3⟩
  · exact ⟨A, c, [], h1, ⟨by unfold maxLen; simp, Or.inl rfl⟩, fun p hp => by cases hp⟩
  · refine ⟨A, c, l, h1, ⟨by rw [List.length_map, List.length_map]; exact Nat.le_trans h2 h3, Or.inr ⟨b, off, g1, g2, fun j y hy => ?_⟩⟩, fun p hp => ?_⟩
    · rw [List.getElem?_map, List.getElem?_map, Option.map_map, Option.map_eq_some_iff] at hy
      obtain ⟨z, hz, rfl⟩ := hy
      obtain ⟨cs', ⟨rfl, _⟩, g4⟩ := g3 j z hz
      exact ⟨rfl, g4⟩
    · obtain ⟨j, hj, rfl⟩ := List.mem_iff_getElem.1 hp
      obtain ⟨cs', ⟨_, hr⟩, _⟩ := g3 j _ (List.getElem?_eq_getElem hj)
      exact hr
set_option maxRecDepth 100000 in
theorem open_idxs {fuel : Nat} {cs : List Value} {x : DataW H × List MemPlace} (h : DataW.trod enc Tryz.prog W 0 (fun _ => true) true fuel 34 cs = some x) : ∃ (A : Option Addr) (c : Nat) (l : List (Idx × List Int)), cs = [.slice A l.length c] ∧ DeepIx W A l := by
  obtain ⟨A, c, l, h1, h0, h2, h3, h4⟩ := open_elems (α := Idx × List Int) Tryz.underlying34 cells28 (by omega) (fun z cs' => cs' = idxL z.1 ∧ ReadX W z) h (fun n cs' y _ hy hl => by
    obtain ⟨t, cl, e, hr⟩ := open_idx hy hl
    exact ⟨(t, cl), e, hr⟩)
  rcases h4 with rfl | ⟨b, off, g1, g2, g3⟩
  · exact ⟨A, c, [], h1, ⟨by unfold maxLen; simp, Or.inl rfl⟩, fun p hp => by cases hp⟩
  · refine ⟨A, c, l, h1, ⟨by rw [List.length_map, List.length_map]; exact Nat.le_trans h2 h3, Or.inr ⟨b, off, g1, g2, fun j y hy => ?_⟩⟩, fun p hp => ?_⟩
    · rw [List.getElem?_map, List.getElem?_map, Option.map_map, Option.map_eq_some_iff] at hy
      obtain ⟨z, hz, rfl⟩ := hy
      obtain ⟨cs', ⟨rfl, _⟩, g4⟩ := g3 j z hz
      exact ⟨rfl, g4⟩
    · obtain ⟨j, hj, rfl⟩ := List.mem_iff_getElem.1 hp
      obtain ⟨cs', ⟨_, hr⟩, _⟩ := g3 j _ (List.getElem?_eq_getElem hj)
      exact hr
set_option maxRecDepth 100000 in
theorem open_schema {fuel : Nat} {cs : List Value} {x : DataW H × List MemPlace} (h : DataW.trod enc Tryz.prog W 0 (fun _ => true) true fuel 36 cs = some x) (hl : cs.length = 2) : ∃ (A : Option Addr) (c : Nat) (ts : List (Tab × List Col)) (ia : Option Addr) (ic : Nat) (xs : List (Idx × List Int)), cs = [.slice A ts.length c, .slice ia xs.length ic] ∧ DeepAt W A ts ∧ DeepIx W ia xs := by
  obtain ⟨xs, m, _, _, _, hlen, hfs⟩ := DataW.trod_struct Tryz.underlying36 h
  match cs, hl with
  | [c0, c1], _ =>
    match xs, hlen with
    | [x0, x1], _ =>
      have g0 : DataW.trod enc Tryz.prog W 0 (fun _ => true) true m 33 (([c0, c1].drop 0).take (Tryz.prog.cellsOf 33)) = some x0 := hfs 0 _ rfl
      rw [cells33] at g0
      have g1 : DataW.trod enc Tryz.prog W 0 (fun _ => true) true m 34 (([c0, c1].drop 1).take (Tryz.prog.cellsOf 34)) = some x1 := hfs 1 _ rfl
      rw [cells34] at g1
      obtain ⟨A0, cc0, l0, e0, f0⟩ := open_tabs g0
      obtain ⟨A1, cc1, l1, e1, f1⟩ := open_idxs g1
      cases (show [c0] = [_] from e0)
      cases (show [c1] = [_] from e1)
      exact ⟨A0, cc0, l0, A1, cc1, l1, rfl, f0, f1⟩
set_option maxRecDepth 100000 in
theorem open_op {fuel : Nat} {cs : List Value} {x : DataW H × List MemPlace} (h : DataW.trod enc Tryz.prog W 0 (fun _ => true) true fuel 30 cs = some x) (hl : cs.length = 13) : ∃ o : Opv, cs = opL o ∧ ReadO W o := by
  obtain ⟨xs, m, _, _, _, hlen, hfs⟩ := DataW.trod_struct Tryz.underlying30 h
  match cs, hl with
  | [c0, c1, c2, c3, c4, c5, c6, c7, c8, c9, c10, c11, c12], _ =>
    match xs, hlen with
    | [x0, x1, x2, x3], _ =>
      have g0 : DataW.trod enc Tryz.prog W 0 (fun _ => true) true m 3 (([c0, c1, c2, c3, c4, c5, c6, c7, c8, c9, c10, c11, c12].drop 0).take (Tryz.prog.cellsOf 3)) = some x0 := hfs 0 _ rfl
      rw [cells3] at g0
      have g1 : DataW.trod enc Tryz.prog W 0 (fun _ => true) true m 25 (([c0, c1, c2, c3, c4, c5, c6, c7, c8, c9, c10, c11, c12].drop 1).take (Tryz.prog.cellsOf 25)) = some x1 := hfs 1 _ rfl
      rw [cells25] at g1
      have g2 : DataW.trod enc Tryz.prog W 0 (fun _ => true) true m 28 (([c0, c1, c2, c3, c4, c5, c6, c7, c8, c9, c10, c11, c12].drop 6).take (Tryz.prog.cellsOf 28)) = some x2 := hfs 2 _ rfl
      rw [cells28] at g2
      have g3 : DataW.trod enc Tryz.prog W 0 (fun _ => true) true m 9 (([c0, c1, c2, c3, c4, c5, c6, c7, c8, c9, c10, c11, c12].drop 12).take (Tryz.prog.cellsOf 9)) = some x3 := hfs 3 _ rfl
      rw [cells9] at g3
      obtain ⟨v0, e0, _, _⟩ := DataW.trod_int Tryz.underlying3 g0
      obtain ⟨t1, l1, e1, f1⟩ := open_tab g1 rfl
      obtain ⟨t2, l2, e2, f2⟩ := open_idx g2 rfl
      obtain ⟨v3, e3, _, _⟩ := DataW.trod_string Tryz.underlying9 g3
      cases (show [c0] = [_] from e0)
      obtain ⟨w1_0, w1_1, w1_2, w1_3, w1_4, w1_5, w1_6⟩ := t1
      cases (show [c1, c2, c3, c4, c5] = [_, _, _, _, _] from e1)
      obtain ⟨w2_0, w2_1, w2_2, w2_3, w2_4, w2_5, w2_6, w2_7⟩ := t2
      cases (show [c6, c7, c8, c9, c10, c11] = [_, _, _, _, _, _] from e2)
      cases (show [c12] = [_] from e3)
      exact ⟨⟨v0, _, l1, _, l2, v3⟩, rfl, f1, f2⟩
set_option maxRecDepth 100000 in
theorem open_ops {fuel : Nat} {cs : List Value} {x : DataW H × List MemPlace} (h : DataW.trod enc Tryz.prog W 0 (fun _ => true) true fuel 22 cs = some x) : ∃ (A : Option Addr) (c : Nat) (l : List Opv), cs = [.slice A l.length c] ∧ OpsAt W A l := by
  obtain ⟨A, c, l, h1, h0, h2, h3, h4⟩ := open_elems (α := Opv) Tryz.underlying22 cells30 (by omega) (fun z cs' => cs' = opL z ∧ ReadO W z) h (fun n cs' y _ hy hl => open_op hy hl)
  rcases h4 with rfl | ⟨b, off, g1, g2, g3⟩
  · exact ⟨A, c, [], h1, ⟨by unfold maxLen; simp, Or.inl rfl⟩, fun p hp => by cases hp⟩
  · refine ⟨A, c, l, h1, ⟨by rw [List.length_map]; exact Nat.le_trans h2 h3, Or.inr ⟨b, off, g1, g2, fun j y hy => ?_⟩⟩, fun p hp => ?_⟩
    · rw [List.getElem?_map, Option.map_eq_some_iff] at hy
      obtain ⟨z, hz, rfl⟩ := hy
      obtain ⟨cs', ⟨rfl, _⟩, g4⟩ := g3 j z hz
      exact ⟨rfl, g4⟩
    · obtain ⟨j, hj, rfl⟩ := List.mem_iff_getElem.1 hp
      obtain ⟨cs', ⟨_, hr⟩, _⟩ := g3 j _ (List.getElem?_eq_getElem hj)
      exact hr
set_option maxRecDepth 100000 in
theorem schema_open {b0 : Nat} {v : Value} {d : DataW H} {p : List MemPlace} (k1 : Value.okWide Tryz.prog W .any b0 36 v) (h1 : DataW.Trod enc Tryz.prog W 0 (fun _ => true) true 36 v d p) : ∃ (A : Option Addr) (c : Nat) (ts : List (Tab × List Col)) (ia : Option Addr) (ic : Nat) (xs : List (Idx × List Int)), v = .agg #[.slice A ts.length c, .slice ia xs.length ic] ∧ DeepAt W A ts ∧ DeepIx W ia xs := by
  obtain ⟨cs, rfl, hsz⟩ := okWide_struct Tryz.underlying36 k1
  obtain ⟨fuel, hf⟩ := h1
  rw [cells36] at hsz
  obtain ⟨A, c, ts, ia, ic, xs, e, hD, hX⟩ := open_schema hf (by have h : cs.size = 2 := hsz; show cs.toList.length = 2; rw [← h]; simp)
  exact ⟨A, c, ts, ia, ic, xs, by rw [show cs = #[.slice A ts.length c, .slice ia xs.length ic] from Array.ext' e], hD, hX⟩
set_option maxRecDepth 100000 in
theorem op_open {b0 : Nat} {v : Value} {d : DataW H} {p : List MemPlace} (k1 : Value.okWide Tryz.prog W .any b0 30 v) (h1 : DataW.Trod enc Tryz.prog W 0 (fun _ => true) true 30 v d p) : ∃ o : Opv, v = .agg (opL o).toArray ∧ ReadO W o := by
  obtain ⟨cs, rfl, hsz⟩ := okWide_struct Tryz.underlying30 k1
  obtain ⟨fuel, hf⟩ := h1
  rw [cells30] at hsz
  obtain ⟨o, e, hO⟩ := open_op hf (by have h : cs.size = 13 := hsz; show cs.toList.length = 13; rw [← h]; simp)
  exact ⟨o, by rw [show cs = (opL o).toArray from Array.ext' e], hO⟩
end
end Go.Proofs.YtcgpflkaejbkhaaGreatDoor
