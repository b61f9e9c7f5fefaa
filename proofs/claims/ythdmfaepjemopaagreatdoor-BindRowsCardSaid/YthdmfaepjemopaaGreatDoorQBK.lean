/- The arguments of bind's statements, opened: what a parameter, and what an element of a slice, reads as. A table and the rows of an insert that are handed in, opened. The law BindRows at any table and any rows. -/
import Derived.Test.YthdmfaepjemopaaGreatDoorQAZ
import Derived.Test.YthdmfaepjemopaaGreatDoorQAY
import Derived.ChangeSlices
import Derived.WideShapes
import Derived.OpenShut
import Derived.SizedLaws
import Derived.Test.YthdmfaepjemopaaGreatDoorQBJ
namespace Go.Proofs.YthdmfaepjemopaaGreatDoor
open Go.RowKit Go.ChangeShapes Go.WideShapes

theorem cells2 : Tryz.prog.cellsOf 2 = 1 := by kernel_rfl
theorem cells3 : Tryz.prog.cellsOf 3 = 1 := by kernel_rfl
theorem cells4 : Tryz.prog.cellsOf 4 = 1 := by kernel_rfl
theorem cells9 : Tryz.prog.cellsOf 9 = 1 := by kernel_rfl
theorem cells26 : Tryz.prog.cellsOf 26 = 1 := by kernel_rfl
theorem cells29 : Tryz.prog.cellsOf 29 = 1 := by kernel_rfl
theorem cells37 : Tryz.prog.cellsOf 37 = 1 := by kernel_rfl
theorem cells39 : Tryz.prog.cellsOf 39 = 4 := by kernel_rfl
theorem cells41 : Tryz.prog.cellsOf 41 = 10 := by kernel_rfl
theorem cells65 : Tryz.prog.cellsOf 65 = 5 := by kernel_rfl
theorem cells81 : Tryz.prog.cellsOf 81 = 3 := by kernel_rfl
theorem addsZ (b off i m : Nat) : ((⟨b, off, none⟩ : Addr).add i).add m = ⟨b, off + i + m, none⟩ := by rw [Addr.add_lit, Addr.add_lit]
section
variable {H : Type} {enc : TypeId × Value → H} {W : World}
def LtD (t : TypeId) (d : DataW H) : Prop := ∀ n ∈ d.weights Tryz.prog t, n ≤ reachBytes
theorem lt_field {t : TypeId} {fs : Array Field} (hu : Tryz.prog.underlying t = some (.struct fs)) {xs : List (DataW H × List MemPlace)} (h : LtD t (.agg (xs.map (·.1)))) {j : Nat} {f : Field} {x : DataW H × List MemPlace} (hf : fs[j]? = some f) (hx : xs[j]? = some x) : LtD f.type x.1 := fun n hn => h n (by
  simp only [DataW.weights, hu]
  exact DataW.weights_mem_each (j := j) (by simp [hf]) (by simp [hx]) n hn)
theorem weights_all {e : TypeId} {n : Nat} : ∀ {l : List (DataW H)} {d : DataW H}, d ∈ l → n ∈ d.weights Tryz.prog e → n ∈ DataW.weightsAll Tryz.prog e l
  | z :: l, d, hd, hn => by
    simp only [DataW.weightsAll, List.mem_append]
    rcases List.mem_cons.1 hd with rfl | hd
    · exact Or.inl hn
    · exact Or.inr (weights_all hd hn)
theorem lt_elem {t e : TypeId} (hu : Tryz.prog.underlying t = some (.slice e)) {l r : List (DataW H)} (h : LtD t (.slice l r)) {d : DataW H} (hd : d ∈ l) : LtD e d := fun n hn => h n (by
  simp only [DataW.weights, hu, List.mem_cons, List.mem_append]
  exact Or.inr (Or.inl (weights_all hd hn)))
theorem lt_text {t : TypeId} {l : List UInt8} (h : LtD (H := H) t (.lit (.string l))) : l.length ≤ 2 ^ 47 := by
  have := h l.length (by simp [DataW.weights])
  unfold reachBytes at this
  omega
theorem trod_float {P : Program} {t : TypeId} {k : FloatKind} {w : World} {base : Nat} {sp : Nat → Bool} {held : Bool} {fuel : Nat} {cs : List Value} {x : DataW H × List MemPlace}
    (ht : P.underlying t = some (.float k)) (h : DataW.trod enc P w base sp held fuel t cs = some x) : ∃ n, cs = [.float k n] := by
  cases fuel with
  | zero => simp [DataW.trod] at h
  | succ n =>
    unfold DataW.trod at h
    rw [ht] at h
    split at h <;> simp_all
theorem elem_spot {a : Addr} {K : Nat} {cs : List Value} (h : W.cells? 0 (a.add (0 * K)) K = some cs) (hK : 0 < K) : a.spot = none ∧ a.block < W.heap.size := by
  obtain ⟨_, hlen, hc⟩ := World.cells?_some h
  have h0 := hc 0 hK
  rw [List.getElem?_eq_getElem (by omega), Nat.zero_mul] at h0
  have e : (a.add 0).add 0 = a := by simp [Addr.add]
  rw [e] at h0
  exact ⟨World.cell?_spot h0, World.block_lt_of_cell? W _ h0⟩
theorem elem_cell {b off i K : Nat} {cs : List Value} (h : W.cells? 0 ((⟨b, off, none⟩ : Addr).add (i * K)) K = some cs) : ∀ (m : Nat) (v : Value), cs[m]? = some v → W.cell? ⟨b, off + i * K + m, none⟩ = some v := by
  obtain ⟨_, hlen, hc⟩ := World.cells?_some h
  intro m v hv
  have hm : m < K := by
    rcases Nat.lt_or_ge m K with g | g
    · exact g
    · rw [List.getElem?_eq_none (by omega)] at hv; cases hv
  have := hc m hm
  rw [addsZ, hv] at this
  rw [← this, Nat.add_assoc]
set_option maxRecDepth 100000 in
theorem open_elems {α : Type} {t e : TypeId} {K : Nat} (ht : Tryz.prog.underlying t = some (.slice e)) (hK : Tryz.prog.cellsOf e = K) (hK0 : 0 < K) (F : α → List Value) (hF : ∀ a, (F a).length = K) (R : α → Prop) {fuel : Nat} {cs : List Value} {x : DataW H × List MemPlace} (h : DataW.trod enc Tryz.prog W 0 (fun _ => true) true fuel t cs = some x) (hw : LtD t x.1)
    (hR : ∀ (n : Nat) (cs' : List Value) (y : DataW H × List MemPlace), n < fuel → DataW.trod enc Tryz.prog W 0 (fun _ => true) true n e cs' = some y → LtD e y.1 → cs'.length = K → ∃ a, cs' = F a ∧ R a) :
    ∃ A c, ∃ l : List α, cs = [.slice A l.length c] ∧ (A = none → c = 0) ∧ l.length ≤ c ∧ CellsAt W K A (l.map F) ∧ ∀ a ∈ l, R a := by
  rcases DataW.trod_slice ht h with ⟨rfl, _⟩ | ⟨a, len, cap, elems, rest, n, rfl, rfl, hx, _, hl, hm, hlen, hel, _, _⟩
  · exact ⟨none, 0, [], rfl, fun _ => rfl, Nat.le_refl _, CellsAt.nil_at _ _ _, fun a ha => by cases ha⟩
  · rw [hx] at hw
    have each : ∀ i, i < len → ∃ p : α, W.cells? 0 (a.add (i * K)) K = some (F p) ∧ R p := fun i hi => by
      have := hel i hi
      rw [hK, List.getElem?_eq_getElem (by omega)] at this
      obtain ⟨cs', h1, h2⟩ := Option.bind_eq_some_iff.1 this
      obtain ⟨r, rfl, hr⟩ := hR n cs' _ (Nat.lt_succ_self n) h2 (lt_elem ht hw (List.mem_map.2 ⟨_, List.getElem_mem (by omega), rfl⟩)) (World.cells?_some h1).2.1
      exact ⟨r, h1, hr⟩
    by_cases h0 : len = 0
    · subst h0
      exact ⟨some a, cap, [], rfl, (fun h => by cases h), by simp, CellsAt.nil_at _ _ _, fun a ha => by cases ha⟩
    · obtain ⟨f, hf⟩ : ∃ f : Nat → α, ∀ i, i < len → W.cells? 0 (a.add (i * K)) K = some (F (f i)) ∧ R (f i) := by
        refine ⟨fun i => if h : i < len then (each i h).choose else (each 0 (by omega)).choose, fun i hi => ?_⟩
        simp only [hi, dif_pos]
        exact (each i hi).choose_spec
      obtain ⟨hs, hb⟩ := elem_spot (hf 0 (by omega)).1 hK0
      obtain ⟨b, off, spot⟩ := a
      dsimp only at hs
      subst hs
      refine ⟨some ⟨b, off, none⟩, cap, (List.range len).map f, by simp, (fun h => by cases h), by simpa using hl, ⟨?_, Or.inr ⟨b, off, rfl, hb, fun j z hz => ?_⟩⟩, fun y hy => ?_⟩
      · rw [List.length_map, List.length_map, List.length_range]
        omega
      · rw [List.getElem?_map, List.getElem?_map, Option.map_map, Option.map_eq_some_iff] at hz
        obtain ⟨i, hi, rfl⟩ := hz
        have hj : j < len := by
          rcases Nat.lt_or_ge j len with g | g
          · exact g
          · rw [List.getElem?_eq_none (by simpa using g)] at hi; cases hi
        obtain rfl : j = i := by simpa [hj] using hi
        exact ⟨hF _, elem_cell (hf j hj).1⟩
      · obtain ⟨i, hi, rfl⟩ := List.mem_map.1 hy
        exact (hf i (by simpa using hi)).2
set_option maxRecDepth 100000 in
theorem open_cols {fuel : Nat} {cs : List Value} {x : DataW H × List MemPlace} (h : DataW.trod enc Tryz.prog W 0 (fun _ => true) true fuel 26 cs = some x) (hw : LtD 26 x.1) : ∃ (A : Option Addr) (c : Nat) (l : List Col), cs = [.slice A l.length c] ∧ ColsAt W A l ∧ l.length ≤ c ∧ (A = none → c = 0) := by
  obtain ⟨A, c, l, h1, h0, h2, h3, _⟩ := open_elems (α := Col) Tryz.underlying26 cells81 (by omega) colL (fun _ => rfl) (fun _ => True) h hw (fun n cs y _ h hw hl => by
    obtain ⟨xs, m, hm, hx, _, hlen, hfs⟩ := DataW.trod_struct Tryz.underlying81 h
    rw [hx] at hw
    match cs, hl with
    | [c0, c1, c2], _ =>
      match xs, hlen with
      | [x0, x1, x2], _ =>
        have g0 : DataW.trod enc Tryz.prog W 0 (fun _ => true) true m 9 (([c0, c1, c2].drop 0).take (Tryz.prog.cellsOf 9)) = some x0 := hfs 0 _ rfl
        have l0 : LtD 9 x0.1 := lt_field Tryz.underlying81 hw (j := 0) rfl rfl
        rw [cells9] at g0
        have g1 : DataW.trod enc Tryz.prog W 0 (fun _ => true) true m 3 (([c0, c1, c2].drop 1).take (Tryz.prog.cellsOf 3)) = some x1 := hfs 1 _ rfl
        have l1 : LtD 3 x1.1 := lt_field Tryz.underlying81 hw (j := 1) rfl rfl
        rw [cells3] at g1
        have g2 : DataW.trod enc Tryz.prog W 0 (fun _ => true) true m 4 (([c0, c1, c2].drop 2).take (Tryz.prog.cellsOf 4)) = some x2 := hfs 2 _ rfl
        have l2 : LtD 4 x2.1 := lt_field Tryz.underlying81 hw (j := 2) rfl rfl
        rw [cells4] at g2
        obtain ⟨a, e0, z0, _⟩ := DataW.trod_string Tryz.underlying9 g0
        obtain ⟨k, e1, _, _⟩ := DataW.trod_int Tryz.underlying3 g1
        obtain ⟨b, e2, _⟩ := DataW.trod_bool Tryz.underlying4 g2
        cases (show [c0] = [_] from e0)
        cases (show [c1] = [_] from e1)
        cases (show [c2] = [_] from e2)
        exact ⟨⟨a, k, b⟩, rfl, trivial⟩)
  exact ⟨A, c, l, h1, h3, h2, h0⟩
def ReadT (W : World) (p : Tab × List Col) : Prop := ColsAt W p.1.ca p.2 ∧ p.1.cn = p.2.length ∧ p.2.length ≤ p.1.cc ∧ (p.1.ca = none → p.1.cc = 0)
set_option maxRecDepth 100000 in
theorem open_tab {fuel : Nat} {cs : List Value} {x : DataW H × List MemPlace} (h : DataW.trod enc Tryz.prog W 0 (fun _ => true) true fuel 65 cs = some x) (hw : LtD 65 x.1) (hl : cs.length = 5) : ∃ z : Tab × List Col, cs = tabL z.1 ∧ ReadT W z := by
    obtain ⟨xs, m, hm, hx, _, hlen, hfs⟩ := DataW.trod_struct Tryz.underlying65 h
    rw [hx] at hw
    match cs, hl with
    | [c0, c1, c2, c3, c4], _ =>
      match xs, hlen with
      | [x0, x1, x2, x3, x4], _ =>
        have g0 : DataW.trod enc Tryz.prog W 0 (fun _ => true) true m 9 (([c0, c1, c2, c3, c4].drop 0).take (Tryz.prog.cellsOf 9)) = some x0 := hfs 0 _ rfl
        have l0 : LtD 9 x0.1 := lt_field Tryz.underlying65 hw (j := 0) rfl rfl
        rw [cells9] at g0
        have g1 : DataW.trod enc Tryz.prog W 0 (fun _ => true) true m 26 (([c0, c1, c2, c3, c4].drop 1).take (Tryz.prog.cellsOf 26)) = some x1 := hfs 1 _ rfl
        have l1 : LtD 26 x1.1 := lt_field Tryz.underlying65 hw (j := 1) rfl rfl
        rw [cells26] at g1
        have g2 : DataW.trod enc Tryz.prog W 0 (fun _ => true) true m 3 (([c0, c1, c2, c3, c4].drop 2).take (Tryz.prog.cellsOf 3)) = some x2 := hfs 2 _ rfl
        have l2 : LtD 3 x2.1 := lt_field Tryz.underlying65 hw (j := 2) rfl rfl
        rw [cells3] at g2
        have g3 : DataW.trod enc Tryz.prog W 0 (fun _ => true) true m 2 (([c0, c1, c2, c3, c4].drop 3).take (Tryz.prog.cellsOf 2)) = some x3 := hfs 3 _ rfl
        have l3 : LtD 2 x3.1 := lt_field Tryz.underlying65 hw (j := 3) rfl rfl
        rw [cells2] at g3
        have g4 : DataW.trod enc Tryz.prog W 0 (fun _ => true) true m 2 (([c0, c1, c2, c3, c4].drop 4).take (Tryz.prog.cellsOf 2)) = some x4 := hfs 4 _ rfl
        have l4 : LtD 2 x4.1 := lt_field Tryz.underlying65 hw (j := 4) rfl rfl
        rw [cells2] at g4
        obtain ⟨v0, e0, z0, _⟩ := DataW.trod_string Tryz.underlying9 g0
        obtain ⟨A1, cc1, q1, e1, f1, p1, r1⟩ := open_cols g1 l1
        obtain ⟨v2, e2, _, _⟩ := DataW.trod_int Tryz.underlying3 g2
        obtain ⟨v3, e3, _, _⟩ := DataW.trod_int Tryz.underlying2 g3
        obtain ⟨v4, e4, _, _⟩ := DataW.trod_int Tryz.underlying2 g4
        cases (show [c0] = [_] from e0)
        cases (show [c1] = [_] from e1)
        cases (show [c2] = [_] from e2)
        cases (show [c3] = [_] from e3)
        cases (show [c4] = [_] from e4)
        exact ⟨(⟨v0, A1, q1.length, cc1, v2, v3, v4⟩, q1), rfl, f1, rfl, p1, r1⟩
def XS (W : World) (n : Nat) (x : Ex) : Prop := ExAt W n x ∧ StrX n x
theorem XS.up {W : World} : ∀ {n : Nat} {x : Ex}, XS W n x → XS W (n + 1) x
  | 0, _, h => h.1.elim
  | _n + 1, _x, h => ⟨⟨h.1.1, fun a ha => (XS.up ⟨h.1.2 a ha, h.2.2 a ha⟩).1⟩, h.2.1, fun a ha => (XS.up ⟨h.1.2 a ha, h.2.2 a ha⟩).2⟩
theorem XS.mono {W : World} {n m : Nat} {x : Ex} (h : XS W n x) (hm : n ≤ m) : XS W m x := by
  induction hm with
  | refl => exact h
  | step _ ih => exact ih.up
theorem text_le {s : ByteArray} {t : TypeId} {x : DataW H × List MemPlace} (hx : x = (.lit (.string s.data.toList), [])) (h : LtD t x.1) : s.size ≤ 2 ^ 47 := by
  rw [hx] at h
  have := lt_text h
  simpa using this
set_option maxRecDepth 100000 in
set_option maxHeartbeats 1000000 in
theorem open_expr : ∀ (fuel : Nat) (cs : List Value) (x : DataW H × List MemPlace), DataW.trod enc Tryz.prog W 0 (fun _ => true) true fuel 41 cs = some x → LtD 41 x.1 → cs.length = 10 → ∃ y, cs = exL y ∧ XS W fuel y := by
  intro fuel
  induction fuel using Nat.strongRecOn with
  | ind fuel ih =>
    intro cs x h hw hl
    obtain ⟨xs, m, hm, hx, _, hlen, hfs⟩ := DataW.trod_struct Tryz.underlying41 h
    rw [hx] at hw
    match cs, hl with
    | [c0, c1, c2, c3, c4, c5, c6, c7, c8, c9], _ =>
      match xs, hlen with
      | [x0, x1, x2, x3, x4, x5, x6], _ =>
        have g0 : DataW.trod enc Tryz.prog W 0 (fun _ => true) true m 3 (([c0, c1, c2, c3, c4, c5, c6, c7, c8, c9].drop 0).take (Tryz.prog.cellsOf 3)) = some x0 := hfs 0 _ rfl
        have l0 : LtD 3 x0.1 := lt_field Tryz.underlying41 hw (j := 0) rfl rfl
        rw [cells3] at g0
        have g1 : DataW.trod enc Tryz.prog W 0 (fun _ => true) true m 9 (([c0, c1, c2, c3, c4, c5, c6, c7, c8, c9].drop 1).take (Tryz.prog.cellsOf 9)) = some x1 := hfs 1 _ rfl
        have l1 : LtD 9 x1.1 := lt_field Tryz.underlying41 hw (j := 1) rfl rfl
        rw [cells9] at g1
        have g2 : DataW.trod enc Tryz.prog W 0 (fun _ => true) true m 39 (([c0, c1, c2, c3, c4, c5, c6, c7, c8, c9].drop 2).take (Tryz.prog.cellsOf 39)) = some x2 := hfs 2 _ rfl
        have l2 : LtD 39 x2.1 := lt_field Tryz.underlying41 hw (j := 2) rfl rfl
        rw [cells39] at g2
        have g3 : DataW.trod enc Tryz.prog W 0 (fun _ => true) true m 9 (([c0, c1, c2, c3, c4, c5, c6, c7, c8, c9].drop 6).take (Tryz.prog.cellsOf 9)) = some x3 := hfs 3 _ rfl
        have l3 : LtD 9 x3.1 := lt_field Tryz.underlying41 hw (j := 3) rfl rfl
        rw [cells9] at g3
        have g4 : DataW.trod enc Tryz.prog W 0 (fun _ => true) true m 9 (([c0, c1, c2, c3, c4, c5, c6, c7, c8, c9].drop 7).take (Tryz.prog.cellsOf 9)) = some x4 := hfs 4 _ rfl
        have l4 : LtD 9 x4.1 := lt_field Tryz.underlying41 hw (j := 4) rfl rfl
        rw [cells9] at g4
        have g5 : DataW.trod enc Tryz.prog W 0 (fun _ => true) true m 4 (([c0, c1, c2, c3, c4, c5, c6, c7, c8, c9].drop 8).take (Tryz.prog.cellsOf 4)) = some x5 := hfs 5 _ rfl
        have l5 : LtD 4 x5.1 := lt_field Tryz.underlying41 hw (j := 5) rfl rfl
        rw [cells4] at g5
        have g6 : DataW.trod enc Tryz.prog W 0 (fun _ => true) true m 29 (([c0, c1, c2, c3, c4, c5, c6, c7, c8, c9].drop 9).take (Tryz.prog.cellsOf 29)) = some x6 := hfs 6 _ rfl
        have l6 : LtD 29 x6.1 := lt_field Tryz.underlying41 hw (j := 6) rfl rfl
        rw [cells29] at g6
        obtain ⟨k, e0, _, _⟩ := DataW.trod_int Tryz.underlying3 g0
        obtain ⟨o, e1, z1, _⟩ := DataW.trod_string Tryz.underlying9 g1
        obtain ⟨tn, e3, z3, _⟩ := DataW.trod_string Tryz.underlying9 g3
        obtain ⟨nm, e4, z4, _⟩ := DataW.trod_string Tryz.underlying9 g4
        obtain ⟨ng, e5, _⟩ := DataW.trod_bool Tryz.underlying4 g5
        obtain ⟨A, c, l, e6, _, _, hC, hE⟩ := open_elems (α := Ex) Tryz.underlying29 cells41 (by omega) exL (fun _ => rfl) (XS W m) g6 l6 (fun n cs' y hn hy hw' hl' => by
          obtain ⟨z, e, hz⟩ := ih n (by omega) cs' y hy hw' hl'
          exact ⟨z, e, hz.mono (by omega)⟩)
        obtain ⟨ys, m2, _, _, _, hlen2, hfs2⟩ := DataW.trod_struct Tryz.underlying39 g2
        match ys, hlen2 with
        | [y0, y1, y2, y3], _ =>
          have k0 : DataW.trod enc Tryz.prog W 0 (fun _ => true) true m2 3 (([c2, c3, c4, c5].drop 0).take (Tryz.prog.cellsOf 3)) = some y0 := hfs2 0 _ rfl
          have k1 : DataW.trod enc Tryz.prog W 0 (fun _ => true) true m2 2 (([c2, c3, c4, c5].drop 1).take (Tryz.prog.cellsOf 2)) = some y1 := hfs2 1 _ rfl
          have k2 : DataW.trod enc Tryz.prog W 0 (fun _ => true) true m2 37 (([c2, c3, c4, c5].drop 2).take (Tryz.prog.cellsOf 37)) = some y2 := hfs2 2 _ rfl
          have k3 : DataW.trod enc Tryz.prog W 0 (fun _ => true) true m2 9 (([c2, c3, c4, c5].drop 3).take (Tryz.prog.cellsOf 9)) = some y3 := hfs2 3 _ rfl
          rw [cells3] at k0
          rw [cells2] at k1
          rw [cells37] at k2
          rw [cells9] at k3
          obtain ⟨lk, u0, _, _⟩ := DataW.trod_int Tryz.underlying3 k0
          obtain ⟨ln, u1, _, _⟩ := DataW.trod_int Tryz.underlying2 k1
          obtain ⟨lf, u2⟩ := trod_float Tryz.underlying37 k2
          obtain ⟨ls, u3, _, _⟩ := DataW.trod_string Tryz.underlying9 k3
          cases (show [c0] = [_] from e0)
          cases (show [c1] = [_] from e1)
          cases (show [c2] = [_] from u0)
          cases (show [c3] = [_] from u1)
          cases (show [c4] = [_] from u2)
          cases (show [c5] = [_] from u3)
          cases (show [c6] = [_] from e3)
          cases (show [c7] = [_] from e4)
          cases (show [c8] = [_] from e5)
          cases (show [c9] = [_] from e6)
          subst hm
          refine ⟨.mk k o ⟨lk, ln, lf, ls⟩ tn nm ng A c l, rfl, ⟨hC, fun a ha => (hE a ha).1⟩, ⟨text_le z4 l4, text_le z3 l3, text_le z1 l1⟩, fun a ha => (hE a ha).2⟩
theorem open_exprs {fuel : Nat} {cs : List Value} {x : DataW H × List MemPlace} (h : DataW.trod enc Tryz.prog W 0 (fun _ => true) true fuel 29 cs = some x) (hw : LtD 29 x.1) : ∃ (A : Option Addr) (c : Nat) (l : List Ex), cs = [.slice A l.length c] ∧ ExsAt W fuel A l ∧ ∀ y ∈ l, StrX fuel y := by
  obtain ⟨A, c, l, h1, _, _, h3, h4⟩ := open_elems (α := Ex) Tryz.underlying29 cells41 (by omega) exL (fun _ => rfl) (XS W fuel) h hw (fun n cs' y hn hy hw' hl' => by
    obtain ⟨z, e, hz⟩ := open_expr n cs' y hy hw' hl'
    exact ⟨z, e, hz.mono (by omega)⟩)
  exact ⟨A, c, l, h1, ⟨h3, fun a ha => (h4 a ha).1⟩, fun y hy => (h4 y hy).2⟩
end
end Go.Proofs.YthdmfaepjemopaaGreatDoor
namespace Go.Proofs.YthdmfaepjemopaaGreatDoor
open Go.RowKit Go.ChangeShapes Go.WideShapes

section
variable {H : Type} {enc : TypeId × Value → H} {W : World}
set_option maxRecDepth 100000 in
theorem table_open {b0 : Nat} {v : Value} {d : DataW H} {p : List MemPlace} (k1 : Value.okWide Tryz.prog W .any b0 65 v) (h1 : DataW.Trod enc Tryz.prog W 0 (fun _ => true) true 65 v d p) (hw : LtD 65 d) : ∃ (t : Tab) (cs : List Col), v = .agg (tabL t).toArray ∧ ReadT W (t, cs) := by
  obtain ⟨cs, rfl, hsz⟩ := okWide_struct Tryz.underlying65 k1
  obtain ⟨fuel, hf⟩ := h1
  rw [cells65] at hsz
  have h : cs.size = 5 := hsz
  obtain ⟨z, e, hz⟩ := open_tab hf hw (by show cs.toList.length = 5; rw [← h]; simp)
  exact ⟨z.1, z.2, by rw [show cs = (tabL z.1).toArray from Array.ext' e], hz⟩
def ReadX (W : World) (n : Nat) (r : XRow) : Prop := ExsAt W n r.A r.xs ∧ ∀ y ∈ r.xs, StrX n y
theorem ReadX.mono {W : World} {n m : Nat} {r : XRow} (h : ReadX W n r) (hm : n ≤ m) : ReadX W m r :=
  ⟨⟨h.1.1, fun a ha => (XS.mono ⟨h.1.2 a ha, h.2 a ha⟩ hm).1⟩, fun a ha => (XS.mono ⟨h.1.2 a ha, h.2 a ha⟩ hm).2⟩
set_option maxRecDepth 100000 in
theorem rows_open {b0 : Nat} {v : Value} {d : DataW H} {p : List MemPlace} (k1 : Value.okWide Tryz.prog W .any b0 27 v) (h1 : DataW.Trod enc Tryz.prog W 0 (fun _ => true) true 27 v d p) (hw : LtD 27 d) : ∃ (n : Nat) (A : Option Addr) (c : Nat) (l : List XRow), v = .slice A l.length c ∧ YRowsAt W n A l := by
  obtain ⟨a, len, cap, rfl⟩ := okWide_slice Tryz.underlying27 k1
  obtain ⟨fuel, hf⟩ := h1
  obtain ⟨A, c, l, e, _, _, hC, hE⟩ := open_elems (α := XRow) Tryz.underlying27 cells29 (by omega) (fun r => [.slice r.A r.xs.length r.c]) (fun _ => rfl) (ReadX W fuel) hf hw (fun n cs' y hn hy hw' hl' => by
    obtain ⟨A, c, l, e, hx, hs⟩ := open_exprs hy hw'
    exact ⟨⟨A, c, l⟩, e, ReadX.mono (r := ⟨A, c, l⟩) ⟨hx, hs⟩ (by omega)⟩)
  have e2 : ([.slice a len cap] : List Value) = [.slice A l.length c] := e
  cases e2
  exact ⟨fuel, _, _, l, rfl, hC, fun r hr => hE r hr⟩
end
end Go.Proofs.YthdmfaepjemopaaGreatDoor
namespace Go.Proofs.YthdmfaepjemopaaGreatDoor
open Go.RowKit

theorem rows_any (n : Nat) (t : Tab) (cl : List Col) (B : Option Addr) (cB : Nat) (l : List XRow) (W : World) (hT : ReadT W (t, cl)) (hL : YRowsAt W n B l) : Calls Tryz.prog 5 #[.agg (tabL t).toArray, .slice B l.length cB] W (RetV (.bool true) W) := by
  obtain ⟨v0, A1, cn, cc, v2, v3, v4⟩ := t
  obtain ⟨hC, hn, _, _⟩ := hT
  dsimp only at hC hn
  subst hn
  exact rows_any0 n W v0 A1 cl cc v2 v3 v4 B l cB hC hL
end Go.Proofs.YthdmfaepjemopaaGreatDoor
