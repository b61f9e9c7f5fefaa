/- The case, opened: what its parameter reads as. -/
import Derived.Test.YteckfakabaiipaaDoorCase
import Derived.ChangeSlices
import Derived.WideShapes
import Derived.OpenShut
import Derived.Lib.LaidTab
namespace Go.Proofs.YteckfakabaiipaaDoor
open Go.RowKit Go.ChangeShapes Go.WideShapes

theorem cells2 : Tryd.prog.cellsOf 2 = 1 := by kernel_rfl
theorem cells3 : Tryd.prog.cellsOf 3 = 1 := by kernel_rfl
theorem cells22 : Tryd.prog.cellsOf 22 = 1 := by kernel_rfl
theorem cells23 : Tryd.prog.cellsOf 23 = 1 := by kernel_rfl
theorem cells25 : Tryd.prog.cellsOf 25 = 7 := by kernel_rfl

theorem wf_i64 {x : Int} (h : (Lit.int .i64 x).wf = true) : -9223372036854775808 ≤ x ∧ x ≤ 9223372036854775807 := by
  simp [Lit.wf, IntKind.min, IntKind.max, IntKind.signed, IntKind.bits] at h; omega
theorem wf_i16 {x : Int} (h : (Lit.int .i16 x).wf = true) : -32768 ≤ x ∧ x ≤ 32767 := by
  simp [Lit.wf, IntKind.min, IntKind.max, IntKind.signed, IntKind.bits] at h; omega

/-- a slice's numbers, as cells -/
def RowAt (k : IntKind) (w : World) (a : Option Addr) (n : Nat) (zs : List Int) : Prop :=
  zs.length = n ∧ (∀ x ∈ zs, (Lit.int k x).wf = true) ∧ (n = 0 ∨ ∃ b off, a = some ⟨b, off, none⟩ ∧ ∀ j, j < n → w.cell? ⟨b, off + j, none⟩ = some (.int k (zs.getD j 0)))

theorem open_rowAt {P : Program} {t e : TypeId} {k : IntKind} {H : Type} {enc : TypeId × Value → H} {w : World} {base : Nat} {held : Bool} {fuel : Nat} {cs : List Value} {x : DataW H × List MemPlace}
    (ht : P.underlying t = some (.slice e)) (he : P.underlying e = some (.int k)) (hc : P.cellsOf e = 1)
    (h : DataW.trod enc P w base (fun _ => true) held fuel t cs = some x) :
    ∃ a n c zs, cs = [.slice a n c] ∧ n ≤ maxLen ∧ RowAt k w a n zs := by
  rcases open_ints ht he hc h with ⟨rfl, _⟩ | ⟨a, len, cap, zs, rfl, _, hl, hm, hlen, _, hcell, hwf⟩
  · exact ⟨none, 0, 0, [], rfl, by unfold maxLen; omega, rfl, by simp, .inl rfl⟩
  · rw [if_pos rfl] at hlen
    refine ⟨some a, len, cap, zs.take len, rfl, by omega, by simp; omega, fun y hy => hwf y (List.mem_of_mem_take hy), ?_⟩
    by_cases h0 : len = 0
    · exact .inl h0
    · right
      obtain ⟨b, off, spot⟩ := a
      have hspot : spot = none := by simpa [Addr.add] using World.cell?_spot (hcell 0 (by omega))
      subst hspot
      refine ⟨b, off, rfl, fun j hj => ?_⟩
      have := hcell j (by omega)
      have e1 : (Addr.add ⟨b, off, none⟩ j) = ⟨b, off + j, none⟩ := by unfold Addr.add; split <;> simp_all
      rw [e1] at this
      rw [this]
      simp [List.getD, hj]

theorem table_in {W : World} (h : laidMetH Tryd.prog Rows.greedyArgsRow.laid W) : TabIn W := by
  have ht : Lib.TabIs Tryd.prog W "math/bits.deBruijn32tab" .u8 (Lib.deBruijn32tab.map fun n : Nat => (n : Int)) :=
    Lib.tabIs_of_head (rest := []) (g := 0) (by kernel_rfl) (by kernel_rfl) Tryd.underlying54 Tryd.underlying5 (by kernel_rfl) (by kernel_rfl) h
  intro j hj
  have := ht.cell (g := 0) (by kernel_rfl) j (by simpa using hj)
  rw [this]
  simp [List.getD, hj]
theorem open_int1 {P : Program} {t : TypeId} {k : IntKind} {H : Type} {enc : TypeId × Value → H} {w : World} {base : Nat} {sp : Nat → Bool} {held : Bool} {fuel : Nat} {c : Value} {x : DataW H × List MemPlace}
    (ht : P.underlying t = some (.int k)) (h : DataW.trod enc P w base sp held fuel t [c] = some x) : ∃ n, c = .int k n ∧ (Lit.int k n).wf = true := by
  obtain ⟨n, h, _, hw⟩ := DataW.trod_int ht h
  simp at h
  exact ⟨n, h, hw⟩

theorem case_open {H : Type} {enc : TypeId × Value → H} {W : World} {b0 : Nat} {v1 : Value} {d1 : DataW H} {p1 : List MemPlace}
    (k1 : Value.okWide Tryd.prog W .any b0 25 v1) (h1 : DataW.Trod enc Tryd.prog W 0 (fun _ => true) true 25 v1 d1 p1) :
    ∃ a ao at2 n c no co nt ct budget m k base zs off two, v1 = caseV a ao at2 n c no co nt ct budget m k base ∧ RowAt .i64 W a n zs ∧ RowAt .i16 W ao no off ∧ RowAt .i16 W at2 nt two ∧
      n ≤ maxLen ∧ no ≤ maxLen ∧ nt ≤ maxLen ∧ (Lit.int .i64 budget).wf = true ∧ (Lit.int .i64 m).wf = true ∧ (Lit.int .i64 k).wf = true ∧ (Lit.int .i64 base).wf = true := by
  obtain ⟨cs, rfl, hsz⟩ := okWide_struct Tryd.underlying25 k1
  obtain ⟨fuel, hf⟩ := h1
  obtain ⟨xs, n, _, _, hl, hlen, hfs⟩ := DataW.trod_struct Tryd.underlying25 hf
  rw [cells25] at hsz
  obtain ⟨l⟩ := cs
  match l, hsz with
  | [c0, c1, c2, c3, c4, c5, c6], _ =>
    match xs, hlen with
    | [x0, x1, x2, x3, x4, x5, x6], _ =>
      have g0 : DataW.trod enc Tryd.prog W 0 (fun _ => true) true n 22 (([c0, c1, c2, c3, c4, c5, c6].drop 0).take (Tryd.prog.cellsOf 22)) = some x0 := hfs 0 _ rfl
      rw [cells22] at g0
      have g1 : DataW.trod enc Tryd.prog W 0 (fun _ => true) true n 2 (([c0, c1, c2, c3, c4, c5, c6].drop 1).take (Tryd.prog.cellsOf 2)) = some x1 := hfs 1 _ rfl
      rw [cells2] at g1
      have g2 : DataW.trod enc Tryd.prog W 0 (fun _ => true) true n 3 (([c0, c1, c2, c3, c4, c5, c6].drop 2).take (Tryd.prog.cellsOf 3)) = some x2 := hfs 2 _ rfl
      rw [cells3] at g2
      have g3 : DataW.trod enc Tryd.prog W 0 (fun _ => true) true n 3 (([c0, c1, c2, c3, c4, c5, c6].drop 3).take (Tryd.prog.cellsOf 3)) = some x3 := hfs 3 _ rfl
      rw [cells3] at g3
      have g4 : DataW.trod enc Tryd.prog W 0 (fun _ => true) true n 2 (([c0, c1, c2, c3, c4, c5, c6].drop 4).take (Tryd.prog.cellsOf 2)) = some x4 := hfs 4 _ rfl
      rw [cells2] at g4
      have g5 : DataW.trod enc Tryd.prog W 0 (fun _ => true) true n 23 (([c0, c1, c2, c3, c4, c5, c6].drop 5).take (Tryd.prog.cellsOf 23)) = some x5 := hfs 5 _ rfl
      rw [cells23] at g5
      have g6 : DataW.trod enc Tryd.prog W 0 (fun _ => true) true n 23 (([c0, c1, c2, c3, c4, c5, c6].drop 6).take (Tryd.prog.cellsOf 23)) = some x6 := hfs 6 _ rfl
      rw [cells23] at g6
      obtain ⟨a, n, c, zs, e0, w0, r0⟩ := open_rowAt Tryd.underlying22 Tryd.underlying2 cells2 g0
      obtain ⟨budget, e1, w1⟩ := open_int1 (c := c1) Tryd.underlying2 g1
      obtain ⟨m, e2, w2⟩ := open_int1 (c := c2) Tryd.underlying3 g2
      obtain ⟨k, e3, w3⟩ := open_int1 (c := c3) Tryd.underlying3 g3
      obtain ⟨base, e4, w4⟩ := open_int1 (c := c4) Tryd.underlying2 g4
      obtain ⟨ao, no, co, off, e5, w5, r5⟩ := open_rowAt Tryd.underlying23 Tryd.underlying41 (by kernel_rfl) g5
      obtain ⟨at2, nt, ct, two, e6, w6, r6⟩ := open_rowAt Tryd.underlying23 Tryd.underlying41 (by kernel_rfl) g6
      subst e1 e2 e3 e4
      cases (show [c0] = [_] from e0)
      cases (show [c5] = [_] from e5)
      cases (show [c6] = [_] from e6)
      exact ⟨a, ao, at2, n, c, no, co, nt, ct, budget, m, k, base, zs, off, two, rfl, r0, r5, r6, w0, w5, w6, w1, w2, w3, w4⟩

theorem RowAt.shorts {w : World} {a : Option Addr} {n : Nat} {zs : List Int} (h : RowAt .i16 w a n zs) : ShortsAt w a n zs :=
  ⟨h.1, fun j hj => wf_i16 (h.2.1 _ (by
    have hj' : j < zs.length := by rw [h.1]; exact hj
    rw [List.getD, List.getElem?_eq_getElem hj']; exact List.getElem_mem _)), h.2.2⟩
end Go.Proofs.YteckfakabaiipaaDoor
