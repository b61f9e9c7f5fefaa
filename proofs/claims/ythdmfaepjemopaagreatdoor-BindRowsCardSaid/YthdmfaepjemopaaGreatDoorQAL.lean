/- The walk of a scope's column. -/
import Derived.Test.YthdmfaepjemopaaGreatDoorQAH
import Derived.Deep.RegionLaw
import Derived.StillTailTactics
namespace Go.Proofs.YthdmfaepjemopaaGreatDoor
open Go.RowKit

@[reducible] def ndR (k : Int) (p : Int) (t : Int) : Array Value := #[.int .i64 k, .string ⟨#[]⟩, .int .i64 0, .int .i64 0, .float .f64 0, .string ⟨#[]⟩, .int .i64 p, .bool false, .int .i64 t, .slice none 0 0]
theorem column_at (t : Tab) (cl : List Col) (nm : ByteArray) (w : World) (h : ColsAt w t.ca cl) (hn : t.cn = cl.length) : Calls Tryz.prog 65 #[.agg (tabL t).toArray, .string nm] w (RetV (.int .i64 (placeI (findN Col.name cl nm))) w) := by
  have h1 := column_any t.ca t.cc cl t.name t.root t.next t.rows nm w h
  rw [← hn] at h1
  refine h1.mono fun e w' ⟨r, h1, h2, h3⟩ => ?_
  rw [hn] at h2
  rw [first_place (P := cnameAt cl nm) (l := cl) (nm := Col.name) (fun j y hj => by unfold cnameAt; rw [hj]) h2] at h1
  exact ⟨h1, h3⟩
theorem heap_alloc_new (W : World) (O : Obj) : (W.alloc O).heap[W.heap.size]? = some O := by
  show (W.heap.push O)[W.heap.size]? = _
  simp
theorem heap_alloc_old (W : World) (O : Obj) {k : Nat} (h : k < W.heap.size) : (W.alloc O).heap[k]? = W.heap[k]? := by
  show (W.heap.push O)[k]? = _
  rw [Array.getElem?_push, if_neg (by omega)]
theorem alloc_at2 (W : World) (O : Obj) (n : Nat) (h : W.heap.size = n) : (W.alloc O).heap[n]? = some O := by subst h; exact heap_alloc_new W O
structure CK (w : World) (c0 c1 c2 : Value) (ins fol : Bool) (xr : Array Value) (p t : Int) (W : World) : Prop where
  below : Below w.heap.size w W
  sc : W.heap[w.heap.size]? = some (.cells #[c0, c1, c2, .bool ins, .bool fol] 86)
  ex : W.heap[w.heap.size + 1]? = some (.cells xr 41)
  ans : W.heap[w.heap.size + 2]? = some (.cells (ndR 0 0 0) 54)
  nd : W.heap[w.heap.size + 3]? = some (.cells (ndR 2 p t) 54)
theorem CK.keep {w : World} {c0 c1 c2 : Value} {ins fol : Bool} {xr : Array Value} {p t : Int} {W W' : World} (h : CK w c0 c1 c2 ins fol xr p t W) (hB : Below W.heap.size W W') : CK w c0 c1 c2 ins fol xr p t W' :=
  ⟨h.below.trans (hB.mono h.below.size), (hB.block _ (heap_lt h.sc)).trans h.sc, (hB.block _ (heap_lt h.ex)).trans h.ex, (hB.block _ (heap_lt h.ans)).trans h.ans, (hB.block _ (heap_lt h.nd)).trans h.nd⟩
theorem hits_snoc {rows : List Row} {tn nm : ByteArray} {j : Nat} {r : Row} (h : rows[j]? = some r) : (rows.take (j + 1)).filterMap (hitR tn nm) = (rows.take j).filterMap (hitR tn nm) ++ (hitR tn nm r).toList := by
  rw [List.take_add_one, h, List.filterMap_append]
  cases hh : hitR tn nm r <;> simp [hh]
theorem hits_two {rows : List Row} {tn nm : ByteArray} {j : Nat} {r : Row} {a b : Int × Int} (h : rows[j]? = some r) (h1 : (rows.take j).filterMap (hitR tn nm) = [a]) (h2 : hitR tn nm r = some b) : ∀ c, rows.filterMap (hitR tn nm) ≠ [c] := by
  intro c hc
  have e : rows = rows.take (j + 1) ++ rows.drop (j + 1) := (List.take_append_drop _ _).symm
  rw [e, List.filterMap_append, hits_snoc h, h1, h2] at hc
  simp at hc
def Fnd (rows : List Row) (tn nm : ByteArray) (j : Nat) (fd p t : Int) : Prop := (fd = -1 ∧ (rows.take j).filterMap (hitR tn nm) = [] ∧ p = 0 ∧ t = 0) ∨ (0 ≤ fd ∧ fd ≤ 100000 ∧ (rows.take j).filterMap (hitR tn nm) = [(p, t)])
theorem Fnd.skip {rows : List Row} {tn nm : ByteArray} {j : Nat} {fd p t : Int} {r : Row} (h : Fnd rows tn nm j fd p t) (hr : rows[j]? = some r) (hn : hitR tn nm r = none) : Fnd rows tn nm (j + 1) fd p t := by
  unfold Fnd
  rw [hits_snoc hr, hn, Option.toList_none, List.append_nil]
  exact h
theorem Fnd.hit {rows : List Row} {tn nm : ByteArray} {j : Nat} {p t : Int} {r : Row} {a : Int × Int} (h : Fnd rows tn nm j (-1) p t) (hr : rows[j]? = some r) (hn : hitR tn nm r = some a) (hj : j ≤ 1000) : Fnd rows tn nm (j + 1) j a.1 a.2 := by
  rcases h with ⟨_, h, _, _⟩ | ⟨h, _⟩
  · refine Or.inr ⟨by omega, by omega, ?_⟩
    rw [hits_snoc hr, h, hn]
    rfl
  · omega
theorem deep_at {w : World} {A : Option Addr} {ts : List (Tab × List Col)} (h : DeepAt w A ts) {k : Nat} {p : Tab × List Col} (hk : ts[k]? = some p) : ∃ b off, A = some ⟨b, off, none⟩ ∧ b < w.heap.size ∧ (∀ (i : Nat) (v : Value), (tabL p.1)[i]? = some v → w.cell? ⟨b, off + k * 5 + i, none⟩ = some v) ∧ p.1.cn = p.2.length ∧ ColsAt w p.1.ca p.2 := by
  have hk2 : ((ts.map Prod.fst).map tabL)[k]? = some (tabL p.1) := by rw [List.getElem?_map, List.getElem?_map, hk]; rfl
  have hd := h.2 p (List.mem_of_getElem? hk)
  rcases h.1.2 with h0 | ⟨b, off, h1, h2, h3⟩
  · rw [h0] at hk2; cases hk2
  · exact ⟨b, off, h1, h2, (h3 k _ hk2).2, hd.2.1, hd.1⟩
theorem str_at {w : World} {A : Option Addr} {l : List ByteArray} (h : StrsAt w A l) {k : Nat} {s : ByteArray} (hk : l[k]? = some s) : ∃ b off, A = some ⟨b, off, none⟩ ∧ b < w.heap.size ∧ w.cell? ⟨b, off + k, none⟩ = some (.string s) := by
  have hk2 : (l.map fun s => [Value.string s])[k]? = some [.string s] := by rw [List.getElem?_map, hk]; rfl
  rcases h.2 with h0 | ⟨b, off, h1, h2, h3⟩
  · rw [h0] at hk2; cases hk2
  · have := (h3 k _ hk2).2 0 _ rfl
    rw [Nat.mul_one, Nat.add_zero] at this
    exact ⟨b, off, h1, h2, this⟩
theorem int_at {w : World} {A : Option Addr} {l : List Int} (h : IntsAt w A l) {k : Nat} {z : Int} (hk : l[k]? = some z) : ∃ b off, A = some ⟨b, off, none⟩ ∧ b < w.heap.size ∧ w.cell? ⟨b, off + k, none⟩ = some (.int .i64 z) := by
  rcases h.2 with h0 | ⟨b, off, h1, h2, h3⟩
  · rw [h0] at hk; cases hk
  · exact ⟨b, off, h1, h2, h3 k _ hk⟩
theorem CK.setP {w : World} {c0 c1 c2 : Value} {ins fol : Bool} {xr : Array Value} {p t : Int} {W : World} (h : CK w c0 c1 c2 ins fol xr p t W) (q : Int) : CK w c0 c1 c2 ins fol xr q t (W.setCell ⟨w.heap.size + 3, 6, none⟩ (.int .i64 q)) := by
  refine ⟨h.below.setCell (p := ⟨w.heap.size + 3, 6, none⟩) (Nat.le_add_right _ 3) _, (heap_setFar _ (by omega)).trans h.sc, (heap_setFar _ (by omega)).trans h.ex, (heap_setFar _ (by omega)).trans h.ans, ?_⟩
  rw [setCell_eq_setRow W _ 6 _ 54 _ _ h.nd]
  exact setRow_heap W _ _ _ 54 _ h.nd
theorem CK.setT {w : World} {c0 c1 c2 : Value} {ins fol : Bool} {xr : Array Value} {p t : Int} {W : World} (h : CK w c0 c1 c2 ins fol xr p t W) (q : Int) : CK w c0 c1 c2 ins fol xr p q (W.setCell ⟨w.heap.size + 3, 8, none⟩ (.int .i64 q)) := by
  refine ⟨h.below.setCell (p := ⟨w.heap.size + 3, 8, none⟩) (Nat.le_add_right _ 3) _, (heap_setFar _ (by omega)).trans h.sc, (heap_setFar _ (by omega)).trans h.ex, (heap_setFar _ (by omega)).trans h.ans, ?_⟩
  rw [setCell_eq_setRow W _ 8 _ 54 _ _ h.nd]
  exact setRow_heap W _ _ _ 54 _ h.nd
theorem set10_below {B : Nat} {w W : World} (h : Below B w W) {b : Nat} (hb : B ≤ b) (v0 v1 v2 v3 v4 v5 v6 v7 v8 v9 : Value) : Below B w ((((((((((W.setCell ⟨b, 0, none⟩ v0).setCell ⟨b, 1, none⟩ v1).setCell ⟨b, 2, none⟩ v2).setCell ⟨b, 3, none⟩ v3).setCell ⟨b, 4, none⟩ v4).setCell ⟨b, 5, none⟩ v5).setCell ⟨b, 6, none⟩ v6).setCell ⟨b, 7, none⟩ v7).setCell ⟨b, 8, none⟩ v8).setCell ⟨b, 9, none⟩ v9) :=
  (((((((((h.setCell (p := ⟨b, 0, none⟩) hb _).setCell (p := ⟨b, 1, none⟩) hb _).setCell (p := ⟨b, 2, none⟩) hb _).setCell (p := ⟨b, 3, none⟩) hb _).setCell (p := ⟨b, 4, none⟩) hb _).setCell (p := ⟨b, 5, none⟩) hb _).setCell (p := ⟨b, 6, none⟩) hb _).setCell (p := ⟨b, 7, none⟩) hb _).setCell (p := ⟨b, 8, none⟩) hb _).setCell (p := ⟨b, 9, none⟩) hb _
structure CT (w : World) (c0 c1 c2 : Value) (ins fol : Bool) (xr : Array Value) (p t : Int) (g : Nat) (r : Array Value) (W : World) : Prop where
  ck : CK w c0 c1 c2 ins fol xr p t W
  tb : W.heap[g]? = some (.cells r 65)
  hg : w.heap.size + 3 < g
theorem CT.keep {w : World} {c0 c1 c2 : Value} {ins fol : Bool} {xr : Array Value} {p t : Int} {g : Nat} {r : Array Value} {W W' : World} (h : CT w c0 c1 c2 ins fol xr p t g r W) (hB : Below W.heap.size W W') : CT w c0 c1 c2 ins fol xr p t g r W' := ⟨h.ck.keep hB, (hB.block _ (heap_lt h.tb)).trans h.tb, h.hg⟩
theorem CT.setP {w : World} {c0 c1 c2 : Value} {ins fol : Bool} {xr : Array Value} {p t : Int} {g : Nat} {r : Array Value} {W : World} (h : CT w c0 c1 c2 ins fol xr p t g r W) (q : Int) : CT w c0 c1 c2 ins fol xr q t g r (W.setCell ⟨w.heap.size + 3, 6, none⟩ (.int .i64 q)) := ⟨h.ck.setP q, (heap_setFar _ (by have := h.hg; omega)).trans h.tb, h.hg⟩
theorem CT.setT {w : World} {c0 c1 c2 : Value} {ins fol : Bool} {xr : Array Value} {p t : Int} {g : Nat} {r : Array Value} {W : World} (h : CT w c0 c1 c2 ins fol xr p t g r W) (q : Int) : CT w c0 c1 c2 ins fol xr p q g r (W.setCell ⟨w.heap.size + 3, 8, none⟩ (.int .i64 q)) := ⟨h.ck.setT q, (heap_setFar _ (by have := h.hg; omega)).trans h.tb, h.hg⟩
theorem CT.cells {w : World} {c0 c1 c2 : Value} {ins fol : Bool} {xr : Array Value} {p t : Int} {g : Nat} {r0 r1 r2 r3 r4 : Value} {W : World} (h : CT w c0 c1 c2 ins fol xr p t g #[r0, r1, r2, r3, r4] W) {b1 o1 b2 o2 : Nat} {u v : Value} (hu : w.cell? ⟨b1, o1, none⟩ = some u) (hv : w.cell? ⟨b2, o2, none⟩ = some v) : W.cell? ⟨w.heap.size, 2, none⟩ = some c2 ∧ W.cell? ⟨b1, o1, none⟩ = some u ∧ W.cell? ⟨g, 1, none⟩ = some r1 ∧ W.cell? ⟨b2, o2, none⟩ = some v :=
  ⟨cell_of_row _ _ 2 _ _ _ h.ck.sc, cell_kept hu h.ck.below, cell_of_row _ _ 1 _ _ _ h.tb, cell_kept hv h.ck.below⟩
def rdC (W : World) (a : Addr) : Value := (W.cell? a).getD undef
theorem rdC_of {W : World} {a : Addr} {u : Value} (h : W.cell? a = some u) : W.cell? a = some (rdC W a) := by unfold rdC; rw [h]; rfl
theorem CT.all {w : World} {c0 c1 c2 : Value} {ins fol : Bool} {xr : Array Value} {p t : Int} {g : Nat} {r0 r1 r2 r3 r4 : Value} {W : World} (h : CT w c0 c1 c2 ins fol xr p t g #[r0, r1, r2, r3, r4] W) {b1 o1 b2 o2 : Nat} {u v : Value} (hu : w.cell? ⟨b1, o1, none⟩ = some u) (hv : w.cell? ⟨b2, o2, none⟩ = some v) : W.cell? ⟨w.heap.size, 2, none⟩ = some c2 ∧ W.cell? ⟨b1, o1, none⟩ = some u ∧ W.cell? ⟨g, 1, none⟩ = some r1 ∧ W.cell? ⟨b2, o2, none⟩ = some v ∧ W.cell? ⟨w.heap.size + 3, 6, none⟩ = some (rdC W ⟨w.heap.size + 3, 6, none⟩) ∧ W.frozen? ⟨w.heap.size + 3, 6, none⟩ = false ∧ W.cell? ⟨w.heap.size + 3, 8, none⟩ = some (rdC W ⟨w.heap.size + 3, 8, none⟩) ∧ W.frozen? ⟨w.heap.size + 3, 8, none⟩ = false :=
  ⟨(h.cells hu hv).1, (h.cells hu hv).2.1, (h.cells hu hv).2.2.1, (h.cells hu hv).2.2.2, rdC_of (cell_of_row _ _ 6 _ _ _ h.ck.nd), frozen_of_row _ _ 6 _ _ h.ck.nd, rdC_of (cell_of_row _ _ 8 _ _ _ h.ck.nd), frozen_of_row _ _ 8 _ _ h.ck.nd⟩
theorem clP_zero : clP zeroV = zeroV := by unfold clP zeroV; simp [clK, clN, clF, clS]
set_option maxRecDepth 100000 in
set_option maxHeartbeats 16000000 in
theorem column_e (n : Nat) (s : Sc) (ins fol : Bool) (x : Ex) (w : World) (hS : ScAt w s) (hm : s.rows.length ≤ 1000) : Calls Tryz.prog 36 #[scV s ins fol, exV x] w (ExprO (n + 1) w (colR s.rows x)) := by
  obtain ⟨k, op, ⟨lk, ln, lf, ls⟩, tn, nm, ng, xa, xc, xs⟩ := x
  obtain ⟨sa, sc, ta, tc, ba, bc, rows⟩ := s
  obtain ⟨m, hml⟩ : ∃ m, m = rows.length := ⟨_, rfl⟩
  have HS := Lib.hid hS
  have HM := Lib.hid hml
  unfold scV exV
  dsimp only [Ex.kind, Ex.op, Ex.lit, Ex.table, Ex.name, Ex.neg, Ex.A, Ex.c, Ex.args] at hm ⊢
  rw [← hml] at hm ⊢
  obtain ⟨R, hR⟩ : ∃ R, R = colR rows (.mk k op ⟨lk, ln, lf, ls⟩ tn nm ng xa xc xs) := ⟨_, rfl⟩
  rw [← hR]
  have HR := Lib.hid (show R = match rows.filterMap (hitR tn nm) with | [h] => .ok (.mk 2 ⟨#[]⟩ zeroV h.1 false h.2 []) | _ => .error 131 from hR)
  obtain ⟨xn, hxn⟩ : ∃ xn, xn = xs.length := ⟨_, rfl⟩
  rw [← hxn]
  clear hS hml hR hxn
  obtain ⟨xr, hxr⟩ : ∃ xr : Array Value, xr = #[.int .i64 k, .string op, .int .i64 lk, .int .i64 ln, .float .f64 lf, .string ls, .string tn, .string nm, .bool ng, .slice xa xn xc] := ⟨_, rfl⟩
  have HXR := Lib.hid hxr
  have HCK0 := Lib.hid (show CK w (.slice sa m sc) (.slice ta m tc) (.slice ba m bc) ins fol xr 0 0 ((((w.alloc (.cells #[.slice sa m sc, .slice ta m tc, .slice ba m bc, .bool ins, .bool fol] 86)).alloc (.cells #[.int .i64 k, .string op, .int .i64 lk, .int .i64 ln, .float .f64 lf, .string ls, .string tn, .string nm, .bool ng, .slice xa xn xc] 41)).alloc (.cells (ndR 0 0 0) 54)).alloc (.cells (ndR 2 0 0) 54)) from by
    rw [hxr]
    refine ⟨(((below1 w _).alloc (by simp) _).alloc (by simp <;> omega) _).alloc (by simp <;> omega) _, ?_, ?_, ?_, ?_⟩
    · rw [heap_alloc_old _ _ (by simp <;> omega), heap_alloc_old _ _ (by simp <;> omega), heap_alloc_old _ _ (by simp)]; exact heap_alloc_new w _
    · rw [heap_alloc_old _ _ (by simp <;> omega), heap_alloc_old _ _ (by simp)]; exact alloc_at2 _ _ _ (by simp)
    · rw [heap_alloc_old _ _ (by simp)]; exact alloc_at2 _ _ _ (by simp)
    · exact alloc_at2 _ _ _ (by simp))
  clear hxr
  have sf := store_float
  go_enter Tryz.func36, Tryz.ntmps36
  go_wp2_with fail
  go_loopw [5, 14] (fun f i wr => ∃ (j : Nat) (fd p t : Int), j ≤ m ∧ i = .int .i64 j ∧ f = .int .i64 fd ∧ Hid (CK w (.slice sa m sc) (.slice ta m tc) (.slice ba m bc) ins fol xr p t wr) ∧ Hid (Fnd rows tn nm j fd p t)) (fun _ i _ => m - (intOf i).toNat)
  case atStart => exact ⟨0, -1, 0, 0, Nat.zero_le _, rfl, rfl, HCK0, Lib.hid (Or.inl ⟨rfl, by rw [List.take_zero]; rfl, rfl, rfl⟩)⟩
  case round =>
    clear HCK0
    obtain ⟨j, fd, p, t, hj, rfl, rfl, HCK, HF⟩ := hrel
    obtain ⟨wp, rfl⟩ : ∃ wp : World, wp = wr := ⟨_, rfl⟩
    have z6 := cell_of_row _ _ 6 _ _ _ HCK.out.nd
    by_cases hjm : j < m
    · have hjn : ((j : Int) < (m : Int)) = True := eq_true (by omega)
      obtain ⟨r, hr⟩ : ∃ r, rows[j]? = some r := ⟨_, List.getElem?_eq_getElem (by have := HM.out; omega)⟩
      have hS := HS.out
      obtain ⟨tb, tf, rfl, htb, hcells, hcn, hcols⟩ := deep_at (p := (r.tab, r.cols)) hS.2.1 (by rw [List.getElem?_map, hr]; rfl)
      obtain ⟨sb, so, rfl, hsb, hs0⟩ := str_at (s := r.nm) hS.1 (by rw [List.getElem?_map, hr]; rfl)
      obtain ⟨bb, bo, rfl, hbb, hb0⟩ := int_at (z := r.beg) hS.2.2.1 (by rw [List.getElem?_map, hr]; rfl)
      have hbd := hS.2.2.2 r (List.mem_of_getElem? hr)
      have HROW := Lib.hid hr
      have HSK := Lib.hid (show hitR tn nm r = none → Fnd rows tn nm (j + 1) fd p t from fun h => HF.out.skip hr h)
      obtain ⟨rn, ⟨tbn, tca, tcn, tcc, troot, tnext, trows⟩, cl, beg⟩ := r
      dsimp only [tabL] at hcells hcn hcols hs0 hb0 hbd
      have t0 : wp.cell? ⟨tb, tf + j * 5, none⟩ = some (.string tbn) := cell_kept (hcells 0 _ rfl) HCK.out.below
      have t1 := cell_kept (hcells 1 _ rfl) HCK.out.below
      have t2 := cell_kept (hcells 2 _ rfl) HCK.out.below
      have t3 := cell_kept (hcells 3 _ rfl) HCK.out.below
      have t4 := cell_kept (hcells 4 _ rfl) HCK.out.below
      have HCOL := Lib.hid (show ∀ W, Below wp.heap.size wp W → Calls Tryz.prog 65 #[.agg #[.string tbn, .slice tca tcn tcc, .int .i64 troot, .int .i64 tnext, .int .i64 trows], .string nm] W (RetV (.int .i64 (placeI (findN Col.name cl nm))) W) from fun W hB => column_at ⟨tbn, tca, tcn, tcc, troot, tnext, trows⟩ cl nm W (CellsAt.keep (HCK.out.below.trans (hB.mono HCK.out.below.size)) hcols) hcn)
      have HCLS := Lib.hid hcols
      have HCN := Lib.hid hcn
      clear hcells hcols hcn hS hr
      have c0 := cell_of_row _ _ 0 _ _ _ HCK.out.sc
      have x4 : wp.cell? ⟨w.heap.size + 1, 7, none⟩ = some (.string nm) := by rw [cell_of_row _ _ 7 _ _ _ HCK.out.ex, HXR.out]; rfl
      have hz1 := heap_lt HCK.out.ex
      have HD1 := fun O => Lib.hid (HCK.out.keep (below1 wp O))
      obtain ⟨fi, hfi⟩ : ∃ fi, fi = findN Col.name cl nm := ⟨_, rfl⟩
      rw [← hfi] at HCOL
      have HFI := Lib.hid hfi
      clear hfi
      cases fi with
      | none =>
        have HS2 := Lib.hid (HSK.out (by unfold hitR; dsimp only; rw [← HFI.out]))
        have HCOL := Lib.hid (show ∀ W, Below wp.heap.size wp W → Calls Tryz.prog 65 #[.agg #[.string tbn, .slice tca tcn tcc, .int .i64 troot, .int .i64 tnext, .int .i64 trows], .string nm] W (RetV (.int .i64 (-1)) W) from HCOL.out)
        by_cases htn : tn = ⟨#[]⟩
        · subst htn
          go_wp2_with (first
            | (go_at_call 65; (with_reducible refine (HCOL.out _ (below1 wp _)).mono ?_); rintro e w5 ⟨rfl, hB5⟩
               have HC5 := Lib.hid ((HD1 _).out.keep hB5)
               have y3 : w5.cell? ⟨w.heap.size + 1, 6, none⟩ = some (.string ⟨#[]⟩) := by rw [cell_of_row _ _ 6 _ _ _ HC5.out.ex, HXR.out]; rfl
               clear hB5)
            | fail)
          go_quiet ((fail))
          go_wp2_with fail
          go_roundw
          case rel => exact ⟨j + 1, fd, p, t, by omega, by go_num, rfl, Lib.hid (HC5.out.keep (below_drewN (Below.refl _ _) nq)), HS2⟩
          case measure => simp [intOf] <;> omega
        · have n1 : (tn.toList = []) = False := eq_false (fun h => htn (by rw [ByteArray.toList_eq] at h; exact ByteArray.ext (Array.toList_inj.1 h)))
          have n2 : tn.toList.isEmpty = false := by rw [List.isEmpty_eq_false_iff]; intro h; rw [h] at n1; exact (of_eq_false n1 rfl).elim
          by_cases hrn : tn = rn
          · subst hrn
            go_wp2_with (first
            | (go_at_call 65; (with_reducible refine (HCOL.out _ (below1 wp _)).mono ?_); rintro e w5 ⟨rfl, hB5⟩
               have HC5 := Lib.hid ((HD1 _).out.keep hB5)
               have y3 : w5.cell? ⟨w.heap.size + 1, 6, none⟩ = some (.string tn) := by rw [cell_of_row _ _ 6 _ _ _ HC5.out.ex, HXR.out]; rfl
               have y0 := cell_of_row _ _ 0 _ _ _ HC5.out.sc
               have s0 : w5.cell? ⟨sb, so + j, none⟩ = some (.string tn) := cell_kept hs0 HC5.out.below
               clear hB5)
            | fail)
            go_quiet ((fail))
            go_wp2_with fail
            go_roundw
            case rel => exact ⟨j + 1, fd, p, t, by omega, by go_num, rfl, Lib.hid (HC5.out.keep (below_drewN (Below.refl _ _) nq)), HS2⟩
            case measure => simp [intOf] <;> omega
          · have n3 : (tn.toList == rn.toList) = false := by
              rw [beq_eq_false_iff_ne]; intro h; exact hrn (sameN_iff.1 (show sameN tn rn = true by unfold sameN; rw [h]; exact beq_self_eq_true _))
            have n4 : (tn.toList = rn.toList) = False := eq_false (beq_eq_false_iff_ne.1 n3)
            go_wp2_with (first
            | (go_at_call 65; (with_reducible refine (HCOL.out _ (below1 wp _)).mono ?_); rintro e w5 ⟨rfl, hB5⟩
               have HC5 := Lib.hid ((HD1 _).out.keep hB5)
               have y3 : w5.cell? ⟨w.heap.size + 1, 6, none⟩ = some (.string tn) := by rw [cell_of_row _ _ 6 _ _ _ HC5.out.ex, HXR.out]; rfl
               have y0 := cell_of_row _ _ 0 _ _ _ HC5.out.sc
               have s0 : w5.cell? ⟨sb, so + j, none⟩ = some (.string rn) := cell_kept hs0 HC5.out.below
               clear hB5)
            | fail)
            go_quiet ((fail))
            go_wp2_with fail
            go_roundw
            case rel => exact ⟨j + 1, fd, p, t, by omega, by go_num, rfl, Lib.hid (HC5.out.keep (below_drewN (Below.refl _ _) nq)), HS2⟩
            case measure => simp [intOf] <;> omega
      | some ci =>
        have HLT := Lib.hid (findN_lt HFI.out.symm)
        have HCOL := Lib.hid (show ∀ W, Below wp.heap.size wp W → Calls Tryz.prog 65 #[.agg #[.string tbn, .slice tca tcn tcc, .int .i64 troot, .int .i64 tnext, .int .i64 trows], .string nm] W (RetV (.int .i64 (ci : Int)) W) from HCOL.out)
        have hci0 : ((ci : Int) < 0) = False := eq_false (by omega)
        have HNO := Lib.hid (show ¬ (tn = ⟨#[]⟩ ∨ tn = rn) → Fnd rows tn nm (j + 1) fd p t from fun h => HSK.out (by unfold hitR; dsimp only; rw [← HFI.out]; dsimp only; rw [if_neg h]))
        have HHIT := Lib.hid (show (tn = ⟨#[]⟩ ∨ tn = rn) → hitR tn nm ⟨rn, ⟨tbn, tca, tcn, tcc, troot, tnext, trows⟩, cl, beg⟩ = some (beg + ci, ((cl[ci]?).map Col.ty).getD 0) from fun h => by unfold hitR; dsimp only; rw [← HFI.out]; dsimp only; rw [if_pos h])
        obtain ⟨cz, hcz⟩ : ∃ z, cl[ci]? = some z := ⟨_, List.getElem?_eq_getElem HLT.out⟩
        obtain ⟨cb, co, rfl, hct⟩ : ∃ cb co, tca = some ⟨cb, co, none⟩ ∧ w.cell? ⟨cb, co + ci * 3 + 1, none⟩ = some (.int .i64 cz.ty) := by
          have hk2 : (cl.map colL)[ci]? = some (colL cz) := by rw [List.getElem?_map, hcz]; rfl
          rcases HCLS.out.2 with h0 | ⟨cb, co, h1, h2, h3⟩
          · rw [h0] at hk2; cases hk2
          · exact ⟨cb, co, h1, (h3 ci _ hk2).2 1 _ rfl⟩
        obtain ⟨czn, cty, czb⟩ := cz
        dsimp only at hct
        rw [hcz] at HHIT
        have HHIT := Lib.hid (show (tn = ⟨#[]⟩ ∨ tn = rn) → hitR tn nm ⟨rn, ⟨tbn, some ⟨cb, co, none⟩, tcn, tcc, troot, tnext, trows⟩, cl, beg⟩ = some (beg + ci, cty) from HHIT.out)
        clear hcz
        have hlt2 : ci < tcn := by have := HLT.out; have := HCN.out; omega
        have hbd2 : ci ≤ 100000 := by have := HLT.out; omega
        have HCY := fun w => check_yes 131 w
        have hwr : IntKind.i64.wrap (beg + (ci : Int)) = beg + (ci : Int) := IntWalk.i64_in _ (by omega)
        have HCN2 := fun w => check_no 131 w
        by_cases htn : tn = ⟨#[]⟩
        · subst htn
          have HH := Lib.hid (HHIT.out (Or.inl rfl))
          rcases (show fd = -1 ∨ 0 ≤ fd by rcases HF.out with ⟨h, _⟩ | ⟨h, _⟩ <;> omega) with hfd | hfd
          · subst hfd
            have HF2 := Lib.hid (HF.out.hit HROW.out HH.out (by omega))
            go_wp2_with (first
              | (go_at_call 65; (with_reducible refine (HCOL.out _ (below1 wp _)).mono ?_); rintro e w5 ⟨rfl, hB5⟩
                 have HC5 := Lib.hid ((HD1 _).out.keep hB5)
                 have HT5 := Lib.hid (show CT w _ _ _ ins fol xr p t wp.heap.size _ w5 from ⟨HC5.out, (hB5.block _ (by simp)).trans (heap_alloc_new wp (.cells #[.string tbn, .slice (some ⟨cb, co, none⟩) tcn tcc, .int .i64 troot, .int .i64 tnext, .int .i64 trows] 65)), by have := heap_lt HCK.out.nd; omega⟩)
                 have y3 : w5.cell? ⟨w.heap.size + 1, 6, none⟩ = some (.string ⟨#[]⟩) := by rw [cell_of_row _ _ 6 _ _ _ HC5.out.ex, HXR.out]; rfl
                 have y0 := cell_of_row _ _ 0 _ _ _ HC5.out.sc
                 have s0 : w5.cell? ⟨sb, so + j, none⟩ = some (.string rn) := cell_kept hs0 HC5.out.below
                 clear hB5)
              | fail)
            go_quiet ((fail))
            have HT6 := Lib.hid (HT5.out.keep (below_drewN (Below.refl _ _) nq))
            go_upto_region 10 with (first
              | (go_at_call 24; (with_reducible refine (HCY _).mono ?_); rintro e w' ⟨rfl, rfl⟩)
              | fail)
            generalize hw7 : w5.drewN nq = w7 at HT6 ⊢
            have HT7 := Lib.hid (HT6.out.keep (Below.refl _ _).drew)
            clear hw7
            go_region_held3 (fun wx => wx.cell? ⟨w.heap.size, 2, none⟩ = some (.slice (some ⟨bb, bo, none⟩) m bc) ∧ wx.cell? ⟨bb, bo + j, none⟩ = some (.int .i64 beg) ∧ wx.cell? ⟨wp.heap.size, 1, none⟩ = some (.slice (some ⟨cb, co, none⟩) tcn tcc) ∧ wx.cell? ⟨cb, co + ci * 3 + 1, none⟩ = some (.int .i64 cty) ∧ wx.cell? ⟨w.heap.size + 3, 6, none⟩ = some (rdC wx ⟨w.heap.size + 3, 6, none⟩) ∧ wx.frozen? ⟨w.heap.size + 3, 6, none⟩ = false ∧ wx.cell? ⟨w.heap.size + 3, 8, none⟩ = some (rdC wx ⟨w.heap.size + 3, 8, none⟩) ∧ wx.frozen? ⟨w.heap.size + 3, 8, none⟩ = false)
              (first
                | (with_reducible exact HT7.out.all hb0 hct)
                | (with_reducible exact ((HT6.out.setP _).keep (Below.refl _ _).drew).all hb0 hct)
                | (with_reducible exact (((HT6.out.setP _).setT _).keep (Below.refl _ _).drew).all hb0 hct)
                | fail)
              (fail)
            all_goals
              go_wp2_with fail
              go_roundw
              case rel => exact ⟨j + 1, j, beg + ci, cty, by omega, by go_num, rfl, Lib.hid (((HT6.out.setP _).setT _).keep (Below.refl _ _).drew).ck, HF2⟩
              case measure => simp [intOf] <;> omega
          · have hfd1 : (fd < 0) = False := eq_false (by omega)
            obtain rfl : R = .error 131 := by
              rcases HF.out with ⟨h, _⟩ | ⟨_, _, h⟩
              · omega
              · have := hits_two HROW.out h HH.out
                rw [HR.out]
                split
                · rename_i q hq; exact absurd hq (this q)
                · rfl
            go_wp2_with (first
              | (go_at_call 65; (with_reducible refine (HCOL.out _ (below1 wp _)).mono ?_); rintro e w5 ⟨rfl, hB5⟩
                 have HC5 := Lib.hid ((HD1 _).out.keep hB5)
                 have HT5 := Lib.hid (show CT w _ _ _ ins fol xr p t wp.heap.size _ w5 from ⟨HC5.out, (hB5.block _ (by simp)).trans (heap_alloc_new wp (.cells #[.string tbn, .slice (some ⟨cb, co, none⟩) tcn tcc, .int .i64 troot, .int .i64 tnext, .int .i64 trows] 65)), by have := heap_lt HCK.out.nd; omega⟩)
                 have y3 : w5.cell? ⟨w.heap.size + 1, 6, none⟩ = some (.string ⟨#[]⟩) := by rw [cell_of_row _ _ 6 _ _ _ HC5.out.ex, HXR.out]; rfl
                 have y0 := cell_of_row _ _ 0 _ _ _ HC5.out.sc
                 have s0 : w5.cell? ⟨sb, so + j, none⟩ = some (.string rn) := cell_kept hs0 HC5.out.below
                 clear hB5)
              | fail)
            go_quiet ((fail))
            go_wp2_with (first
              | (go_at_call 24; (with_reducible refine (HCN2 _).mono ?_); rintro e w' ⟨rfl, rfl⟩)
              | fail)
            exact ⟨rfl, (HC5.out.keep (below_drewN (Below.refl _ _) nq)).below, rfl⟩
        · have n1 : (tn.toList = []) = False := eq_false (fun h => htn (by rw [ByteArray.toList_eq] at h; exact ByteArray.ext (Array.toList_inj.1 h)))
          have n2 : tn.toList.isEmpty = false := by rw [List.isEmpty_eq_false_iff]; intro h; rw [h] at n1; exact (of_eq_false n1 rfl).elim
          by_cases hrn : tn = rn
          · subst hrn
            have HH := Lib.hid (HHIT.out (Or.inr rfl))
            rcases (show fd = -1 ∨ 0 ≤ fd by rcases HF.out with ⟨h, _⟩ | ⟨h, _⟩ <;> omega) with hfd | hfd
            · subst hfd
              have HF2 := Lib.hid (HF.out.hit HROW.out HH.out (by omega))
              go_wp2_with (first
                | (go_at_call 65; (with_reducible refine (HCOL.out _ (below1 wp _)).mono ?_); rintro e w5 ⟨rfl, hB5⟩
                   have HC5 := Lib.hid ((HD1 _).out.keep hB5)
                   have HT5 := Lib.hid (show CT w _ _ _ ins fol xr p t wp.heap.size _ w5 from ⟨HC5.out, (hB5.block _ (by simp)).trans (heap_alloc_new wp (.cells #[.string tbn, .slice (some ⟨cb, co, none⟩) tcn tcc, .int .i64 troot, .int .i64 tnext, .int .i64 trows] 65)), by have := heap_lt HCK.out.nd; omega⟩)
                   have y3 : w5.cell? ⟨w.heap.size + 1, 6, none⟩ = some (.string tn) := by rw [cell_of_row _ _ 6 _ _ _ HC5.out.ex, HXR.out]; rfl
                   have y0 := cell_of_row _ _ 0 _ _ _ HC5.out.sc
                   have s0 : w5.cell? ⟨sb, so + j, none⟩ = some (.string tn) := cell_kept hs0 HC5.out.below
                   clear hB5)
                | fail)
              go_quiet ((fail))
              have HT6 := Lib.hid (HT5.out.keep (below_drewN (Below.refl _ _) nq))
              go_upto_region 10 with (first
                | (go_at_call 24; (with_reducible refine (HCY _).mono ?_); rintro e w' ⟨rfl, rfl⟩)
                | fail)
              generalize hw7 : w5.drewN nq = w7 at HT6 ⊢
              have HT7 := Lib.hid (HT6.out.keep (Below.refl _ _).drew)
              clear hw7
              go_region_held3 (fun wx => wx.cell? ⟨w.heap.size, 2, none⟩ = some (.slice (some ⟨bb, bo, none⟩) m bc) ∧ wx.cell? ⟨bb, bo + j, none⟩ = some (.int .i64 beg) ∧ wx.cell? ⟨wp.heap.size, 1, none⟩ = some (.slice (some ⟨cb, co, none⟩) tcn tcc) ∧ wx.cell? ⟨cb, co + ci * 3 + 1, none⟩ = some (.int .i64 cty) ∧ wx.cell? ⟨w.heap.size + 3, 6, none⟩ = some (rdC wx ⟨w.heap.size + 3, 6, none⟩) ∧ wx.frozen? ⟨w.heap.size + 3, 6, none⟩ = false ∧ wx.cell? ⟨w.heap.size + 3, 8, none⟩ = some (rdC wx ⟨w.heap.size + 3, 8, none⟩) ∧ wx.frozen? ⟨w.heap.size + 3, 8, none⟩ = false)
                (first
                  | (with_reducible exact HT7.out.all hb0 hct)
                  | (with_reducible exact ((HT6.out.setP _).keep (Below.refl _ _).drew).all hb0 hct)
                  | (with_reducible exact (((HT6.out.setP _).setT _).keep (Below.refl _ _).drew).all hb0 hct)
                  | fail)
                (fail)
              all_goals
                go_wp2_with fail
                go_roundw
                case rel => exact ⟨j + 1, j, beg + ci, cty, by omega, by go_num, rfl, Lib.hid (((HT6.out.setP _).setT _).keep (Below.refl _ _).drew).ck, HF2⟩
                case measure => simp [intOf] <;> omega
            · have hfd1 : (fd < 0) = False := eq_false (by omega)
              obtain rfl : R = .error 131 := by
                rcases HF.out with ⟨h, _⟩ | ⟨_, _, h⟩
                · omega
                · have := hits_two HROW.out h HH.out
                  rw [HR.out]
                  split
                  · rename_i q hq; exact absurd hq (this q)
                  · rfl
              go_wp2_with (first
                | (go_at_call 65; (with_reducible refine (HCOL.out _ (below1 wp _)).mono ?_); rintro e w5 ⟨rfl, hB5⟩
                   have HC5 := Lib.hid ((HD1 _).out.keep hB5)
                   have HT5 := Lib.hid (show CT w _ _ _ ins fol xr p t wp.heap.size _ w5 from ⟨HC5.out, (hB5.block _ (by simp)).trans (heap_alloc_new wp (.cells #[.string tbn, .slice (some ⟨cb, co, none⟩) tcn tcc, .int .i64 troot, .int .i64 tnext, .int .i64 trows] 65)), by have := heap_lt HCK.out.nd; omega⟩)
                   have y3 : w5.cell? ⟨w.heap.size + 1, 6, none⟩ = some (.string tn) := by rw [cell_of_row _ _ 6 _ _ _ HC5.out.ex, HXR.out]; rfl
                   have y0 := cell_of_row _ _ 0 _ _ _ HC5.out.sc
                   have s0 : w5.cell? ⟨sb, so + j, none⟩ = some (.string tn) := cell_kept hs0 HC5.out.below
                   clear hB5)
                | fail)
              go_quiet ((fail))
              go_wp2_with (first
                | (go_at_call 24; (with_reducible refine (HCN2 _).mono ?_); rintro e w' ⟨rfl, rfl⟩)
                | fail)
              exact ⟨rfl, (HC5.out.keep (below_drewN (Below.refl _ _) nq)).below, rfl⟩
          · have n3 : (tn.toList == rn.toList) = false := by
              rw [beq_eq_false_iff_ne]; intro h; exact hrn (sameN_iff.1 (show sameN tn rn = true by unfold sameN; rw [h]; exact beq_self_eq_true _))
            have n4 : (tn.toList = rn.toList) = False := eq_false (beq_eq_false_iff_ne.1 n3)
            have HS2 := Lib.hid (HNO.out (fun h => h.elim htn hrn))
            go_wp2_with (first
              | (go_at_call 65; (with_reducible refine (HCOL.out _ (below1 wp _)).mono ?_); rintro e w5 ⟨rfl, hB5⟩
                 have HC5 := Lib.hid ((HD1 _).out.keep hB5)
                 have HT5 := Lib.hid (show CT w _ _ _ ins fol xr p t wp.heap.size _ w5 from ⟨HC5.out, (hB5.block _ (by simp)).trans (heap_alloc_new wp (.cells #[.string tbn, .slice (some ⟨cb, co, none⟩) tcn tcc, .int .i64 troot, .int .i64 tnext, .int .i64 trows] 65)), by have := heap_lt HCK.out.nd; omega⟩)
                 have y3 : w5.cell? ⟨w.heap.size + 1, 6, none⟩ = some (.string tn) := by rw [cell_of_row _ _ 6 _ _ _ HC5.out.ex, HXR.out]; rfl
                 have y0 := cell_of_row _ _ 0 _ _ _ HC5.out.sc
                 have s0 : w5.cell? ⟨sb, so + j, none⟩ = some (.string rn) := cell_kept hs0 HC5.out.below
                 clear hB5)
              | fail)
            go_quiet ((fail))
            go_wp2_with fail
            go_roundw
            case rel => exact ⟨j + 1, fd, p, t, by omega, by go_num, rfl, Lib.hid (HC5.out.keep (below_drewN (Below.refl _ _) nq)), HS2⟩
            case measure => simp [intOf] <;> omega
    · obtain rfl : j = m := by omega
      have hjn : ((j : Int) < (j : Int)) = False := eq_false (by omega)
      have z0 := cell_of_row _ _ 0 _ _ _ HCK.out.ans
      have HCY := fun w => check_yes 131 w
      have HCN2 := fun w => check_no 131 w
      have HFE := Lib.hid (show (fd = -1 ∧ R = .error 131) ∨ (0 ≤ fd ∧ R = .ok (.mk 2 ⟨#[]⟩ zeroV p false t [])) from by
        have h := HF.out
        unfold Fnd at h
        rw [List.take_of_length_le (by have := HM.out; omega)] at h
        rcases h with ⟨h1, h2, _⟩ | ⟨h1, _, h2⟩
        · exact Or.inl ⟨h1, by rw [HR.out, h2]⟩
        · exact Or.inr ⟨h1, by rw [HR.out, h2]⟩)
      rcases HFE.out with ⟨rfl, rfl⟩ | ⟨hfd, rfl⟩
      · go_wp2_with (first
          | (go_at_call 24; (with_reducible refine (HCN2 _).mono ?_); rintro e w' ⟨rfl, rfl⟩)
          | fail)
        exact ⟨rfl, HCK.out.below, rfl⟩
      · obtain ⟨a0, a1, a2, a3, a4, a5, a6, a7, a8, a9⟩ := row10 HCK.out.nd
        obtain ⟨b0, b1, b2, b3, b4, b5, b6, b7, b8, b9⟩ := row10 HCK.out.ans
        obtain ⟨f0, f1, f2, f3, f4, f5, f6, f7, f8, f9⟩ := free10 HCK.out.ans
        have hlz := heap_lt HCK.out.ans
        go_wp2_with (first
          | (go_at_call 24; (with_reducible refine (HCY _).mono ?_); rintro e w' ⟨rfl, rfl⟩)
          | fail)
        refine bodyPost_ret (v := .agg (ndR 2 p t)) (by simp [results, Tryz.results36, go_sem, b0, b1, b2, b3, b4, b5, b6, b7, b8, b9]) rfl ⟨?_, none, 0, 0, by rw [show clP (Nd.mk 2 ⟨#[]⟩ zeroV p false t []).lit = zeroV from clP_zero]; rfl, ⟨none, 0, [], rfl, ⟨Nat.zero_le _, Or.inl rfl⟩, fun h => absurd rfl h, rfl, fun i x q hx => by cases hx⟩⟩
        exact set10_below HCK.out.below (Nat.le_add_right _ 2) _ _ _ _ _ _ _ _ _ _
end Go.Proofs.YthdmfaepjemopaaGreatDoor
