/- The walk of SchemaOwn. -/
import Derived.Test.YtcgpflkaejbkhaaGreatDoorPlays
import Derived.Test.YtcgpflkaejbkhaaGreatDoorKN
import Derived.Test.YtcgpflkaejbkhaaGreatDoorKM
import Derived.Deep.RegionLaw
import Derived.BigQuiet
import Derived.IntWalk
namespace Go.Proofs.YtcgpflkaejbkhaaGreatDoor
open Go.RowKit

/-- a slice of one thing that is done -/
theorem one_op {W : World} {g : Nat} {o : Opv} (h : W.heap[g]? = some (.cells (opL o).toArray 30)) (hr : ReadO W o) : OpsAt W (some ⟨g, 0, none⟩) [o] := by
  refine ⟨⟨by unfold maxLen; simp, Or.inr ⟨g, 0, rfl, heap_lt h, fun j x hx => ?_⟩⟩, fun p hp => by rw [List.mem_singleton.1 hp]; exact hr⟩
  cases j with
  | zero =>
    obtain rfl : opL o = x := by simpa using hx
    refine ⟨rfl, fun i u hu => ?_⟩
    rw [Nat.zero_mul, Nat.zero_add]
    refine (cell_of_row W g i _ _ _ h).trans ?_
    simpa [opL] using hu
  | succ j => simp at hx
theorem PlayR.diag {W : World} {A ia A2 ia2 : Option Addr} {n mx : Nat} {ts : List (Tab × List Col)} {xs : List (Idx × List Int)} {ts2 : List (Tab × List Col)} {xs2 : List (Idx × List Int)} (h : PlayR W A ia A2 ia2 n mx ts xs ts2 xs2) : PlayR W A ia A ia n mx ts xs ts xs := ⟨h.1, h.1, h.2.2.1, h.2.2.2.1, rfl, rfl, h.2.2.2.2.2.2⟩
theorem PlayR.one {W : World} {A ia A2 ia2 : Option Addr} {n mx : Nat} {ts : List (Tab × List Col)} {xs : List (Idx × List Int)} {ts2 : List (Tab × List Col)} {xs2 : List (Idx × List Int)} (h : PlayR W A ia A2 ia2 n mx ts xs ts2 xs2) {b : Nat} {p1 p4 : Option Addr} {p2 p3 p5 p6 : Nat} (hb : W.heap[b]? = some (.cells #[.slice p1 p2 p3, .slice p4 p5 p6] 36)) (r1 : Option Addr) (r2 r3 : Nat) (v : Value) : PlayR ((W.setCell ⟨b, 0, none⟩ (.slice r1 r2 r3)).setCell ⟨b, 1, none⟩ v) A ia A2 ia2 n mx ts xs ts2 xs2 := ⟨h.1.setBox hb r1 r2 r3 v, h.2.1.setBox hb r1 r2 r3 v, h.2.2⟩
/-- the box of what is done -/
structure OwnO (w : World) (kk : Int) (tn : ByteArray) (ta : Option Addr) (tl tc : Nat) (tr tx tw : Int) (un ut : ByteArray) (ua : Option Addr) (ul uc : Nat) (us ur ux : Int) (nm : ByteArray) (W : World) : Prop where
  below : Below w.heap.size w W
  o : W.heap[w.heap.size]? = some (.cells #[.int .i64 kk, .string tn, .slice ta tl tc, .int .i64 tr, .int .i64 tx, .int .i64 tw, .string un, .string ut, .slice ua ul uc, .int .i64 us, .int .i64 ur, .int .i64 ux, .string nm] 30)
theorem OwnO.keep {w : World} {kk : Int} {tn : ByteArray} {ta : Option Addr} {tl tc : Nat} {tr tx tw : Int} {un ut : ByteArray} {ua : Option Addr} {ul uc : Nat} {us ur ux : Int} {nm : ByteArray} {W W' : World} (h : OwnO w kk tn ta tl tc tr tx tw un ut ua ul uc us ur ux nm W) (hB : Below W.heap.size W W') : OwnO w kk tn ta tl tc tr tx tw un ut ua ul uc us ur ux nm W' := ⟨h.below.trans (hB.mono h.below.size), (hB.block _ (heap_lt h.o)).trans h.o⟩
/-- with the schema's -/
structure OwnA (w : World) (kk : Int) (tn : ByteArray) (ta : Option Addr) (tl tc : Nat) (tr tx tw : Int) (un ut : ByteArray) (ua : Option Addr) (ul uc : Nat) (us ur ux : Int) (nm : ByteArray) (bs : Nat) (A : Option Addr) (n c : Nat) (ia : Option Addr) (mx ic : Nat) (W : World) : Prop where
  op : OwnO w kk tn ta tl tc tr tx tw un ut ua ul uc us ur ux nm W
  s : W.heap[bs]? = some (.cells #[.slice A n c, .slice ia mx ic] 36)
  far : w.heap.size < bs
theorem OwnA.keep {w : World} {kk : Int} {tn : ByteArray} {ta : Option Addr} {tl tc : Nat} {tr tx tw : Int} {un ut : ByteArray} {ua : Option Addr} {ul uc : Nat} {us ur ux : Int} {nm : ByteArray} {bs : Nat} {A : Option Addr} {n c : Nat} {ia : Option Addr} {mx ic : Nat} {W W' : World} (h : OwnA w kk tn ta tl tc tr tx tw un ut ua ul uc us ur ux nm bs A n c ia mx ic W) (hB : Below W.heap.size W W') : OwnA w kk tn ta tl tc tr tx tw un ut ua ul uc us ur ux nm bs A n c ia mx ic W' := ⟨h.op.keep hB, (hB.block _ (heap_lt h.s)).trans h.s, h.far⟩
theorem OwnA.set {w : World} {kk : Int} {tn : ByteArray} {ta : Option Addr} {tl tc : Nat} {tr tx tw : Int} {un ut : ByteArray} {ua : Option Addr} {ul uc : Nat} {us ur ux : Int} {nm : ByteArray} {bs : Nat} {A : Option Addr} {n c : Nat} {ia : Option Addr} {mx ic : Nat} {W : World} (h : OwnA w kk tn ta tl tc tr tx tw un ut ua ul uc us ur ux nm bs A n c ia mx ic W) (B : Option Addr) (bn bc : Nat) (ib : Option Addr) (bm bi : Nat) : OwnA w kk tn ta tl tc tr tx tw un ut ua ul uc us ur ux nm bs B bn bc ib bm bi ((W.setCell ⟨bs, 0, none⟩ (.slice B bn bc)).setCell ⟨bs, 1, none⟩ (.slice ib bm bi)) := by
  have hf := h.far
  exact ⟨⟨(h.op.below.setCell (p := ⟨bs, 0, none⟩) (Nat.le_of_lt hf) _).setCell (p := ⟨bs, 1, none⟩) (Nat.le_of_lt hf) _, far2 h.op.o (by omega)⟩, box_two h.s _ _ _ _ _ _, hf⟩
/-- with the copy's -/
structure OwnC (w : World) (kk : Int) (tn : ByteArray) (ta : Option Addr) (tl tc : Nat) (tr tx tw : Int) (un ut : ByteArray) (ua : Option Addr) (ul uc : Nat) (us ur ux : Int) (nm : ByteArray) (bs : Nat) (A : Option Addr) (n c : Nat) (ia : Option Addr) (mx ic : Nat) (bk : Nat) (A2 : Option Addr) (c2 : Nat) (ia2 : Option Addr) (ic2 : Nat) (W : World) : Prop where
  a : OwnA w kk tn ta tl tc tr tx tw un ut ua ul uc us ur ux nm bs A n c ia mx ic W
  k : W.heap[bk]? = some (.cells #[.slice A2 n c2, .slice ia2 mx ic2] 36)
  far : w.heap.size < bk
theorem OwnC.keep {w : World} {kk : Int} {tn : ByteArray} {ta : Option Addr} {tl tc : Nat} {tr tx tw : Int} {un ut : ByteArray} {ua : Option Addr} {ul uc : Nat} {us ur ux : Int} {nm : ByteArray} {bs : Nat} {A : Option Addr} {n c : Nat} {ia : Option Addr} {mx ic : Nat} {bk : Nat} {A2 : Option Addr} {c2 : Nat} {ia2 : Option Addr} {ic2 : Nat} {W W' : World} (h : OwnC w kk tn ta tl tc tr tx tw un ut ua ul uc us ur ux nm bs A n c ia mx ic bk A2 c2 ia2 ic2 W) (hB : Below W.heap.size W W') : OwnC w kk tn ta tl tc tr tx tw un ut ua ul uc us ur ux nm bs A n c ia mx ic bk A2 c2 ia2 ic2 W' := ⟨h.a.keep hB, (hB.block _ (heap_lt h.k)).trans h.k, h.far⟩
theorem OwnC.kind {w : World} {kk : Int} {tn : ByteArray} {ta : Option Addr} {tl tc : Nat} {tr tx tw : Int} {un ut : ByteArray} {ua : Option Addr} {ul uc : Nat} {us ur ux : Int} {nm : ByteArray} {bs : Nat} {A : Option Addr} {n c : Nat} {ia : Option Addr} {mx ic : Nat} {bk : Nat} {A2 : Option Addr} {c2 : Nat} {ia2 : Option Addr} {ic2 : Nat} {W : World} (h : OwnC w kk tn ta tl tc tr tx tw un ut ua ul uc us ur ux nm bs A n c ia mx ic bk A2 c2 ia2 ic2 W) (k : Int) : OwnC w k tn ta tl tc tr tx tw un ut ua ul uc us ur ux nm bs A n c ia mx ic bk A2 c2 ia2 ic2 (W.setCell ⟨w.heap.size, 0, none⟩ (.int .i64 k)) := by
  have hf := h.far
  have hf2 := h.a.far
  refine ⟨⟨⟨h.a.op.below.setCell (p := ⟨w.heap.size, 0, none⟩) (Nat.le_refl _) _, ?_⟩, ?_, hf2⟩, ?_, hf⟩
  · rw [setCell_eq_setRow W _ 0 _ 30 _ _ h.a.op.o]
    exact setRow_heap W _ _ _ 30 _ h.a.op.o
  · rw [heap_setFar _ (by omega)]; exact h.a.s
  · rw [heap_setFar _ (by omega)]; exact h.k
theorem CellsAt.setOne {W : World} {K : Nat} {A : Option Addr} {ls : List (List Value)} (h : CellsAt W K A ls) {b : Nat} {r : Array Value} {ty : TypeId} {z : Int} (hb : W.heap[b]? = some (.cells r ty (0, 0))) (h0 : r[0]? = some (.int .i64 z)) (hne : ∀ x ∈ ls, ∀ z, x[0]? ≠ some (.int .i64 z)) (v : Value) : CellsAt (W.setCell ⟨b, 0, none⟩ v) K A ls := by
  refine ⟨h.1, h.2.imp id fun ⟨g, off, h1, h2, h3⟩ => ⟨g, off, h1, by simp only [World.setCell, Array.size_modify]; exact h2, fun i x hx => ⟨(h3 i x hx).1, fun n u hu => ?_⟩⟩⟩
  have hc := (h3 i x hx).2 n u hu
  by_cases hg : g = b
  · subst hg
    rw [cell_of_row W _ _ _ _ _ hb] at hc
    have hne0 : off + i * K + n ≠ 0 := fun he => by
      have hn : n = 0 := by omega
      subst hn
      rw [he, h0] at hc
      cases hc
      exact hne x (List.mem_of_getElem? hx) _ hu
    rw [setCell_eq_setRow W _ 0 _ ty _ _ hb, cell_of_row _ _ _ _ _ _ (setRow_heap W _ _ _ ty _ hb)]
    rw [← hc]
    exact Array.getElem?_setIfInBounds_ne (Ne.symm hne0)
  · refine Eq.trans ?_ hc
    unfold World.cell?
    rw [heap_setFar v hg]
/-- places that lie in no cell of a block -/
def FarX (b : Nat) (xs : List (Idx × List Int)) : Prop := ∀ p ∈ xs, ∀ a, p.1.pa = some a → a.block ≠ b
theorem OwnS.farX {base h : Nat} {v u : Value} {ts : List (Tab × List Col)} {xs : List (Idx × List Int)} {W : World} (hS : OwnS base h v u ts xs W) {b : Nat} (hb : b < base) : FarX b xs := fun p hp a ha => by
  have := ((hS.places p hp).2.2.2.2.2 a ha).1
  omega
theorem ReadP.setOne {W : World} {A ia : Option Addr} {ts : List (Tab × List Col)} {xs : List (Idx × List Int)} (h : ReadP W A ia ts xs) {b : Nat} {r : Array Value} {ty : TypeId} {z : Int} (hb : W.heap[b]? = some (.cells r ty (0, 0))) (h0 : r[0]? = some (.int .i64 z)) (hf : FarX b xs) (v : Value) : ReadP (W.setCell ⟨b, 0, none⟩ v) A ia ts xs := by
  refine ⟨⟨CellsAt.setOne h.1.1 hb h0 (fun x hx z => ?_) v, fun p hp => ⟨CellsAt.setOne (h.1.2 p hp).1 hb h0 (fun x hx z => ?_) v, (h.1.2 p hp).2⟩⟩, ⟨CellsAt.setOne h.2.1.1 hb h0 (fun x hx z => ?_) v, fun p hp => ⟨IntsAt.setFar (h.2.1.2 p hp).1 b 0 v (hf p hp), (h.2.1.2 p hp).2⟩⟩, h.2.2⟩
  all_goals
    obtain ⟨t, _, rfl⟩ := List.mem_map.1 hx
    intro e
    cases e
theorem PlayR.setOne {W : World} {A ia A2 ia2 : Option Addr} {n mx : Nat} {ts : List (Tab × List Col)} {xs : List (Idx × List Int)} {ts2 : List (Tab × List Col)} {xs2 : List (Idx × List Int)} (h : PlayR W A ia A2 ia2 n mx ts xs ts2 xs2) {b : Nat} {r : Array Value} {ty : TypeId} {z : Int} (hb : W.heap[b]? = some (.cells r ty (0, 0))) (h0 : r[0]? = some (.int .i64 z)) (hf : FarX b xs) (hf2 : FarX b xs2) (v : Value) : PlayR (W.setCell ⟨b, 0, none⟩ v) A ia A2 ia2 n mx ts xs ts2 xs2 := ⟨h.1.setOne hb h0 hf v, h.2.1.setOne hb h0 hf2 v, h.2.2⟩
/-- what do answers, as this law goes on with it -/
def OwnD (W : World) (A : Option Addr) (n c : Nat) (ia : Option Addr) (mx ic : Nat) (e : Ending) (w' : World) : Prop := Below W.heap.size W w' ∧
  ((∃ (q1 : Option Addr) (q2 q3 : Nat) (q4 : Option Addr) (q5 q6 : Nat), e = .returned (.tuple #[.agg #[.slice A n c, .slice ia mx ic], .agg #[.slice q1 q2 q3, .slice q4 q5 q6], .bool true])) ∨
   (∃ (A' ia' : Option Addr) (n' mx' c' ic' h : Nat) (ts' : List (Tab × List Col)) (xs' : List (Idx × List Int)) (q1 : Option Addr) (q2 q3 : Nat) (q4 : Option Addr) (q5 q6 : Nat), e = .returned (.tuple #[.agg #[.slice A' n' c', .slice ia' mx' ic'], .agg #[.slice q1 q2 q3, .slice q4 q5 q6], .bool true]) ∧
     OwnS W.heap.size h (.slice A' n' c') (.slice ia' mx' ic') ts' xs' w' ∧ n' = ts'.length ∧ mx' = xs'.length ∧ n' ≤ 8 ∧ mx' ≤ 12))
theorem own_do (m : Int) (gt : Nat → Nat) (ht : ∀ j, j < 23 → finD (Ieee.double.read (gt j)) = true) (A : Option Addr) (n c : Nat) (ia : Option Addr) (mx ic : Nat) (ts : List (Tab × List Col)) (xs : List (Idx × List Int)) (o : Opv) (W : World) (hG : Glob m gt W) (h : PlayR W A ia A ia n mx ts xs ts xs) (hO : ReadO W o) (h1 : o.cl.length ≤ 20) (h2 : o.xl.length ≤ 20) (kk : Int) :
    Calls Tryz.prog 9 #[.agg #[.slice A n c, .slice ia mx ic], .agg #[.slice A n c, .slice ia mx ic], .agg #[.int .i64 kk, .string o.tab.name, .slice o.tab.ca o.tab.cn o.tab.cc, .int .i64 o.tab.root, .int .i64 o.tab.next, .int .i64 o.tab.rows, .string o.idx.name, .string o.idx.table, .slice o.idx.pa o.idx.pn o.idx.pc, .int .i64 o.idx.state, .int .i64 o.idx.root, .int .i64 o.idx.cursor, .string o.nm]] W (OwnD W A n c ia mx ic) := by
  obtain ⟨r1, r2, e1, e2, e3, e4, h8, h12⟩ := h
  obtain ⟨⟨a1, a2, a3, a4⟩, b1, b2, b3, b4⟩ := hO
  have hl := op_any (kind := kk) (t := ptOf (o.tab, o.cl)) (x := pxOf (o.idx, o.xl)) (nm := o.nm) (T := ts.map ptOf) (X := xs.map pxOf) (by rw [List.length_map]; omega) (by rw [List.length_map]; omega)
  have hd := do_all m gt ht A c ts ia ic xs A c ts ia ic xs kk o.tab o.cl o.idx o.xl o.nm W hG ⟨r1.1, r1.2.1, by omega, by omega, r1.2.2⟩ ⟨r2.1, r2.2.1, by omega, by omega, r2.2.2⟩ e3 e4 ⟨a1, a2, a3, a4, by omega⟩ ⟨b1, b2, b3, b4, by omega⟩ (by omega) (by omega)
  rw [e1, e2] at hd
  refine hd.mono fun e w' hp => ?_
  obtain ⟨hB, hp⟩ := hp
  rcases hp with ⟨_, rfl⟩ | ⟨h0', A', ia', A2', ia2', c', ic', c2', ic2', hh, ts', xs', ts2', xs2', rfl, hS, hR, f1, f2, f3, f4⟩
  · exact ⟨hB, Or.inl ⟨_, _, _, _, _, _, rfl⟩⟩
  · obtain ⟨g1, g2⟩ := op_ok h0' (by rw [List.length_map]; omega) (by rw [List.length_map]; omega)
    rw [← f1, List.length_map] at g1
    rw [← f2, List.length_map] at g2
    exact ⟨hB, Or.inr ⟨A', ia', ts'.length, xs'.length, c', ic', hh, ts', xs', _, _, _, _, _, _, rfl, hS, rfl, rfl, g1, g2⟩⟩
set_option maxRecDepth 100000 in
set_option maxHeartbeats 16000000 in
theorem own_any (m : Int) (gt : Nat → Nat) (ht : ∀ j, j < 23 → finD (Ieee.double.read (gt j)) = true) (B : Option Addr) (cB : Nat) (l : List Opv) (o : Opv) (w : World) (hG : Glob m gt w) (hL : OpsAt w B l) (hO : ReadO w o) : Calls Tryz.prog 3 #[.slice B l.length cB, .agg (opL o).toArray] w (RetT w) := by
  have HLV := Lib.hid (show ∀ W, Below w.heap.size w W → Calls Tryz.prog 7 #[] W (RetT W) from fun W hB => lives_any m gt ht W (hG.keep hB))
  have HFT := Lib.hid (show ∀ W, Below w.heap.size w W → Calls Tryz.prog 8 #[.slice B l.length cB] W (FitsP W l) from fun W hB => fits_any B cB l W ⟨CellsAt.keep hB hL.1, fun o ho => (hL.2 o ho).keep hB⟩)
  have HF1 := Lib.hid (show ∀ (b : Nat) W, Below w.heap.size w W → W.heap[b]? = some (.cells (opL o).toArray 30) → Calls Tryz.prog 8 #[.slice (some ⟨b, 0, none⟩) 1 1] W (FitsP W [o]) from fun b W hB hb => fits_any (some ⟨b, 0, none⟩) 1 [o] W (one_op hb (hO.keep hB)))
  have HDO := Lib.hid (show ∀ (W : World) (A : Option Addr) (n c : Nat) (ia : Option Addr) (mx ic : Nat) (ts : List (Tab × List Col)) (xs : List (Idx × List Int)) (p : Opv), Below w.heap.size w W → w.heap.size < W.heap.size → FarX w.heap.size xs → PlayR W A ia A ia n mx ts xs ts xs → ReadO W p → p.cl.length ≤ 20 → p.xl.length ≤ 20 → Calls Tryz.prog 9 #[.agg #[.slice A n c, .slice ia mx ic], .agg #[.slice A n c, .slice ia mx ic], .agg #[.int .i64 p.kind, .string p.tab.name, .slice p.tab.ca p.tab.cn p.tab.cc, .int .i64 p.tab.root, .int .i64 p.tab.next, .int .i64 p.tab.rows, .string p.idx.name, .string p.idx.table, .slice p.idx.pa p.idx.pn p.idx.pc, .int .i64 p.idx.state, .int .i64 p.idx.root, .int .i64 p.idx.cursor, .string p.nm]] W fun e w' => ∃ (A' ia' : Option Addr) (n' mx' c' ic' : Nat) (ts' : List (Tab × List Col)) (xs' : List (Idx × List Int)) (q1 : Option Addr) (q2 q3 : Nat) (q4 : Option Addr) (q5 q6 : Nat), e = .returned (.tuple #[.agg #[.slice A' n' c', .slice ia' mx' ic'], .agg #[.slice q1 q2 q3, .slice q4 q5 q6], .bool true]) ∧ Below W.heap.size W w' ∧ PlayR w' A' ia' A' ia' n' mx' ts' xs' ts' xs' ∧ FarX w.heap.size xs' from fun W A n c ia mx ic ts xs p hB hlt hf h1 h2 h3 h4 => (own_do m gt ht A n c ia mx ic ts xs p W (hG.keep hB) h1 h2 h3 h4 p.kind).mono fun e w' hp => by
    obtain ⟨hB2, ⟨q1, q2, q3, q4, q5, q6, rfl⟩ | ⟨A', ia', n', mx', c', ic', h, ts', xs', q1, q2, q3, q4, q5, q6, rfl, hS, l1, l2, l8, l12⟩⟩ := hp
    · exact ⟨_, _, _, _, _, _, _, _, _, _, _, _, _, _, rfl, hB2, h1.keep hB2, hf⟩
    · have hR := hS.readP l1 l2 (by omega) (by omega)
      exact ⟨_, _, _, _, _, _, _, _, _, _, _, _, _, _, rfl, hB2, ⟨hR, hR, l1.symm, l2.symm, rfl, rfl, l8, l12⟩, hS.farX hlt⟩)
  have HDK := Lib.hid (show ∀ (W : World) (A : Option Addr) (n c : Nat) (ia : Option Addr) (mx ic : Nat) (ts : List (Tab × List Col)) (xs : List (Idx × List Int)) (k : Int), Below w.heap.size w W → PlayR W A ia A ia n mx ts xs ts xs → o.cl.length ≤ 20 → o.xl.length ≤ 20 → Calls Tryz.prog 9 #[.agg #[.slice A n c, .slice ia mx ic], .agg #[.slice A n c, .slice ia mx ic], .agg #[.int .i64 k, .string o.tab.name, .slice o.tab.ca o.tab.cn o.tab.cc, .int .i64 o.tab.root, .int .i64 o.tab.next, .int .i64 o.tab.rows, .string o.idx.name, .string o.idx.table, .slice o.idx.pa o.idx.pn o.idx.pc, .int .i64 o.idx.state, .int .i64 o.idx.root, .int .i64 o.idx.cursor, .string o.nm]] W (OwnD W A n c ia mx ic) from fun W A n c ia mx ic ts xs k hB h1 h3 h4 => own_do m gt ht A n c ia mx ic ts xs o W (hG.keep hB) h1 (hO.keep hB) h3 h4 k)
  have HCL := Lib.hid (show ∀ (W : World) (A : Option Addr) (n c : Nat) (ia : Option Addr) (mx ic : Nat) (ts : List (Tab × List Col)) (xs : List (Idx × List Int)), PlayR W A ia A ia n mx ts xs ts xs → Calls Tryz.prog 10 #[.agg #[.slice A n c, .slice ia mx ic]] W fun e w' => ∃ (va ua2 : Option Addr) (vc uc2 h : Nat) (ts2 : List (Tab × List Col)) (xs2 : List (Idx × List Int)), e = .returned (.agg #[.slice va n vc, .slice ua2 mx uc2]) ∧ Below W.heap.size W w' ∧ OwnS W.heap.size h (.slice va n vc) (.slice ua2 mx uc2) ts2 xs2 w' ∧ n = ts2.length ∧ mx = xs2.length ∧ PlayR w' A ia va ua2 n mx ts xs ts2 xs2 ∧ h = w'.heap.size from fun W A n c ia mx ic ts xs h => by
    obtain ⟨r1, r2, e1, e2, e3, e4, h8, h12⟩ := h
    have hc := clones_own A c ts ia ic xs W r1.1 r1.2.1 (by omega) (by omega) r1.2.2.1 r1.2.2.2
    rw [e1, e2] at hc
    refine hc.mono fun e w' h => ?_
    obtain ⟨va, ua2, vc, uc2, ts2, xs2, rfl, hB, hS, f1, f2, _, _, _⟩ := h
    have l1 : ts2.length = ts.length := by have := congrArg List.length f1; rwa [List.length_map, List.length_map] at this
    have l2 : xs2.length = xs.length := by have := congrArg List.length f2; rwa [List.length_map, List.length_map] at this
    have hS1 := hS w'.heap.size (Nat.le_refl _)
    rw [e1, e2] at hS1 ⊢
    exact ⟨va, ua2, vc, uc2, _, ts2, xs2, rfl, hB, hS1.le (by omega), by omega, by omega, ⟨r1.keep hB, hS1.readP (by omega) (by omega) (by omega) (by omega), e1, e2, f1, f2, h8, h12⟩, rfl⟩)
  have HSS := Lib.hid (show ∀ (W : World) (A : Option Addr) (n c : Nat) (ia : Option Addr) (mx ic : Nat) (ts : List (Tab × List Col)) (xs : List (Idx × List Int)) (A2 : Option Addr) (c2 : Nat) (ia2 : Option Addr) (ic2 : Nat) (ts2 : List (Tab × List Col)) (xs2 : List (Idx × List Int)), PlayR W A ia A2 ia2 n mx ts xs ts2 xs2 → Calls Tryz.prog 11 #[.agg #[.slice A n c, .slice ia mx ic], .agg #[.slice A2 n c2, .slice ia2 mx ic2]] W (RetV (.bool true) W) from fun W A n c ia mx ic ts xs A2 c2 ia2 ic2 ts2 xs2 h => by
    obtain ⟨l1, l2⟩ := h.len2
    obtain ⟨r1, r2, e1, e2, e3, e4, h8, h12⟩ := h
    have hs := same_eq A c ts ia ic xs A2 c2 ts2 ia2 ic2 xs2 W r1.1 r1.2.1 r2.1 r2.2.1 e3.symm e4.symm
    rw [e1, e2, l1, l2] at hs
    exact hs)
  have HSN := Lib.hid (show ∀ (W : World) (A : Option Addr) (n c : Nat) (ia : Option Addr) (mx ic : Nat) (ts : List (Tab × List Col)) (xs : List (Idx × List Int)) (A2 : Option Addr) (n2 c2 : Nat) (ia2 : Option Addr) (m2 ic2 : Nat) (ts2 : List (Tab × List Col)) (xs2 : List (Idx × List Int)), ReadP W A ia ts xs → ReadP W A2 ia2 ts2 xs2 → n = ts.length → mx = xs.length → n2 = ts2.length → m2 = xs2.length → Calls Tryz.prog 11 #[.agg #[.slice A n c, .slice ia mx ic], .agg #[.slice A2 n2 c2, .slice ia2 m2 ic2]] W (AnsP W) from fun W A n c ia mx ic ts xs A2 n2 c2 ia2 m2 ic2 ts2 xs2 h1 h2 e1 e2 e3 e4 => by
    subst e1 e2 e3 e4
    exact same_any A c ts ia ic xs A2 c2 ts2 ia2 ic2 xs2 W h1.1 h1.2.1 h2.1 h2.2.1)
  have HL := Lib.hid hL
  obtain ⟨cnt, hn⟩ : ∃ n, n = l.length := ⟨_, rfl⟩
  have HN := Lib.hid hn
  obtain ⟨kk0, ⟨tn, ta, tl, tc, tr, tx, tw⟩, cl, ⟨un, ut, ua, ul, uc, us, ur, ux⟩, xl, nm⟩ := o
  dsimp only [opL] at HF1 HDK ⊢
  rw [← hn] at HFT ⊢
  clear hG ht hL hn hO
  have HO0 := Lib.hid (show OwnO w kk0 tn ta tl tc tr tx tw un ut ua ul uc us ur ux nm (w.alloc (.cells #[.int .i64 kk0, .string tn, .slice ta tl tc, .int .i64 tr, .int .i64 tx, .int .i64 tw, .string un, .string ut, .slice ua ul uc, .int .i64 us, .int .i64 ur, .int .i64 ux, .string nm] 30)) from ⟨below1 w _, heap_alloc_new w _⟩)
  go_enter Tryz.func3, Tryz.ntmps3
  go_wp2_with (first
    | (go_at_call 7; first
       | (with_reducible refine (HLV.out _ HBV.out).mono ?_
          rintro e w9 ⟨rfl, hB9⟩
          have HB9 := Lib.hid (HBV.out.trans (hB9.mono HBV.out.size))
          clear hB9)
       | (with_reducible refine (HLV.out _ HO0.out.below).mono ?_
          rintro e w1 ⟨rfl, hB1⟩
          have HK1 := Lib.hid (HO0.out.keep hB1)
          clear hB1))
    | (go_at_call 8; first
       | (with_reducible refine (HF1.out _ _ HKF.out.below HFN.out).mono ?_
          rintro e w3 ⟨r, rfl, hr, hB3⟩
          have HK3 := Lib.hid (HKF.out.keep hB3)
          have HR3 := Lib.hid hr
          clear HBV o0 o1 o2 o3 o4 o5 o6 o7 o8 o9 o10 o11 o12
          have HBV := Lib.hid HK3.out.below
          clear hB3 hr
          cases r)
       | (with_reducible refine (HFT.out _ HK1.out.below).mono ?_
          rintro e w2 ⟨r, rfl, hr, hB2⟩
          have HK2 := Lib.hid (HK1.out.keep hB2)
          have HR2 := Lib.hid hr
          have HBV := Lib.hid HK2.out.below
          have o0 := cell_of_row _ _ 0 _ _ _ HK2.out.o
          have o1 := cell_of_row _ _ 1 _ _ _ HK2.out.o
          have o2 := cell_of_row _ _ 2 _ _ _ HK2.out.o
          have o3 := cell_of_row _ _ 3 _ _ _ HK2.out.o
          have o4 := cell_of_row _ _ 4 _ _ _ HK2.out.o
          have o5 := cell_of_row _ _ 5 _ _ _ HK2.out.o
          have o6 := cell_of_row _ _ 6 _ _ _ HK2.out.o
          have o7 := cell_of_row _ _ 7 _ _ _ HK2.out.o
          have o8 := cell_of_row _ _ 8 _ _ _ HK2.out.o
          have o9 := cell_of_row _ _ 9 _ _ _ HK2.out.o
          have o10 := cell_of_row _ _ 10 _ _ _ HK2.out.o
          have o11 := cell_of_row _ _ 11 _ _ _ HK2.out.o
          have o12 := cell_of_row _ _ 12 _ _ _ HK2.out.o
          have HFN := Lib.hid (heap_alloc_new w2 (.cells #[.int .i64 kk0, .string tn, .slice ta tl tc, .int .i64 tr, .int .i64 tx, .int .i64 tw, .string un, .string ut, .slice ua ul uc, .int .i64 us, .int .i64 ur, .int .i64 ux, .string nm] 30))
          have HKF := Lib.hid (HK2.out.keep (below1 w2 (.cells #[.int .i64 kk0, .string tn, .slice ta tl tc, .int .i64 tr, .int .i64 tx, .int .i64 tw, .string un, .string ut, .slice ua ul uc, .int .i64 us, .int .i64 ur, .int .i64 ux, .string nm] 30)))
          clear hB2 hr
          cases r))
    | fail)
  · go_ret
    exact ⟨rfl, HB9.out⟩
  · go_ret
    exact ⟨rfl, HB9.out⟩
  have HSZ := Lib.hid (show cnt ≤ 60 ∧ (∀ o ∈ l, o.cl.length ≤ 20 ∧ o.xl.length ≤ 20) ∧ cl.length ≤ 20 ∧ xl.length ≤ 20 from by
    have h2 := HR2.out (by first | rfl | trivial)
    have h3 := HR3.out (by first | rfl | trivial)
    rw [← HN.out] at h2
    exact ⟨h2.1, h2.2, h3.2 _ (List.mem_singleton.2 rfl)⟩)
  have hc60 := HSZ.out.1
  have HDK := Lib.hid (fun W A n c ia mx ic ts xs k hB h1 => HDK.out W A n c ia mx ic ts xs k hB h1 HSZ.out.2.2.1 HSZ.out.2.2.2)
  clear HR2 HR3 HF1 HFT HFN HKF HBV
  obtain ⟨bs, hbs⟩ : ∃ bs, bs = w3.heap.size := ⟨_, rfl⟩
  have HBS := Lib.hid hbs
  rw [← hbs]
  have HA0 := Lib.hid (show OwnA w kk0 tn ta tl tc tr tx tw un ut ua ul uc us ur ux nm bs none 0 0 none 0 0 (w3.alloc (.cells #[.slice none 0 0, .slice none 0 0] 36)) from by
    rw [hbs]
    exact ⟨HK3.out.keep (below1 w3 _), heap_alloc_new w3 _, heap_lt HK3.out.o⟩)
  have HR0 := Lib.hid (show ∀ W : World, PlayR W none none none none 0 0 [] [] [] [] from fun W => ⟨readP_nil W, readP_nil W, rfl, rfl, rfl, rfl, Nat.zero_le _, Nat.zero_le _⟩)
  clear hbs
  go_loopw [36] (fun i wr => ∃ (k : Nat) (A ia : Option Addr) (n mx c ic : Nat) (ts : List (Tab × List Col)) (xs : List (Idx × List Int)), k ≤ cnt ∧ i = .int .i64 k ∧ Hid (OwnA w kk0 tn ta tl tc tr tx tw un ut ua ul uc us ur ux nm bs A n c ia mx ic wr) ∧ Hid (PlayR wr A ia A ia n mx ts xs ts xs) ∧ Hid (FarX w.heap.size xs)) (fun i _ => cnt - (intOf i).toNat)
  case atStart => exact ⟨0, none, none, 0, 0, 0, 0, [], [], Nat.zero_le _, rfl, HA0, Lib.hid (HR0.out _), Lib.hid (fun p hp => by cases hp)⟩
  case round =>
    obtain ⟨k, A, ia, n, mx, c, ic, ts, xs, hk, rfl, HK, HR, HFX⟩ := hrel
    obtain ⟨wo, rfl⟩ : ∃ wo : World, wo = wr := ⟨_, rfl⟩
    by_cases hkn : k < cnt
    · obtain ⟨p, hx⟩ : ∃ x, l[k]? = some x := ⟨_, List.getElem?_eq_getElem (by have := HN.out; omega)⟩
      have hkn2 : ((k : Int) < (cnt : Int)) = True := eq_true (by omega)
      obtain ⟨b, off, rfl, HC⟩ := HL.out.cell hx
      have HRO := Lib.hid (HL.out.2 p (List.mem_of_getElem? hx))
      have HSO := Lib.hid (HSZ.out.2.1 p (List.mem_of_getElem? hx))
      have HD1 := Lib.hid (fun W (A : Option Addr) (n c : Nat) (ia : Option Addr) (mx ic : Nat) ts xs hB hlt hf h1 => HDO.out W A n c ia mx ic ts xs p hB hlt hf h1 (HRO.out.keep hB) HSO.out.1 HSO.out.2)
      clear hx
      obtain ⟨pk, ⟨pn, pa, pl, pc, pr, px, pw⟩, pcl, ⟨yn, yt, ya, yl, yc, ys, yr, yx⟩, pxl, pm⟩ := p
      dsimp only at HD1
      have p0 : wo.cell? ⟨b, off + k * 13, none⟩ = some (.int .i64 pk) := HC.out _ HK.out.op.below 0 _ rfl
      have p1 : wo.cell? ⟨b, off + k * 13 + 1, none⟩ = some (.string pn) := HC.out _ HK.out.op.below 1 _ rfl
      have p2 : wo.cell? ⟨b, off + k * 13 + 2, none⟩ = some (.slice pa pl pc) := HC.out _ HK.out.op.below 2 _ rfl
      have p3 : wo.cell? ⟨b, off + k * 13 + 3, none⟩ = some (.int .i64 pr) := HC.out _ HK.out.op.below 3 _ rfl
      have p4 : wo.cell? ⟨b, off + k * 13 + 4, none⟩ = some (.int .i64 px) := HC.out _ HK.out.op.below 4 _ rfl
      have p5 : wo.cell? ⟨b, off + k * 13 + 5, none⟩ = some (.int .i64 pw) := HC.out _ HK.out.op.below 5 _ rfl
      have p6 : wo.cell? ⟨b, off + k * 13 + 6, none⟩ = some (.string yn) := HC.out _ HK.out.op.below 6 _ rfl
      have p7 : wo.cell? ⟨b, off + k * 13 + 7, none⟩ = some (.string yt) := HC.out _ HK.out.op.below 7 _ rfl
      have p8 : wo.cell? ⟨b, off + k * 13 + 8, none⟩ = some (.slice ya yl yc) := HC.out _ HK.out.op.below 8 _ rfl
      have p9 : wo.cell? ⟨b, off + k * 13 + 9, none⟩ = some (.int .i64 ys) := HC.out _ HK.out.op.below 9 _ rfl
      have p10 : wo.cell? ⟨b, off + k * 13 + 10, none⟩ = some (.int .i64 yr) := HC.out _ HK.out.op.below 10 _ rfl
      have p11 : wo.cell? ⟨b, off + k * 13 + 11, none⟩ = some (.int .i64 yx) := HC.out _ HK.out.op.below 11 _ rfl
      have p12 : wo.cell? ⟨b, off + k * 13 + 12, none⟩ = some (.string pm) := HC.out _ HK.out.op.below 12 _ rfl
      have HK1 := Lib.hid (HK.out.keep (below1 wo (.cells #[.int .i64 pk, .string pn, .slice pa pl pc, .int .i64 pr, .int .i64 px, .int .i64 pw, .string yn, .string yt, .slice ya yl yc, .int .i64 ys, .int .i64 yr, .int .i64 yx, .string pm] 30)))
      have HR1 := Lib.hid (HR.out.keep (below1 wo (.cells #[.int .i64 pk, .string pn, .slice pa pl pc, .int .i64 pr, .int .i64 px, .int .i64 pw, .string yn, .string yt, .slice ya yl yc, .int .i64 ys, .int .i64 yr, .int .i64 yx, .string pm] 30)))
      have HO1 := Lib.hid (show (wo.alloc (.cells #[.int .i64 pk, .string pn, .slice pa pl pc, .int .i64 pr, .int .i64 px, .int .i64 pw, .string yn, .string yt, .slice ya yl yc, .int .i64 ys, .int .i64 yr, .int .i64 yx, .string pm] 30)).heap[wo.heap.size]? = some (.cells #[.int .i64 pk, .string pn, .slice pa pl pc, .int .i64 pr, .int .i64 px, .int .i64 pw, .string yn, .string yt, .slice ya yl yc, .int .i64 ys, .int .i64 yr, .int .i64 yx, .string pm] 30) from heap_alloc_new wo _)
      have s0 := cell_of_row _ _ 0 _ _ _ HK1.out.s
      have s1 := cell_of_row _ _ 1 _ _ _ HK1.out.s
      go_wp2_with (first
        | (go_at_call 9; (with_reducible refine (HD1.out _ _ _ _ _ _ _ _ _ HK1.out.op.below (heap_lt HK1.out.op.o) HFX.out HR1.out).mono ?_); rintro e w5 ⟨A', ia', n', mx', c', ic', ts', xs', q1, q2, q3, q4, q5, q6, rfl, hB5, hR5, hF5⟩
           have HFX5 := Lib.hid hF5
           have HQ1 := Lib.hid (heap_alloc_new w5 (.cells #[.slice A' n' c', .slice ia' mx' ic'] 36))
           have HQ2 := Lib.hid ((heap_alloc_old (w5.alloc (.cells #[.slice A' n' c', .slice ia' mx' ic'] 36)) (.cells #[.slice q1 q2 q3, .slice q4 q5 q6] 36) (by simp)).trans HQ1.out)
           have HK5 := Lib.hid ((HK1.out.keep hB5).keep ((below1 w5 (.cells #[.slice A' n' c', .slice ia' mx' ic'] 36)).trans ((below1 _ (.cells #[.slice q1 q2 q3, .slice q4 q5 q6] 36)).mono (by simp))))
           have HR5 := Lib.hid (hR5.keep ((below1 w5 (.cells #[.slice A' n' c', .slice ia' mx' ic'] 36)).trans ((below1 _ (.cells #[.slice q1 q2 q3, .slice q4 q5 q6] 36)).mono (by simp))))
           clear hB5 hR5 hF5 s0 s1 p0 p1 p2 p3 p4 p5 p6 p7 p8 p9 p10 p11 p12
           have t0 := cell_of_row _ _ 0 _ _ _ HQ2.out
           have t1 := cell_of_row _ _ 1 _ _ _ HQ2.out
           have s0 := cell_of_row _ _ 0 _ _ _ HK5.out.s
           have s1 := cell_of_row _ _ 1 _ _ _ HK5.out.s
           have z0 := frozen_of_row _ _ 0 _ _ HK5.out.s
           have z1 := frozen_of_row _ _ 1 _ _ HK5.out.s)
        | fail)
      go_roundw
      case rel => exact ⟨k + 1, A', ia', n', mx', c', ic', ts', xs', by omega, by go_num, Lib.hid (HK5.out.set A' n' c' ia' mx' ic'), Lib.hid (HR5.out.one HK5.out.s A' n' c' (.slice ia' mx' ic')), HFX5⟩
      case measure => simp [intOf] <;> omega
    · obtain rfl : cnt = k := by omega
      have s0 := cell_of_row _ _ 0 _ _ _ HK.out.s
      have s1 := cell_of_row _ _ 1 _ _ _ HK.out.s
      go_wp2_with (first
        | (go_at_call 10; (with_reducible refine (HCL.out _ _ _ _ _ _ _ _ _ HR.out).mono ?_); rintro e w7 ⟨A2, ia2, c2, ic2, hh, ts2, xs2, rfl, hB7, hS7, l1, l2, hR7, hh7⟩
           have HFX2 := Lib.hid (hS7.farX (b := w.heap.size) (heap_lt HK.out.op.o))
           have HK7 := Lib.hid (HK.out.keep hB7)
           have HR7 := Lib.hid hR7
           clear hB7 hR7 hS7 l1 l2 hh7 s0 s1)
        | fail)
      obtain ⟨bk, hbk⟩ : ∃ bk, bk = w7.heap.size := ⟨_, rfl⟩
      rw [← hbk]
      have HC0 := Lib.hid (show OwnC w kk0 tn ta tl tc tr tx tw un ut ua ul uc us ur ux nm bs A n c ia mx ic bk A2 c2 ia2 ic2 (w7.alloc (.cells #[.slice A2 n c2, .slice ia2 mx ic2] 36)) from by
        rw [hbk]
        exact ⟨HK7.out.keep (below1 w7 _), heap_alloc_new w7 _, heap_lt HK7.out.op.o⟩)
      have HR8 := Lib.hid (HR7.out.keep (below1 w7 (.cells #[.slice A2 n c2, .slice ia2 mx ic2] 36)))
      clear hbk HK7 HR7 HK HR HA0 HR0
      go_loopw [53] (fun i wr => ∃ (k : Nat) (kk : Int), k ≤ 4 ∧ i = .int .i64 k ∧ Hid (OwnC w kk tn ta tl tc tr tx tw un ut ua ul uc us ur ux nm bs A n c ia mx ic bk A2 c2 ia2 ic2 wr) ∧ Hid (PlayR wr A ia A2 ia2 n mx ts xs ts2 xs2)) (fun i _ => 4 - (intOf i).toNat)
      case atStart => exact ⟨0, kk0, by omega, rfl, HC0, HR8⟩
      case round =>
        obtain ⟨k, kk, hk, rfl, HK, HR⟩ := hrel
        obtain ⟨wo, rfl⟩ : ∃ wo : World, wo = wr := ⟨_, rfl⟩
        by_cases hk4 : k < 4
        · have hk2 : ((k : Int) < 4) = True := eq_true (by omega)
          have o0 := cell_of_row _ _ 0 _ _ _ HK.out.a.op.o
          have z0 := frozen_of_row _ _ 0 _ _ HK.out.a.op.o
          have HKS := Lib.hid (HK.out.kind (k : Int))
          have HRS := Lib.hid (HR.out.setOne HK.out.a.op.o rfl HFX.out HFX2.out (.int .i64 (k : Int)))
          have s0 := cell_of_row _ _ 0 _ _ _ HKS.out.a.s
          have s1 := cell_of_row _ _ 1 _ _ _ HKS.out.a.s
          have q0 := cell_of_row _ _ 0 _ _ _ HKS.out.a.op.o
          have o1 := cell_of_row _ _ 1 _ _ _ HKS.out.a.op.o
          have o2 := cell_of_row _ _ 2 _ _ _ HKS.out.a.op.o
          have o3 := cell_of_row _ _ 3 _ _ _ HKS.out.a.op.o
          have o4 := cell_of_row _ _ 4 _ _ _ HKS.out.a.op.o
          have o5 := cell_of_row _ _ 5 _ _ _ HKS.out.a.op.o
          have o6 := cell_of_row _ _ 6 _ _ _ HKS.out.a.op.o
          have o7 := cell_of_row _ _ 7 _ _ _ HKS.out.a.op.o
          have o8 := cell_of_row _ _ 8 _ _ _ HKS.out.a.op.o
          have o9 := cell_of_row _ _ 9 _ _ _ HKS.out.a.op.o
          have o10 := cell_of_row _ _ 10 _ _ _ HKS.out.a.op.o
          have o11 := cell_of_row _ _ 11 _ _ _ HKS.out.a.op.o
          have o12 := cell_of_row _ _ 12 _ _ _ HKS.out.a.op.o
          have HSK := Lib.hid (fun W (h : PlayR W A ia A2 ia2 n mx ts xs ts2 xs2) => HSS.out W A n c ia mx ic ts xs A2 c2 ia2 ic2 ts2 xs2 h)
          go_wp2_with (first
            | (go_at_call 9; (with_reducible refine (HDK.out _ _ _ _ _ _ _ _ _ _ HKS.out.a.op.below HRS.out.diag).mono ?_); rintro e w5 ⟨hB5, hD5⟩
               obtain ⟨wS, hwS⟩ : ∃ wS, wS = wo.setCell ⟨w.heap.size, 0, none⟩ (.int .i64 (k : Int)) := ⟨_, rfl⟩
               rw [← hwS] at HKS HRS hB5 hD5
               clear hwS q0 s0 s1 o0 o1 o2 o3 o4 o5 o6 o7 o8 o9 o10 o11 o12 z0
               rcases hD5 with ⟨q1, q2, q3, q4, q5, q6, rfl⟩ | ⟨A', ia', n', mx', c', ic', h, ts', xs', q1, q2, q3, q4, q5, q6, rfl, hS5, l1, l2, l8, l12⟩
               all_goals first
                 | (have HB6 := Lib.hid (show Below wS.heap.size wS ((w5.alloc (.cells #[.slice A' n' c', .slice ia' mx' ic'] 36)).alloc (.cells #[.slice q1 q2 q3, .slice q4 q5 q6] 36)) from (hB5.alloc hB5.size _).alloc (by have := hB5.size; simp; omega) _)
                    have HQ2 := Lib.hid ((heap_alloc_old (w5.alloc (.cells #[.slice A' n' c', .slice ia' mx' ic'] 36)) (.cells #[.slice q1 q2 q3, .slice q4 q5 q6] 36) (by simp)).trans (heap_alloc_new w5 (.cells #[.slice A' n' c', .slice ia' mx' ic'] 36)))
                    have HKD := Lib.hid (HKS.out.keep HB6.out)
                    have HRD := Lib.hid (HRS.out.keep HB6.out)
                    have HOW0 := Lib.hid (hS5.keep ((below1 w5 (.cells #[.slice A' n' c', .slice ia' mx' ic'] 36)).trans ((below1 _ (.cells #[.slice q1 q2 q3, .slice q4 q5 q6] 36)).mono (by simp))))
                    have HLN := Lib.hid (show n' = ts'.length ∧ mx' = xs'.length ∧ n' ≤ 8 ∧ mx' ≤ 12 from ⟨l1, l2, l8, l12⟩)
                    have HSX := Lib.hid (HSN.out _ A' n' c' ia' mx' ic' ts' xs' A n c ia mx ic ts xs (HOW0.out.readP l1 l2 (by omega) (by omega)) HRD.out.1 l1 l2 HRD.out.2.2.1.symm HRD.out.2.2.2.1.symm)
                    have hb9 := hB5.size
                    clear hB5 hS5 l1 l2 l8 l12
                    have s0 := cell_of_row _ _ 0 _ _ _ HKD.out.a.s
                    have s1 := cell_of_row _ _ 1 _ _ _ HKD.out.a.s
                    have t0 := cell_of_row _ _ 0 _ _ _ HQ2.out
                    have t1 := cell_of_row _ _ 1 _ _ _ HQ2.out)
                 | (have HB6 := Lib.hid (show Below wS.heap.size wS ((w5.alloc (.cells #[.slice A n c, .slice ia mx ic] 36)).alloc (.cells #[.slice q1 q2 q3, .slice q4 q5 q6] 36)) from (hB5.alloc hB5.size _).alloc (by have := hB5.size; simp; omega) _)
                    have HQ2 := Lib.hid ((heap_alloc_old (w5.alloc (.cells #[.slice A n c, .slice ia mx ic] 36)) (.cells #[.slice q1 q2 q3, .slice q4 q5 q6] 36) (by simp)).trans (heap_alloc_new w5 (.cells #[.slice A n c, .slice ia mx ic] 36)))
                    have HKD := Lib.hid (HKS.out.keep HB6.out)
                    have HRD := Lib.hid (HRS.out.keep HB6.out)
                    have HSX := Lib.hid (HSS.out _ A n c ia mx ic ts xs A c ia ic ts xs HRD.out.diag)
                    have hb9 := hB5.size
                    clear hB5
                    have s0 := cell_of_row _ _ 0 _ _ _ HKD.out.a.s
                    have s1 := cell_of_row _ _ 1 _ _ _ HKD.out.a.s
                    have t0 := cell_of_row _ _ 0 _ _ _ HQ2.out
                    have t1 := cell_of_row _ _ 1 _ _ _ HQ2.out))
            | (go_at_call 11; first
               | (with_reducible refine Calls.mono (HSX.out : Calls Tryz.prog 11 _ _ (RetV (.bool true) _)) ?_
                  rintro e w7 ⟨rfl, hB7⟩
                  have HKE := Lib.hid (HKD.out.keep hB7)
                  have HRE := Lib.hid (HRD.out.keep hB7)
                  have HBE := Lib.hid (HB6.out.trans (hB7.mono HB6.out.size))
                  have HQ7 := Lib.hid ((hB7.block _ (heap_lt HQ2.out)).trans HQ2.out)
                  clear hB7 s0 s1 t0 t1
                  have s0 := cell_of_row _ _ 0 _ _ _ HKE.out.a.s
                  have s1 := cell_of_row _ _ 1 _ _ _ HKE.out.a.s)
               | (with_reducible refine Calls.mono (HSX.out : Calls Tryz.prog 11 _ _ (AnsP _)) ?_
                  rintro e w7 ⟨r, rfl, hB7⟩
                  have HKE := Lib.hid (HKD.out.keep hB7)
                  have HRE := Lib.hid (HRD.out.keep hB7)
                  have HBE := Lib.hid (HB6.out.trans (hB7.mono HB6.out.size))
                  have HQ7 := Lib.hid ((hB7.block _ (heap_lt HQ2.out)).trans HQ2.out)
                  have HOW7 := Lib.hid (HOW0.out.keep hB7)
                  clear hB7 s0 s1 t0 t1
                  have t0 := cell_of_row _ _ 0 _ _ _ HQ7.out
                  have t1 := cell_of_row _ _ 1 _ _ _ HQ7.out
                  have s0 := cell_of_row _ _ 0 _ _ _ HKE.out.a.s
                  have s1 := cell_of_row _ _ 1 _ _ _ HKE.out.a.s
                  cases r))
            | (go_at_call 10; (with_reducible refine (HCL.out _ _ _ _ _ _ _ _ _ HRE.out.diag).mono ?_); rintro e w8 ⟨A7, ia7, c7, ic7, h7, ts7, xs7, rfl, hB8, hS8, l1, l2, _, hh7⟩
               have HLN7 := Lib.hid (show n = ts7.length ∧ mx = xs7.length ∧ n ≤ 8 ∧ mx ≤ 12 from ⟨l1, l2, HRE.out.2.2.2.2.2.2⟩)
               have HQ8 := Lib.hid ((hB8.block _ (heap_lt HQ7.out)).trans HQ7.out)
               have HBF := Lib.hid (HBE.out.trans (hB8.mono HBE.out.size))
               have HS8 := Lib.hid hS8
               have HL7 := Lib.hid (heap_lt HQ7.out)
               have HH7 := Lib.hid hh7
               clear hB8 hS8 l1 l2 hh7 s0 s1
               have t0 := cell_of_row _ _ 0 _ _ _ HQ8.out
               have t1 := cell_of_row _ _ 1 _ _ _ HQ8.out
               have z0 := frozen_of_row _ _ 0 _ _ HQ8.out
               have z1 := frozen_of_row _ _ 1 _ _ HQ8.out)
            | fail)
          · obtain ⟨wt, hwt⟩ : ∃ wt, wt = (w8.setCell ⟨w5.heap.size, 0, none⟩ (.slice A7 n c7)).setCell ⟨w5.heap.size, 1, none⟩ (.slice ia7 mx ic7) := ⟨_, rfl⟩
            rw [← hwt]
            have HLN := Lib.hid HLN7.out
            have HBW := Lib.hid (show Below wS.heap.size wS wt by rw [hwt]; exact (HBF.out.setCell (p := ⟨w5.heap.size, 0, none⟩) hb9 _).setCell (p := ⟨w5.heap.size, 1, none⟩) hb9 _)
            have HBX := Lib.hid (show wt.heap[w5.heap.size]? = some (.cells #[.slice A7 n c7, .slice ia7 mx ic7] 36) by rw [hwt]; exact box_two HQ8.out _ _ _ _ _ _)
            have HOWN := Lib.hid (show OwnS wS.heap.size h7 (.slice A7 n c7) (.slice ia7 mx ic7) ts7 xs7 wt by rw [hwt]; exact ((HS8.out.box _ _ _ (Or.inl HL7.out)).box _ _ _ (Or.inl HL7.out)).le HBE.out.size)
            clear t0 t1 z0 z1 hwt
            have hn8 := HLN.out.2.2.1
            have hm12 := HLN.out.2.2.2
            go_loopw [74] (fun i wr => ∃ j : Nat, j ≤ n ∧ i = .int .i64 j ∧ Hid (Sim wS.heap.size wt wr)) (fun i _ => n - (intOf i).toNat)
            case atStart => exact ⟨0, Nat.zero_le _, rfl, Lib.hid (Sim.refl _ _)⟩
            case round =>
              obtain ⟨j, hj, rfl, HS⟩ := hrel
              obtain ⟨wi, rfl⟩ : ∃ wi : World, wi = wr := ⟨_, rfl⟩
              by_cases hjn : j < n
              · have hjn2 : ((j : Int) < (n : Int)) = True := eq_true (by omega)
                obtain ⟨⟨t, l⟩, hx⟩ : ∃ x, ts7[j]? = some x := ⟨_, List.getElem?_eq_getElem (by have := HLN.out.1; omega)⟩
                obtain ⟨b, off, rfl, HSO, HSL⟩ := HOWN.out.tabAt HLN.out.1 (by have := HLN.out; omega) hx
                have HCA := Lib.hid (fun q hq => HOWN.out.colAt hx (q := q) hq)
                have hzb : t.cn ≤ 1000 := by
                  have h := HOWN.out.cols _ (List.mem_of_getElem? hx)
                  have h1 := h.2.1
                  have h2 := h.2.2.2.2.1
                  dsimp only at h1 h2
                  omega
                clear hx
                obtain ⟨zn, za, zl, zc, zr, zx, zw⟩ := t
                dsimp only at HSL HCA hzb
                obtain ⟨⟨u0, m0⟩, mf, HST⟩ := HSO.out wi HS.out
                have HS1 := Lib.hid (HST (.string ⟨#[63]⟩))
                have m1 : wi.cell? ⟨b, off + j * 5 + 1, none⟩ = some (.slice za zl zc) := HSL.out _ HS.out
                have m1s := HSL.out _ HS1.out
                have x0 := cell_of_row _ _ 0 _ _ _ (HS.out.box HBX.out)
                have y0 := cell_of_row _ _ 0 _ _ _ (HS1.out.box HBX.out)
                clear HST
                go_wp2_with fail
                clear m0 mf m1 m1s x0 y0
                obtain ⟨ws, hws⟩ : ∃ ws, ws = wi.setCell ⟨b, off + j * 5, none⟩ (.string ⟨#[63]⟩) := ⟨_, rfl⟩
                rw [← hws] at HS1 ⊢
                clear hws
                go_loopw [89] (fun i wr => ∃ q : Nat, q ≤ zl ∧ i = .int .i64 q ∧ Hid (Sim wS.heap.size wt wr)) (fun i _ => zl - (intOf i).toNat)
                case atStart => exact ⟨0, Nat.zero_le _, rfl, HS1⟩
                case round =>
                  obtain ⟨q, hq, rfl, HS⟩ := hrel
                  obtain ⟨wj, rfl⟩ : ∃ wj : World, wj = wr := ⟨_, rfl⟩
                  by_cases hql : q < zl
                  · have hql2 : ((q : Int) < (zl : Int)) = True := eq_true (by omega)
                    obtain ⟨b3, off3, rfl, HSO3⟩ := HCA.out q hql
                    obtain ⟨⟨u3, m0⟩, mf, HST⟩ := HSO3.out wj HS.out
                    have HS1 := Lib.hid (HST (.string ⟨#[63]⟩))
                    have m1 : wj.cell? ⟨b, off + j * 5 + 1, none⟩ = some (.slice (some ⟨b3, off3, none⟩) zl zc) := HSL.out _ HS.out
                    have x0 := cell_of_row _ _ 0 _ _ _ (HS.out.box HBX.out)
                    clear HST
                    go_wp2_with fail
                    go_roundw
                    case rel => exact ⟨q + 1, by omega, by go_num, HS1⟩
                    case measure => simp [intOf] <;> omega
                  · obtain rfl : zl = q := by omega
                    go_wp2_with fail
                    go_roundw
                    case rel => exact ⟨j + 1, by omega, by go_num, HS⟩
                    case measure => simp [intOf] <;> omega
              · obtain rfl : n = j := by omega
                have x1 := cell_of_row _ _ 1 _ _ _ (HS.out.box HBX.out)
                go_wp2_with fail
                clear x1
                go_loopw [106] (fun i wr => ∃ j : Nat, j ≤ mx ∧ i = .int .i64 j ∧ Hid (Sim wS.heap.size wt wr)) (fun i _ => mx - (intOf i).toNat)
                case atStart => exact ⟨0, Nat.zero_le _, rfl, HS⟩
                case round =>
                  obtain ⟨j, hj, rfl, HS⟩ := hrel
                  obtain ⟨wi, rfl⟩ : ∃ wi : World, wi = wr := ⟨_, rfl⟩
                  by_cases hjn : j < mx
                  · have hjn2 : ((j : Int) < (mx : Int)) = True := eq_true (by omega)
                    obtain ⟨⟨t, l⟩, hx⟩ : ∃ x, xs7[j]? = some x := ⟨_, List.getElem?_eq_getElem (by have := HLN.out.2.1; omega)⟩
                    obtain ⟨b, off, rfl, HSO, HSL⟩ := HOWN.out.idxAt HLN.out.2.1 (by have := HLN.out; omega) hx
                    have HCA := Lib.hid (fun q hq => HOWN.out.placeAt hx (q := q) hq)
                    have hzb : t.pn ≤ 1000 := by
                      have h := HOWN.out.places _ (List.mem_of_getElem? hx)
                      have h1 := h.2.1
                      have h2 := h.2.2.2.2.1
                      dsimp only at h1 h2
                      omega
                    clear hx
                    obtain ⟨zn, zt, za, zl, zc, zr, zx, zw⟩ := t
                    dsimp only at HSL HCA hzb
                    obtain ⟨⟨u0, m0⟩, mf, HST⟩ := HSO.out wi HS.out
                    have HS1 := Lib.hid (HST (.string ⟨#[63]⟩))
                    have m2 : wi.cell? ⟨b, off + j * 6 + 2, none⟩ = some (.slice za zl zc) := HSL.out _ HS.out
                    have m2s := HSL.out _ HS1.out
                    have x1 := cell_of_row _ _ 1 _ _ _ (HS.out.box HBX.out)
                    have y1 := cell_of_row _ _ 1 _ _ _ (HS1.out.box HBX.out)
                    clear HST
                    go_wp2_with fail
                    clear m0 mf m2 m2s x1 y1
                    obtain ⟨ws, hws⟩ : ∃ ws, ws = wi.setCell ⟨b, off + j * 6, none⟩ (.string ⟨#[63]⟩) := ⟨_, rfl⟩
                    rw [← hws] at HS1 ⊢
                    clear hws
                    go_loopw [121] (fun i wr => ∃ q : Nat, q ≤ zl ∧ i = .int .i64 q ∧ Hid (Sim wS.heap.size wt wr)) (fun i _ => zl - (intOf i).toNat)
                    case atStart => exact ⟨0, Nat.zero_le _, rfl, HS1⟩
                    case round =>
                      obtain ⟨q, hq, rfl, HS⟩ := hrel
                      obtain ⟨wj, rfl⟩ : ∃ wj : World, wj = wr := ⟨_, rfl⟩
                      by_cases hql : q < zl
                      · have hql2 : ((q : Int) < (zl : Int)) = True := eq_true (by omega)
                        obtain ⟨b3, off3, rfl, HSO3⟩ := HCA.out q hql
                        obtain ⟨⟨u3, m0⟩, mf, HST⟩ := HSO3.out wj HS.out
                        have HS1 := Lib.hid (HST (.int .i64 (-1)))
                        have m2 : wj.cell? ⟨b, off + j * 6 + 2, none⟩ = some (.slice (some ⟨b3, off3, none⟩) zl zc) := HSL.out _ HS.out
                        have x1 := cell_of_row _ _ 1 _ _ _ (HS.out.box HBX.out)
                        clear HST
                        go_wp2_with fail
                        go_roundw
                        case rel => exact ⟨q + 1, by omega, by go_num, HS1⟩
                        case measure => simp [intOf] <;> omega
                      · obtain rfl : zl = q := by omega
                        go_wp2_with fail
                        go_roundw
                        case rel => exact ⟨j + 1, by omega, by go_num, HS⟩
                        case measure => simp [intOf] <;> omega
                  · obtain rfl : mx = j := by omega
                    have HBZ := Lib.hid (show Below wS.heap.size wS wi from HBW.out.trans HS.out.1)
                    have HKZ := Lib.hid (HKS.out.keep HBZ.out)
                    have HRZ := Lib.hid (HRS.out.keep HBZ.out)
                    have s0 := cell_of_row _ _ 0 _ _ _ HKZ.out.a.s
                    have s1 := cell_of_row _ _ 1 _ _ _ HKZ.out.a.s
                    have k0 := cell_of_row _ _ 0 _ _ _ HKZ.out.k
                    have k1 := cell_of_row _ _ 1 _ _ _ HKZ.out.k
                    go_wp2_with (first
                      | (go_at_call 11; (with_reducible refine (HSK.out _ HRZ.out).mono ?_); rintro e wy ⟨rfl, hBy⟩
                         have HKY := Lib.hid (HKZ.out.keep hBy)
                         have HRY := Lib.hid (HRZ.out.keep hBy)
                         clear hBy s0 s1 k0 k1)
                      | fail)
                    go_roundw
                    case rel => exact ⟨k + 1, _, by omega, by go_num, HKY, HRY⟩
                    case measure => simp [intOf] <;> omega
          · obtain ⟨wt, rfl⟩ : ∃ wt, wt = w7 := ⟨_, rfl⟩
            have HBW := Lib.hid HBE.out
            have HBX := Lib.hid HQ7.out
            have HOWN := Lib.hid HOW7.out
            clear t0 t1 s0 s1
            have hn8 := HLN.out.2.2.1
            have hm12 := HLN.out.2.2.2
            go_loopw [74] (fun i wr => ∃ j : Nat, j ≤ n' ∧ i = .int .i64 j ∧ Hid (Sim wS.heap.size wt wr)) (fun i _ => n' - (intOf i).toNat)
            case atStart => exact ⟨0, Nat.zero_le _, rfl, Lib.hid (Sim.refl _ _)⟩
            case round =>
              obtain ⟨j, hj, rfl, HS⟩ := hrel
              obtain ⟨wi, rfl⟩ : ∃ wi : World, wi = wr := ⟨_, rfl⟩
              by_cases hjn : j < n'
              · have hjn2 : ((j : Int) < (n' : Int)) = True := eq_true (by omega)
                obtain ⟨⟨t, l⟩, hx⟩ : ∃ x, ts'[j]? = some x := ⟨_, List.getElem?_eq_getElem (by have := HLN.out.1; omega)⟩
                obtain ⟨b, off, rfl, HSO, HSL⟩ := HOWN.out.tabAt HLN.out.1 (by have := HLN.out; omega) hx
                have HCA := Lib.hid (fun q hq => HOWN.out.colAt hx (q := q) hq)
                have hzb : t.cn ≤ 1000 := by
                  have h := HOWN.out.cols _ (List.mem_of_getElem? hx)
                  have h1 := h.2.1
                  have h2 := h.2.2.2.2.1
                  dsimp only at h1 h2
                  omega
                clear hx
                obtain ⟨zn, za, zl, zc, zr, zx, zw⟩ := t
                dsimp only at HSL HCA hzb
                obtain ⟨⟨u0, m0⟩, mf, HST⟩ := HSO.out wi HS.out
                have HS1 := Lib.hid (HST (.string ⟨#[63]⟩))
                have m1 : wi.cell? ⟨b, off + j * 5 + 1, none⟩ = some (.slice za zl zc) := HSL.out _ HS.out
                have m1s := HSL.out _ HS1.out
                have x0 := cell_of_row _ _ 0 _ _ _ (HS.out.box HBX.out)
                have y0 := cell_of_row _ _ 0 _ _ _ (HS1.out.box HBX.out)
                clear HST
                go_wp2_with fail
                clear m0 mf m1 m1s x0 y0
                obtain ⟨ws, hws⟩ : ∃ ws, ws = wi.setCell ⟨b, off + j * 5, none⟩ (.string ⟨#[63]⟩) := ⟨_, rfl⟩
                rw [← hws] at HS1 ⊢
                clear hws
                go_loopw [89] (fun i wr => ∃ q : Nat, q ≤ zl ∧ i = .int .i64 q ∧ Hid (Sim wS.heap.size wt wr)) (fun i _ => zl - (intOf i).toNat)
                case atStart => exact ⟨0, Nat.zero_le _, rfl, HS1⟩
                case round =>
                  obtain ⟨q, hq, rfl, HS⟩ := hrel
                  obtain ⟨wj, rfl⟩ : ∃ wj : World, wj = wr := ⟨_, rfl⟩
                  by_cases hql : q < zl
                  · have hql2 : ((q : Int) < (zl : Int)) = True := eq_true (by omega)
                    obtain ⟨b3, off3, rfl, HSO3⟩ := HCA.out q hql
                    obtain ⟨⟨u3, m0⟩, mf, HST⟩ := HSO3.out wj HS.out
                    have HS1 := Lib.hid (HST (.string ⟨#[63]⟩))
                    have m1 : wj.cell? ⟨b, off + j * 5 + 1, none⟩ = some (.slice (some ⟨b3, off3, none⟩) zl zc) := HSL.out _ HS.out
                    have x0 := cell_of_row _ _ 0 _ _ _ (HS.out.box HBX.out)
                    clear HST
                    go_wp2_with fail
                    go_roundw
                    case rel => exact ⟨q + 1, by omega, by go_num, HS1⟩
                    case measure => simp [intOf] <;> omega
                  · obtain rfl : zl = q := by omega
                    go_wp2_with fail
                    go_roundw
                    case rel => exact ⟨j + 1, by omega, by go_num, HS⟩
                    case measure => simp [intOf] <;> omega
              · obtain rfl : n' = j := by omega
                have x1 := cell_of_row _ _ 1 _ _ _ (HS.out.box HBX.out)
                go_wp2_with fail
                clear x1
                go_loopw [106] (fun i wr => ∃ j : Nat, j ≤ mx' ∧ i = .int .i64 j ∧ Hid (Sim wS.heap.size wt wr)) (fun i _ => mx' - (intOf i).toNat)
                case atStart => exact ⟨0, Nat.zero_le _, rfl, HS⟩
                case round =>
                  obtain ⟨j, hj, rfl, HS⟩ := hrel
                  obtain ⟨wi, rfl⟩ : ∃ wi : World, wi = wr := ⟨_, rfl⟩
                  by_cases hjn : j < mx'
                  · have hjn2 : ((j : Int) < (mx' : Int)) = True := eq_true (by omega)
                    obtain ⟨⟨t, l⟩, hx⟩ : ∃ x, xs'[j]? = some x := ⟨_, List.getElem?_eq_getElem (by have := HLN.out.2.1; omega)⟩
                    obtain ⟨b, off, rfl, HSO, HSL⟩ := HOWN.out.idxAt HLN.out.2.1 (by have := HLN.out; omega) hx
                    have HCA := Lib.hid (fun q hq => HOWN.out.placeAt hx (q := q) hq)
                    have hzb : t.pn ≤ 1000 := by
                      have h := HOWN.out.places _ (List.mem_of_getElem? hx)
                      have h1 := h.2.1
                      have h2 := h.2.2.2.2.1
                      dsimp only at h1 h2
                      omega
                    clear hx
                    obtain ⟨zn, zt, za, zl, zc, zr, zx, zw⟩ := t
                    dsimp only at HSL HCA hzb
                    obtain ⟨⟨u0, m0⟩, mf, HST⟩ := HSO.out wi HS.out
                    have HS1 := Lib.hid (HST (.string ⟨#[63]⟩))
                    have m2 : wi.cell? ⟨b, off + j * 6 + 2, none⟩ = some (.slice za zl zc) := HSL.out _ HS.out
                    have m2s := HSL.out _ HS1.out
                    have x1 := cell_of_row _ _ 1 _ _ _ (HS.out.box HBX.out)
                    have y1 := cell_of_row _ _ 1 _ _ _ (HS1.out.box HBX.out)
                    clear HST
                    go_wp2_with fail
                    clear m0 mf m2 m2s x1 y1
                    obtain ⟨ws, hws⟩ : ∃ ws, ws = wi.setCell ⟨b, off + j * 6, none⟩ (.string ⟨#[63]⟩) := ⟨_, rfl⟩
                    rw [← hws] at HS1 ⊢
                    clear hws
                    go_loopw [121] (fun i wr => ∃ q : Nat, q ≤ zl ∧ i = .int .i64 q ∧ Hid (Sim wS.heap.size wt wr)) (fun i _ => zl - (intOf i).toNat)
                    case atStart => exact ⟨0, Nat.zero_le _, rfl, HS1⟩
                    case round =>
                      obtain ⟨q, hq, rfl, HS⟩ := hrel
                      obtain ⟨wj, rfl⟩ : ∃ wj : World, wj = wr := ⟨_, rfl⟩
                      by_cases hql : q < zl
                      · have hql2 : ((q : Int) < (zl : Int)) = True := eq_true (by omega)
                        obtain ⟨b3, off3, rfl, HSO3⟩ := HCA.out q hql
                        obtain ⟨⟨u3, m0⟩, mf, HST⟩ := HSO3.out wj HS.out
                        have HS1 := Lib.hid (HST (.int .i64 (-1)))
                        have m2 : wj.cell? ⟨b, off + j * 6 + 2, none⟩ = some (.slice (some ⟨b3, off3, none⟩) zl zc) := HSL.out _ HS.out
                        have x1 := cell_of_row _ _ 1 _ _ _ (HS.out.box HBX.out)
                        clear HST
                        go_wp2_with fail
                        go_roundw
                        case rel => exact ⟨q + 1, by omega, by go_num, HS1⟩
                        case measure => simp [intOf] <;> omega
                      · obtain rfl : zl = q := by omega
                        go_wp2_with fail
                        go_roundw
                        case rel => exact ⟨j + 1, by omega, by go_num, HS⟩
                        case measure => simp [intOf] <;> omega
                  · obtain rfl : mx' = j := by omega
                    have HBZ := Lib.hid (show Below wS.heap.size wS wi from HBW.out.trans HS.out.1)
                    have HKZ := Lib.hid (HKS.out.keep HBZ.out)
                    have HRZ := Lib.hid (HRS.out.keep HBZ.out)
                    have s0 := cell_of_row _ _ 0 _ _ _ HKZ.out.a.s
                    have s1 := cell_of_row _ _ 1 _ _ _ HKZ.out.a.s
                    have k0 := cell_of_row _ _ 0 _ _ _ HKZ.out.k
                    have k1 := cell_of_row _ _ 1 _ _ _ HKZ.out.k
                    go_wp2_with (first
                      | (go_at_call 11; (with_reducible refine (HSK.out _ HRZ.out).mono ?_); rintro e wy ⟨rfl, hBy⟩
                         have HKY := Lib.hid (HKZ.out.keep hBy)
                         have HRY := Lib.hid (HRZ.out.keep hBy)
                         clear hBy s0 s1 k0 k1)
                      | fail)
                    go_roundw
                    case rel => exact ⟨k + 1, _, by omega, by go_num, HKY, HRY⟩
                    case measure => simp [intOf] <;> omega
          · obtain ⟨wt, hwt⟩ : ∃ wt, wt = (w8.setCell ⟨w5.heap.size, 0, none⟩ (.slice A7 n c7)).setCell ⟨w5.heap.size, 1, none⟩ (.slice ia7 mx ic7) := ⟨_, rfl⟩
            rw [← hwt]
            have HLN := Lib.hid HLN7.out
            have HBW := Lib.hid (show Below wS.heap.size wS wt by rw [hwt]; exact (HBF.out.setCell (p := ⟨w5.heap.size, 0, none⟩) hb9 _).setCell (p := ⟨w5.heap.size, 1, none⟩) hb9 _)
            have HBX := Lib.hid (show wt.heap[w5.heap.size]? = some (.cells #[.slice A7 n c7, .slice ia7 mx ic7] 36) by rw [hwt]; exact box_two HQ8.out _ _ _ _ _ _)
            have HOWN := Lib.hid (show OwnS wS.heap.size h7 (.slice A7 n c7) (.slice ia7 mx ic7) ts7 xs7 wt by rw [hwt]; exact ((HS8.out.box _ _ _ (Or.inl HL7.out)).box _ _ _ (Or.inl HL7.out)).le HBE.out.size)
            clear t0 t1 z0 z1 hwt
            have hn8 := HLN.out.2.2.1
            have hm12 := HLN.out.2.2.2
            go_loopw [74] (fun i wr => ∃ j : Nat, j ≤ n ∧ i = .int .i64 j ∧ Hid (Sim wS.heap.size wt wr)) (fun i _ => n - (intOf i).toNat)
            case atStart => exact ⟨0, Nat.zero_le _, rfl, Lib.hid (Sim.refl _ _)⟩
            case round =>
              obtain ⟨j, hj, rfl, HS⟩ := hrel
              obtain ⟨wi, rfl⟩ : ∃ wi : World, wi = wr := ⟨_, rfl⟩
              by_cases hjn : j < n
              · have hjn2 : ((j : Int) < (n : Int)) = True := eq_true (by omega)
                obtain ⟨⟨t, l⟩, hx⟩ : ∃ x, ts7[j]? = some x := ⟨_, List.getElem?_eq_getElem (by have := HLN.out.1; omega)⟩
                obtain ⟨b, off, rfl, HSO, HSL⟩ := HOWN.out.tabAt HLN.out.1 (by have := HLN.out; omega) hx
                have HCA := Lib.hid (fun q hq => HOWN.out.colAt hx (q := q) hq)
                have hzb : t.cn ≤ 1000 := by
                  have h := HOWN.out.cols _ (List.mem_of_getElem? hx)
                  have h1 := h.2.1
                  have h2 := h.2.2.2.2.1
                  dsimp only at h1 h2
                  omega
                clear hx
                obtain ⟨zn, za, zl, zc, zr, zx, zw⟩ := t
                dsimp only at HSL HCA hzb
                obtain ⟨⟨u0, m0⟩, mf, HST⟩ := HSO.out wi HS.out
                have HS1 := Lib.hid (HST (.string ⟨#[63]⟩))
                have m1 : wi.cell? ⟨b, off + j * 5 + 1, none⟩ = some (.slice za zl zc) := HSL.out _ HS.out
                have m1s := HSL.out _ HS1.out
                have x0 := cell_of_row _ _ 0 _ _ _ (HS.out.box HBX.out)
                have y0 := cell_of_row _ _ 0 _ _ _ (HS1.out.box HBX.out)
                clear HST
                go_wp2_with fail
                clear m0 mf m1 m1s x0 y0
                obtain ⟨ws, hws⟩ : ∃ ws, ws = wi.setCell ⟨b, off + j * 5, none⟩ (.string ⟨#[63]⟩) := ⟨_, rfl⟩
                rw [← hws] at HS1 ⊢
                clear hws
                go_loopw [89] (fun i wr => ∃ q : Nat, q ≤ zl ∧ i = .int .i64 q ∧ Hid (Sim wS.heap.size wt wr)) (fun i _ => zl - (intOf i).toNat)
                case atStart => exact ⟨0, Nat.zero_le _, rfl, HS1⟩
                case round =>
                  obtain ⟨q, hq, rfl, HS⟩ := hrel
                  obtain ⟨wj, rfl⟩ : ∃ wj : World, wj = wr := ⟨_, rfl⟩
                  by_cases hql : q < zl
                  · have hql2 : ((q : Int) < (zl : Int)) = True := eq_true (by omega)
                    obtain ⟨b3, off3, rfl, HSO3⟩ := HCA.out q hql
                    obtain ⟨⟨u3, m0⟩, mf, HST⟩ := HSO3.out wj HS.out
                    have HS1 := Lib.hid (HST (.string ⟨#[63]⟩))
                    have m1 : wj.cell? ⟨b, off + j * 5 + 1, none⟩ = some (.slice (some ⟨b3, off3, none⟩) zl zc) := HSL.out _ HS.out
                    have x0 := cell_of_row _ _ 0 _ _ _ (HS.out.box HBX.out)
                    clear HST
                    go_wp2_with fail
                    go_roundw
                    case rel => exact ⟨q + 1, by omega, by go_num, HS1⟩
                    case measure => simp [intOf] <;> omega
                  · obtain rfl : zl = q := by omega
                    go_wp2_with fail
                    go_roundw
                    case rel => exact ⟨j + 1, by omega, by go_num, HS⟩
                    case measure => simp [intOf] <;> omega
              · obtain rfl : n = j := by omega
                have x1 := cell_of_row _ _ 1 _ _ _ (HS.out.box HBX.out)
                go_wp2_with fail
                clear x1
                go_loopw [106] (fun i wr => ∃ j : Nat, j ≤ mx ∧ i = .int .i64 j ∧ Hid (Sim wS.heap.size wt wr)) (fun i _ => mx - (intOf i).toNat)
                case atStart => exact ⟨0, Nat.zero_le _, rfl, HS⟩
                case round =>
                  obtain ⟨j, hj, rfl, HS⟩ := hrel
                  obtain ⟨wi, rfl⟩ : ∃ wi : World, wi = wr := ⟨_, rfl⟩
                  by_cases hjn : j < mx
                  · have hjn2 : ((j : Int) < (mx : Int)) = True := eq_true (by omega)
                    obtain ⟨⟨t, l⟩, hx⟩ : ∃ x, xs7[j]? = some x := ⟨_, List.getElem?_eq_getElem (by have := HLN.out.2.1; omega)⟩
                    obtain ⟨b, off, rfl, HSO, HSL⟩ := HOWN.out.idxAt HLN.out.2.1 (by have := HLN.out; omega) hx
                    have HCA := Lib.hid (fun q hq => HOWN.out.placeAt hx (q := q) hq)
                    have hzb : t.pn ≤ 1000 := by
                      have h := HOWN.out.places _ (List.mem_of_getElem? hx)
                      have h1 := h.2.1
                      have h2 := h.2.2.2.2.1
                      dsimp only at h1 h2
                      omega
                    clear hx
                    obtain ⟨zn, zt, za, zl, zc, zr, zx, zw⟩ := t
                    dsimp only at HSL HCA hzb
                    obtain ⟨⟨u0, m0⟩, mf, HST⟩ := HSO.out wi HS.out
                    have HS1 := Lib.hid (HST (.string ⟨#[63]⟩))
                    have m2 : wi.cell? ⟨b, off + j * 6 + 2, none⟩ = some (.slice za zl zc) := HSL.out _ HS.out
                    have m2s := HSL.out _ HS1.out
                    have x1 := cell_of_row _ _ 1 _ _ _ (HS.out.box HBX.out)
                    have y1 := cell_of_row _ _ 1 _ _ _ (HS1.out.box HBX.out)
                    clear HST
                    go_wp2_with fail
                    clear m0 mf m2 m2s x1 y1
                    obtain ⟨ws, hws⟩ : ∃ ws, ws = wi.setCell ⟨b, off + j * 6, none⟩ (.string ⟨#[63]⟩) := ⟨_, rfl⟩
                    rw [← hws] at HS1 ⊢
                    clear hws
                    go_loopw [121] (fun i wr => ∃ q : Nat, q ≤ zl ∧ i = .int .i64 q ∧ Hid (Sim wS.heap.size wt wr)) (fun i _ => zl - (intOf i).toNat)
                    case atStart => exact ⟨0, Nat.zero_le _, rfl, HS1⟩
                    case round =>
                      obtain ⟨q, hq, rfl, HS⟩ := hrel
                      obtain ⟨wj, rfl⟩ : ∃ wj : World, wj = wr := ⟨_, rfl⟩
                      by_cases hql : q < zl
                      · have hql2 : ((q : Int) < (zl : Int)) = True := eq_true (by omega)
                        obtain ⟨b3, off3, rfl, HSO3⟩ := HCA.out q hql
                        obtain ⟨⟨u3, m0⟩, mf, HST⟩ := HSO3.out wj HS.out
                        have HS1 := Lib.hid (HST (.int .i64 (-1)))
                        have m2 : wj.cell? ⟨b, off + j * 6 + 2, none⟩ = some (.slice (some ⟨b3, off3, none⟩) zl zc) := HSL.out _ HS.out
                        have x1 := cell_of_row _ _ 1 _ _ _ (HS.out.box HBX.out)
                        clear HST
                        go_wp2_with fail
                        go_roundw
                        case rel => exact ⟨q + 1, by omega, by go_num, HS1⟩
                        case measure => simp [intOf] <;> omega
                      · obtain rfl : zl = q := by omega
                        go_wp2_with fail
                        go_roundw
                        case rel => exact ⟨j + 1, by omega, by go_num, HS⟩
                        case measure => simp [intOf] <;> omega
                  · obtain rfl : mx = j := by omega
                    have HBZ := Lib.hid (show Below wS.heap.size wS wi from HBW.out.trans HS.out.1)
                    have HKZ := Lib.hid (HKS.out.keep HBZ.out)
                    have HRZ := Lib.hid (HRS.out.keep HBZ.out)
                    have s0 := cell_of_row _ _ 0 _ _ _ HKZ.out.a.s
                    have s1 := cell_of_row _ _ 1 _ _ _ HKZ.out.a.s
                    have k0 := cell_of_row _ _ 0 _ _ _ HKZ.out.k
                    have k1 := cell_of_row _ _ 1 _ _ _ HKZ.out.k
                    go_wp2_with (first
                      | (go_at_call 11; (with_reducible refine (HSK.out _ HRZ.out).mono ?_); rintro e wy ⟨rfl, hBy⟩
                         have HKY := Lib.hid (HKZ.out.keep hBy)
                         have HRY := Lib.hid (HRZ.out.keep hBy)
                         clear hBy s0 s1 k0 k1)
                      | fail)
                    go_roundw
                    case rel => exact ⟨k + 1, _, by omega, by go_num, HKY, HRY⟩
                    case measure => simp [intOf] <;> omega
        · obtain rfl : k = 4 := by omega
          go_wp2_with fail
          go_ret
          exact ⟨rfl, HK.out.a.op.below⟩
end Go.Proofs.YtcgpflkaejbkhaaGreatDoor
