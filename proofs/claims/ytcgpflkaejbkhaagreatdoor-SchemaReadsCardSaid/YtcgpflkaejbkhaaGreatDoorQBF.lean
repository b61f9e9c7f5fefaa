/- Entries as plain data, and the row of them that is being written. -/
import Derived.Test.YtcgpflkaejbkhaaGreatDoorQBB
import Derived.Test.YtcgpflkaejbkhaaGreatDoorQAW
import Derived.OneCell
namespace Go.Proofs.YtcgpflkaejbkhaaGreatDoor
open Go.RowKit

def plB (l : List Int) : List UInt8 := (l.map (fun c => numB c.toNat)).flatten
def colB (c : Col) : List UInt8 := textB c.name ++ (numB c.ty.toNat ++ boolB c.nn)
def colsB (l : List Col) : List UInt8 := (l.map colB).flatten
def entX (x : PX) : List UInt8 × List UInt8 := (105 :: x.name.data.toList, ((textB x.table ++ numB x.places.length) ++ plB x.places) ++ (numB x.state.toNat ++ (numB x.root.toNat ++ intB x.cursor)))
def entT (t : PT) : List UInt8 × List UInt8 := (116 :: t.name.data.toList, (numB t.cols.length ++ colsB t.cols) ++ (numB t.root.toNat ++ (intB t.next ++ intB t.rows)))
def entsP (T : List PT) (X : List PX) : List (List UInt8 × List UInt8) := X.map entX ++ T.map entT
structure OkX (x : PX) : Prop where
 name : x.name.size ≤ 100
 table : x.table.size ≤ 100
 len : x.places.length ≤ 10
 places : ∀ c ∈ x.places, 0 ≤ c ∧ c ≤ 1000
 state : 0 ≤ x.state ∧ x.state ≤ 1000
 root : 0 ≤ x.root ∧ x.root ≤ 10000
 cursor : 0 ≤ x.cursor ∧ x.cursor ≤ 9223372036854775807
structure OkT (t : PT) : Prop where
 name : t.name.size ≤ 100
 len : t.cols.length ≤ 10
 cols : ∀ c ∈ t.cols, c.name.size ≤ 100 ∧ 0 ≤ c.ty ∧ c.ty ≤ 1000
 root : 0 ≤ t.root ∧ t.root ≤ 10000
 next : 0 ≤ t.next ∧ t.next ≤ 9223372036854775807
 rows : 0 ≤ t.rows ∧ t.rows ≤ 9223372036854775807
theorem intB_len {z : Int} (h0 : 0 ≤ z) (h1 : z ≤ 9223372036854775807) : (intB z).length ≤ 10 := numB_ten (by omega)
theorem num_len {z : Int} (h1 : z ≤ 1000000) : (numB z.toNat).length ≤ 10 := numB_ten (by omega)
theorem textB_len {s : ByteArray} (h : s.size ≤ 100) : (textB s).length ≤ 110 := by
 unfold textB
 rw [List.length_append]
 have := numB_ten (n := s.size) (by omega)
 have h3 : s.data.toList.length = s.data.size := Array.length_toList
 have h2 : s.data.size = s.size := rfl
 omega
theorem plB_len {l : List Int} (h : ∀ c ∈ l, 0 ≤ c ∧ c ≤ 1000) : (plB l).length ≤ 10 * l.length := by
 induction l with
 | nil => exact Nat.zero_le _
 | cons c l ih =>
   have h1 := num_len (z := c) (by have := (h c (by simp)).2; omega)
   have h2 := ih (fun x hx => h x (by simp [hx]))
   unfold plB at h2 ⊢
   rw [List.map_cons, List.flatten_cons, List.length_append, List.length_cons]
   omega
theorem colB_len {c : Col} (h : c.name.size ≤ 100 ∧ 0 ≤ c.ty ∧ c.ty ≤ 1000) : (colB c).length ≤ 121 := by
 unfold colB boolB
 rw [List.length_append, List.length_append]
 have h1 := textB_len h.1
 have h2 := num_len (z := c.ty) (by omega)
 simp only [List.length_cons, List.length_nil]
 omega
theorem colsB_len {l : List Col} (h : ∀ c ∈ l, c.name.size ≤ 100 ∧ 0 ≤ c.ty ∧ c.ty ≤ 1000) : (colsB l).length ≤ 121 * l.length := by
 induction l with
 | nil => exact Nat.zero_le _
 | cons c l ih =>
   have h1 := colB_len (h c (by simp))
   have h2 := ih (fun x hx => h x (by simp [hx]))
   unfold colsB at h2 ⊢
   rw [List.map_cons, List.flatten_cons, List.length_append, List.length_cons]
   omega
theorem plB_succ {l : List Int} {k : Nat} {c : Int} (h : l[k]? = some c) : plB (l.take (k + 1)) = plB (l.take k) ++ numB c.toNat := by
 unfold plB
 rw [List.take_add_one, h]
 simp
theorem colsB_succ {l : List Col} {k : Nat} {c : Col} (h : l[k]? = some c) : colsB (l.take (k + 1)) = colsB (l.take k) ++ colB c := by
 unfold colsB
 rw [List.take_add_one, h]
 simp
theorem plB_take {l : List Int} (h : ∀ c ∈ l, 0 ≤ c ∧ c ≤ 1000) (hl : l.length ≤ 10) (k : Nat) : (plB (l.take k)).length ≤ 100 := by
 have := plB_len (l := l.take k) (fun c hc => h c (List.mem_of_mem_take hc))
 have h2 := List.length_take_le k l
 rw [List.length_take] at *
 omega
theorem colsB_take {l : List Col} (h : ∀ c ∈ l, c.name.size ≤ 100 ∧ 0 ≤ c.ty ∧ c.ty ≤ 1000) (hl : l.length ≤ 10) (k : Nat) : (colsB (l.take k)).length ≤ 1210 := by
 have := colsB_len (l := l.take k) (fun c hc => h c (List.mem_of_mem_take hc))
 rw [List.length_take] at this
 omega
structure EntV where
 ka : Nat
 kc : Nat
 key : List UInt8
 va : Nat
 vc : Nat
 val : List UInt8
def entL (e : EntV) : List Value := [.slice (some ⟨e.ka, 0, none⟩) e.key.length e.kc, .slice (some ⟨e.va, 0, none⟩) e.val.length e.vc]
def Src5 (W : World) (g : Nat) (l : List UInt8) : Prop := (∃ cur fr, W.heap[g]? = some (.cells cur 5 fr)) ∧ ∀ (j : Nat) (b : UInt8), l[j]? = some b → W.cell? ⟨g, j, none⟩ = some (byV b)
theorem Src5.lt {W : World} {g : Nat} {l : List UInt8} (h : Src5 W g l) : g < W.heap.size := by
 obtain ⟨⟨cur, fr, h⟩, _⟩ := h
 exact heap_lt h
theorem Src5.grown {W W' : World} {g : Nat} {l : List UInt8} {r : Option Nat} (h : Src5 W g l) (hg : W.grownBy W' r) (hr : r ≠ some g) : Src5 W' g l := by
 obtain ⟨⟨cur, fr, h1⟩, h2⟩ := h
 have hb := hg.block g (heap_lt h1) (fun e => hr e.symm)
 refine ⟨⟨cur, fr, hb.trans h1⟩, fun j b hj => ?_⟩
 rw [← h2 j b hj]
 unfold World.cell?
 rw [hb]
theorem OwnB.src5 {W : World} {base : Nat} {l : List UInt8} {g cap : Nat} (h : OwnB W base (.slice (some ⟨g, 0, none⟩) l.length cap) l) : Src5 W g l := by
 refine ⟨?_, fun j b hj => ?_⟩
 · rcases h.2 with ⟨e, _⟩ | ⟨g', cap', cur, e, _, h3, _⟩
   · cases e
   · cases e; exact ⟨cur, _, h3⟩
 · have := h.cells j b hj
   rwa [Addr.add_lit, Nat.zero_add] at this
theorem BytesAt.src5 {W : World} {b : Nat} {l : List UInt8} (h : BytesAt W b l) : Src5 W b l := by
 have h0 := h
 obtain ⟨rest, N, h1, h2⟩ := h
 exact ⟨⟨_, _, h1⟩, fun j c hj => h0.cell hj⟩
theorem Src5.src {W : World} {g c : Nat} {l : List UInt8} (h : Src5 W g l) : SrcB W (g, c, l) := ⟨h.lt, fun j b hj => by rw [Addr.add_lit, Nat.zero_add]; exact h.2 j b hj⟩
def EntOk (H : Nat) (W : World) (e : EntV) : Prop := e.ka < H ∧ e.va < H ∧ Src5 W e.ka e.key ∧ Src5 W e.va e.val
def entP (e : EntV) : List UInt8 × List UInt8 := (e.key, e.val)
structure EnS (w : World) (A : Option Addr) (n c : Nat) (ia : Option Addr) (mx ic : Nat) (H : Nat) (v : Value) (k : Nat) (es : List EntV) (W : World) : Prop where
 below : Below w.heap.size w W
 arg : W.heap[w.heap.size]? = some (.cells #[.slice A n c, .slice ia mx ic] 36)
 own : W.ownsRow (w.heap.size + 1) 57 2 v k (es.map entL).flatten
 len : es.length = k
 ok : ∀ e ∈ es, EntOk H W e
 hH : H ≤ W.heap.size
 hw : w.heap.size < H
theorem EnS.ty {w : World} {A : Option Addr} {n c : Nat} {ia : Option Addr} {mx ic : Nat} {H : Nat} {v : Value} {k : Nat} {es : List EntV} {W : World} (h : EnS w A n c ia mx ic H v k es W) {b : Nat} {cur : Array Value} {t : TypeId} {fr : Nat × Nat} (hb : W.heap[b]? = some (.cells cur t fr)) (ht : t ≠ 57) : v.ownBlock ≠ some b := by
 intro e
 obtain ⟨_, h2⟩ := h.own
 rcases h2 with ⟨h3, _⟩ | ⟨g, cap, cur', h3, _, h4, _⟩
 · rw [h3] at e; cases e
 · rw [h3] at e
   have := Option.some.inj e
   dsimp only at this
   subst this
   rw [h4] at hb
   cases hb
   exact ht rfl
theorem EnS.grown {w : World} {A : Option Addr} {n c : Nat} {ia : Option Addr} {mx ic : Nat} {H : Nat} {v : Value} {k : Nat} {es : List EntV} {W W' : World} (h : EnS w A n c ia mx ic H v k es W) {r : Option Nat} (hg : W.grownBy W' r) (hr : ∀ b, r = some b → H ≤ b ∧ ∃ cur t fr, W.heap[b]? = some (.cells cur t fr) ∧ t ≠ 57) : EnS w A n c ia mx ic H v k es W' := by
 have hw := h.hw
 refine ⟨h.below.grown hg h.below.size (fun b e => by have := (hr b e).1; omega), (hg.block _ (heap_lt h.arg) (fun e => by have := (hr _ e.symm).1; omega)).trans h.arg, h.own.kept hg ?_, h.len, fun e he => ?_, Nat.le_trans h.hH hg.size, hw⟩
 · cases hv : v.ownBlock with
   | none => exact Or.inl rfl
   | some b =>
     refine Or.inr fun e => ?_
     obtain ⟨_, cur, t, fr, h1, h2⟩ := hr b e.symm
     exact h.ty h1 h2 hv
 · obtain ⟨h1, h2, h3, h4⟩ := h.ok e he
   exact ⟨h1, h2, h3.grown hg (fun e => by have := (hr _ e).1; omega), h4.grown hg (fun e => by have := (hr _ e).1; omega)⟩
theorem EnS.keep {w : World} {A : Option Addr} {n c : Nat} {ia : Option Addr} {mx ic : Nat} {H : Nat} {v : Value} {k : Nat} {es : List EntV} {W W' : World} (h : EnS w A n c ia mx ic H v k es W) (hB : Below W.heap.size W W') : EnS w A n c ia mx ic H v k es W' :=
 h.grown (grown_of_below hB none) (fun b e => by cases e)
theorem EnS.lift {w : World} {A : Option Addr} {n c : Nat} {ia : Option Addr} {mx ic : Nat} {H : Nat} {v : Value} {k : Nat} {es : List EntV} {W : World} (h : EnS w A n c ia mx ic H v k es W) : EnS w A n c ia mx ic W.heap.size v k es W :=
 ⟨h.below, h.arg, h.own, h.len, fun e he => ⟨Nat.lt_of_lt_of_le (h.ok e he).1 h.hH, Nat.lt_of_lt_of_le (h.ok e he).2.1 h.hH, (h.ok e he).2.2⟩, Nat.le_refl _, Nat.lt_of_lt_of_le h.hw h.hH⟩
theorem EnS.more {w : World} {A : Option Addr} {n c : Nat} {ia : Option Addr} {mx ic : Nat} {H : Nat} {v : Value} {k : Nat} {es : List EntV} {W w6 : World} (h : EnS w A n c ia mx ic H v k es W) {v' : Value} {e : EntV} (hk : Src5 W e.ka e.key) (hv : Src5 W e.va e.val) (hown : w6.ownsRow (w.heap.size + 1) 57 2 v' (k + 1) ((es.map entL).flatten ++ entL e)) (hg : W.grownBy w6 v.ownBlock) :
   EnS w A n c ia mx ic w6.heap.size v' (k + 1) (es ++ [e]) w6 := by
 have hw := h.hw
 have hH := h.hH
 have hne : ∀ g l, Src5 W g l → v.ownBlock ≠ some g := fun g l hs => by
   obtain ⟨⟨cur, fr, h1⟩, _⟩ := hs
   exact h.ty h1 (by decide)
 have hlt : ∀ b, v.ownBlock = some b → w.heap.size + 1 ≤ b := fun b e => (h.own.lt b e).1
 refine ⟨h.below.grown hg h.below.size (fun b e => by have := hlt b e; omega), (hg.block _ (heap_lt h.arg) (fun e => by have := hlt _ e.symm; omega)).trans h.arg, ?_, by rw [List.length_append, h.len]; rfl, fun x hx => ?_, Nat.le_refl _, by have := hg.size; omega⟩
 · rw [List.map_append, List.flatten_append]
   simpa using hown
 · have hs := hg.size
   rcases List.mem_append.1 hx with hx | hx
   · obtain ⟨h1, h2, h3, h4⟩ := h.ok x hx
     exact ⟨by omega, by omega, h3.grown hg (hne _ _ h3), h4.grown hg (hne _ _ h4)⟩
   · rw [List.mem_singleton.1 hx]
     exact ⟨by have := hk.lt; omega, by have := hv.lt; omega, hk.grown hg (hne _ _ hk), hv.grown hg (hne _ _ hv)⟩
end Go.Proofs.YtcgpflkaejbkhaaGreatDoor
