/- What holds in the loops over one table's columns; the calls of add and of behind, seen from there. -/
import Derived.Test.YtcnkghcdjicldaaOfR
namespace Go.Proofs.Ytcnkghcdjicldaa
open Go.RowKit

theorem cell_kept {w w2 : World} {b o : Nat} {v : Value} (h : w.cell? ⟨b, o, none⟩ = some v) (hB : Below w.heap.size w w2) : w2.cell? ⟨b, o, none⟩ = some v := (hB.cell (p := ⟨b, o, none⟩) (World.block_lt_of_cell? w _ h)).trans h
/-- a list of indexes, as it stands behind a world -/
def OfL (w3 wr : World) (out : Value) (L : List (Int × List Int)) : Prop := Below w3.heap.size w3 wr ∧ ∃ ds A c, out = .slice A ds.length c ∧ pureD ds = L ∧ DefsAt wr A c ds
theorem OfL.call {w3 wr w2 : World} {out : Value} {L : List (Int × List Int)} (h : OfL w3 wr out L) (hB : Below wr.heap.size wr w2) : OfL w3 w2 out L := by
  obtain ⟨h1, ds, A, c, h3, h4, h5⟩ := h
  exact ⟨h1.trans (hB.mono h1.size), ds, A, c, h3, h4, h5.keep hB⟩
theorem OfL.below {w3 wr : World} {out : Value} {L : List (Int × List Int)} (h : OfL w3 wr out L) : Below w3.heap.size w3 wr := h.1
theorem OfL.slice {w3 wr : World} {out : Value} {L : List (Int × List Int)} (h : OfL w3 wr out L) : ∃ A n c, out = .slice A n c := by
  obtain ⟨_, ds, A, c, h3, _, _⟩ := h
  exact ⟨A, _, c, h3⟩
/-- what add answers, seen from there -/
def RetL (w3 w : World) (L : List (Int × List Int)) (e : Ending) (w' : World) : Prop := ∃ A n c, e = .returned (.slice A n c) ∧ OfL w3 w' (.slice A n c) L ∧ Below w.heap.size w w'
theorem add_on {w3 wr : World} {A cA : Option Addr} {n c m cc : Nat} {L : List (Int × List Int)} {t : Int} {cols : List Int} (h : OfL w3 wr (.slice A n c) L) (hL : L.length ≤ 800) (hc : Ints wr cA cc cols) (hm : m = cols.length) (hlc : cols.length ≤ 200) :
    Calls Try.prog 18 #[.slice A n c, .int .i64 t, .slice cA m cc] wr (RetL w3 wr (addR L t cols)) := by
  obtain ⟨h1, ds, A', c', h3, rfl, h5⟩ := h
  cases h3
  subst hm
  exact (add_any A cA c cc ds t cols wr h5 hc (by simpa [pureD] using hL) hlc).mono fun e w' ⟨ds', A1, c1, g1, g2, g3, g4⟩ => ⟨A1, _, c1, g2, ⟨h1.trans (g4.mono h1.size), ds', A1, c1, rfl, g1, g3⟩, g4⟩
/-- one number in a block of its own -/
theorem Ints.one (w : World) (z : Int) (e : TypeId) : Ints (w.alloc (.cells #[.int .i64 z] e)) (some ⟨w.heap.size, 0, none⟩) 1 [z] := by
  refine ⟨?_, by unfold maxLen; omega⟩
  have := Src.new w (.int .i64 z) e
  rw [World.size_alloc]
  exact this
/-- what behind answers -/
def RetZ (zs : List Int) (w : World) (e : Ending) (w' : World) : Prop := ∃ A n c, e = .returned (.slice A n c) ∧ n = zs.length ∧ Ints w' A c zs ∧ Below w.heap.size w w'
theorem behind_on {w : World} {A1 A2 : Option Addr} {n1 n2 c1 c2 : Nat} {a l : List Int} (h1 : Ints w A1 c1 a) (h2 : Ints w A2 c2 l) (hn1 : n1 = a.length) (hn2 : n2 = l.length) (hb : a.length ≤ 100) (hb2 : l.length ≤ 100) :
    Calls Try.prog 19 #[.slice A1 n1 c1, .slice A2 n2 c2] w (RetZ (behR a l) w) := by
  subst hn1 hn2
  exact (behind_any A1 A2 c1 c2 a l w h1 h2 hb hb2).mono fun e w' h => by
    obtain ⟨A, c, g1, g2, g3⟩ := RetO.toI h
    exact ⟨A, _, c, g1, rfl, g2, g3⟩
theorem places_on {q : Qd} {f : Nat} {A : Option Addr} {n c : Nat} {l : List Int} {w : World} (hq : QAt w q) (hl : Ints w A c l) (hn : n = l.length) (hb : l.length ≤ 100) :
    Calls Try.prog 23 #[qV q, .int .i64 (f : Int), .slice A n c] w (RetZ (placesR q f l) w) := by
  subst hn
  exact (places_any q f A c l w hq hl hb).mono fun e w' h => by
    obtain ⟨A, c, g1, g2, g3⟩ := RetO.toI h
    exact ⟨A, _, c, g1, rfl, g2, g3⟩
theorem OfL.toIn {w w3 wr : World} {cs : Array Value} {out : Value} {L : List (Int × List Int)} (h : OfL w3 wr out L) (hw : Below w.heap.size w w3) (hb : BoxC w3 w.heap.size cs) : Below w.heap.size w wr ∧ BoxC wr w.heap.size cs ∧ ∃ ds A c, out = .slice A ds.length c ∧ pureD ds = L ∧ DefsAt wr A c ds :=
  ⟨hw.trans (h.1.mono hw.size), hb.keep h.1, h.2⟩
theorem Src.new2 (w : World) (o : Obj) (u : Value) (e : TypeId) : Src ((w.alloc o).alloc (.cells #[u] e)) (w.heap.size + 1 + 1) (some ⟨w.heap.size + 1, 0, none⟩) 1 1 [u] := by
  have h := Src.new (w.alloc o) u e
  rwa [World.size_alloc] at h
/-- a row of numbers of a loop's own -/
def ByIn (w0 wr : World) (out : Value) (zs : List Int) : Prop := Below w0.heap.size w0 wr ∧ wr.ownsRow w0.heap.size 3 1 out zs.length (intsV zs)
section
variable {w0 wr w2 : World} {out : Value} {zs : List Int}
theorem ByIn.own (h : ByIn w0 wr out zs) : wr.ownsRow w0.heap.size 3 1 out zs.length (intsV zs) := h.2
theorem ByIn.start (w : World) : ByIn w w (.slice none 0 0) [] := ⟨Below.refl _ _, World.ownsRow_nil _ _ _ _⟩
theorem ByIn.call (h : ByIn w0 wr out zs) (hB : Below wr.heap.size wr w2) : ByIn w0 w2 out zs := ⟨h.1.trans (hB.mono h.1.size), own_kept h.2 hB (Nat.le_refl _)⟩
theorem ByIn.app (h : ByIn w0 wr out zs) {out2 : Value} {z : Int} (hg : wr.grownBy w2 out.ownBlock) (ho : w2.ownsRow w0.heap.size 3 1 out2 (zs.length + 1) (intsV zs ++ [.int .i64 z])) : ByIn w0 w2 out2 (zs ++ [z]) :=
  ⟨below_append h.1 h.2 h.1.size hg, owns_cast ho (by simp [intsV]) (intsV_length _)⟩
theorem ByIn.toI (h : ByIn w0 wr out zs) : ∃ A c, out = .slice A zs.length c ∧ Ints wr A c zs := ints_own h.2 rfl
end
end Go.Proofs.Ytcnkghcdjicldaa
