/- What a query, a node, an index is, as data; how they stand in memory; what the functions answer of them. -/
import Derived.Test.YtcnkghcdjicldaaOwn
import Derived.WalkKit
import Derived.WalkSmall
import Derived.ProofKit
import Derived.Lib.Hide
import Derived.IntWalk
import Derived.BigQuiet
import Derived.Deep.QuietTactic
namespace Go.Proofs.Ytcnkghcdjicldaa
open Go.RowKit

def RetV (v : Value) (w : World) (e : Ending) (w' : World) : Prop := e = .returned v ∧ Below w.heap.size w w'
def RetT (w : World) (e : Ending) (w' : World) : Prop := e = .returned (.bool true) ∧ Below w.heap.size w w'
theorem ret_int {k : IntKind} {a b : Int} (h : a = b) : Ending.returned (.int k a) = .returned (.int k b) := by rw [h]
theorem ret_bool {a b : Bool} (h : a = b) : Ending.returned (.bool a) = .returned (.bool b) := by rw [h]
theorem below_drewN {w w2 : World} {B n : Nat} (h : Below B w w2) (hw : ∃ m, w2.drewN n = w2.drewN m) : Below B w (w2.drewN n) := by
  induction n with
  | zero => exact h
  | succ n ih => exact (ih ⟨n, rfl⟩).drew
theorem bcell {W w1 : World} (hb : Below W.heap.size W w1) : (∀ b o, b < W.heap.size → w1.cell? ⟨b, o, none⟩ = W.cell? ⟨b, o, none⟩) ∧ (∀ b o, b < W.heap.size → w1.frozen? ⟨b, o, none⟩ = W.frozen? ⟨b, o, none⟩) :=
  ⟨fun b o h => hb.cell (p := ⟨b, o, none⟩) h, fun b o h => hb.frozen (p := ⟨b, o, none⟩) h⟩

/-- numbers as cells -/
def intsV (zs : List Int) : List Value := zs.map (Value.int .i64)
/-- a slice reads as numbers -/
def Ints (w : World) (A : Option Addr) (c : Nat) (zs : List Int) : Prop := Src w w.heap.size A zs.length c (intsV zs) ∧ c ≤ maxLen
theorem intsV_length (zs : List Int) : (intsV zs).length = zs.length := by simp [intsV]
theorem intsV_one (zs : List Int) : ∀ u ∈ intsV zs, u.oneCell' = true := by
  intro u hu
  obtain ⟨y, _, rfl⟩ := List.mem_map.1 hu
  rfl
section
variable {w w' : World} {A : Option Addr} {c : Nat} {zs : List Int}
theorem Ints.keep (h : Ints w A c zs) (hB : Below w.heap.size w w') : Ints w' A c zs := ⟨(h.1.keep hB).more hB.size, h.2⟩
theorem Ints.len (h : Ints w A c zs) : zs.length ≤ c := h.1.room
theorem Ints.small (h : Ints w A c zs) : zs.length ≤ maxLen := Nat.le_trans h.1.room h.2
theorem Ints.nil (w : World) : Ints w none 0 [] := ⟨.inl ⟨rfl, rfl, rfl, rfl⟩, by unfold maxLen; omega⟩
/-- where its numbers lie -/
theorem Ints.at (h : Ints w A c zs) : zs = [] ∨ ∃ b off, A = some ⟨b, off, none⟩ ∧ b < w.heap.size ∧ ∀ j z, zs[j]? = some z → w.cell? ⟨b, off + j, none⟩ = some (.int .i64 z) := by
  rcases h.1 with ⟨_, _, _, h4⟩ | ⟨⟨b, off, spot⟩, rfl, h2, h3, h4, h5⟩
  · exact .inl (by simpa [intsV] using h4)
  · cases zs with
    | nil => exact .inl rfl
    | cons z zs =>
      have h0 := h5 0 (.int .i64 z) rfl
      have hspot : spot = none := by simpa [Addr.add] using World.cell?_spot h0
      subst hspot
      refine .inr ⟨b, off, rfl, h2, fun j y hy => ?_⟩
      have := h5 j (.int .i64 y) (by simp only [intsV, List.getElem?_map, hy]; rfl)
      have e1 : (Addr.add ⟨b, off, none⟩ j) = ⟨b, off + j, none⟩ := by unfold Addr.add; split <;> simp_all
      rwa [e1] at this
theorem Ints.front (h : Ints w A c zs) (p : Nat) (hp : p ≤ zs.length) : Ints w A c (zs.take p) := by
  have := h.1.front p hp
  refine ⟨?_, h.2⟩
  rw [List.length_take, Nat.min_eq_left hp]
  simpa [intsV, List.map_take] using this
theorem Ints.of_own {base e n cap : Nat} {us : List Value} (h : w.ownsRow base e 1 (.slice A n cap) n us) (hu : us = intsV zs) (hn : n = zs.length) : Ints w A cap zs := by
  subst hu
  subst hn
  refine ⟨Src.of_own h, ?_⟩
  rcases h.2 with ⟨hv, hn⟩ | ⟨g, cap', cur, hv, _, _, _, hcm, _, _⟩
  · injection hv with _ _ a3; unfold maxLen; omega
  · injection hv with _ _ a3; omega
end
/-- a function answers numbers -/
def RetI (zs : List Int) (w : World) (e : Ending) (w' : World) : Prop := ∃ A c, e = .returned (.slice A zs.length c) ∧ Ints w' A c zs ∧ Below w.heap.size w w'

/-- an expression's node -/
inductive NodeT where
  | mk (kind : Int) (op : ByteArray) (lk ln : Int) (lf : Nat) (ls : ByteArray) (at_ : Int) (nt : Bool) (ty : Int) (A : Option Addr) (c : Nat) (args : List NodeT)
namespace NodeT
def kind : NodeT → Int | mk k .. => k
def op : NodeT → ByteArray | mk _ o .. => o
def at_ : NodeT → Int | mk _ _ _ _ _ _ a .. => a
def A : NodeT → Option Addr | mk _ _ _ _ _ _ _ _ _ A .. => A
def c : NodeT → Nat | mk _ _ _ _ _ _ _ _ _ _ c _ => c
def args : NodeT → List NodeT | mk _ _ _ _ _ _ _ _ _ _ _ l => l
/-- its cells -/
@[reducible] def cells : NodeT → List Value
  | mk k o lk ln lf ls a nt ty A c l => [.int .i64 k, .string o, .int .i64 lk, .int .i64 ln, .float .f64 lf, .string ls, .int .i64 a, .bool nt, .int .i64 ty, .slice A l.length c]
end NodeT
/-- nodes as they stand in memory, with all that is below them -/
inductive NodesAt (w : World) : Option Addr → List NodeT → Prop
  | nil (A : Option Addr) : NodesAt w A []
  | mk (b off : Nat) (l : List NodeT) (hb : b < w.heap.size) (hl : l.length ≤ maxLen)
      (hc : ∀ (j : Nat) (t : NodeT), l[j]? = some t → ∀ (i : Nat) (v : Value), t.cells[i]? = some v → w.cell? ⟨b, off + j * 10 + i, none⟩ = some v)
      (hs : ∀ (j : Nat) (t : NodeT), l[j]? = some t → NodesAt w t.A t.args) : NodesAt w (some ⟨b, off, none⟩) l
theorem NodesAt.keep {w w' : World} (hB : Below w.heap.size w w') {A : Option Addr} {l : List NodeT} (h : NodesAt w A l) : NodesAt w' A l := by
  induction h with
  | nil A => exact .nil A
  | mk b off l hb hl hc hs ih => exact .mk b off l (Nat.lt_of_lt_of_le hb hB.size) hl (fun j t ht i v hv => (hB.cell (p := ⟨b, off + j * 10 + i, none⟩) hb).trans (hc j t ht i v hv)) (fun j t ht => ih j t ht)
theorem NodesAt.small {w : World} {A : Option Addr} {l : List NodeT} (h : NodesAt w A l) : l.length ≤ maxLen := by
  cases h with
  | nil => simp
  | mk _ _ _ _ hl => exact hl
/-- what an order is by -/
def SortsAt (w : World) (A : Option Addr) (l : List (Int × Bool)) : Prop := l.length ≤ maxLen ∧ (l = [] ∨ ∃ b off, A = some ⟨b, off, none⟩ ∧ b < w.heap.size ∧ ∀ (j : Nat) (s : Int × Bool), l[j]? = some s → w.cell? ⟨b, off + j * 2, none⟩ = some (.int .i64 s.1) ∧ w.cell? ⟨b, off + j * 2 + 1, none⟩ = some (.bool s.2))
theorem SortsAt.keep {w w' : World} (hB : Below w.heap.size w w') {A : Option Addr} {l : List (Int × Bool)} (h : SortsAt w A l) : SortsAt w' A l := by
  refine ⟨h.1, h.2.imp id fun ⟨b, off, h1, h2, h3⟩ => ⟨b, off, h1, Nat.lt_of_lt_of_le h2 hB.size, fun j s hs => ⟨(hB.cell (p := ⟨b, off + j * 2, none⟩) h2).trans (h3 j s hs).1, (hB.cell (p := ⟨b, off + j * 2 + 1, none⟩) h2).trans (h3 j s hs).2⟩⟩⟩
/-- a query -/
structure Qd where
  tA : Option Addr
  tc : Nat
  tabs : List Int
  bA : Option Addr
  bc : Nat
  beg : List Int
  width : Int
  wA : Option Addr
  wc : Nat
  wh : List NodeT
  gA : Option Addr
  gn : Nat
  gc : Nat
  grouped : Bool
  iA : Option Addr
  i_n : Nat
  ic : Nat
  oA : Option Addr
  oc : Nat
  ord : List (Int × Bool)
  limit : Int
@[reducible] def Qd.cells (q : Qd) : Array Value := #[.slice q.tA q.tabs.length q.tc, .slice q.bA q.beg.length q.bc, .int .i64 q.width, .slice q.wA q.wh.length q.wc, .slice q.gA q.gn q.gc, .bool q.grouped, .slice q.iA q.i_n q.ic, .slice q.oA q.ord.length q.oc, .int .i64 q.limit]
@[reducible] def qV (q : Qd) : Value := .agg q.cells
/-- a slice reads as numbers; where there are none, it may lie anywhere -/
def IntsR (w : World) (A : Option Addr) (c : Nat) (zs : List Int) : Prop := zs.length ≤ c ∧ c ≤ maxLen ∧ (zs = [] ∨ ∃ b off, A = some ⟨b, off, none⟩ ∧ b < w.heap.size ∧ ∀ j z, zs[j]? = some z → w.cell? ⟨b, off + j, none⟩ = some (.int .i64 z))
theorem Ints.toR {w : World} {A : Option Addr} {c : Nat} {zs : List Int} (h : Ints w A c zs) : IntsR w A c zs := ⟨h.len, h.2, h.at⟩
theorem IntsR.at {w : World} {A : Option Addr} {c : Nat} {zs : List Int} (h : IntsR w A c zs) : zs = [] ∨ ∃ b off, A = some ⟨b, off, none⟩ ∧ b < w.heap.size ∧ ∀ j z, zs[j]? = some z → w.cell? ⟨b, off + j, none⟩ = some (.int .i64 z) := h.2.2
theorem IntsR.small {w : World} {A : Option Addr} {c : Nat} {zs : List Int} (h : IntsR w A c zs) : zs.length ≤ maxLen := Nat.le_trans h.1 h.2.1
theorem IntsR.keep {w w' : World} {A : Option Addr} {c : Nat} {zs : List Int} (h : IntsR w A c zs) (hB : Below w.heap.size w w') : IntsR w' A c zs :=
  ⟨h.1, h.2.1, h.2.2.imp id fun ⟨b, off, h1, h2, h3⟩ => ⟨b, off, h1, Nat.lt_of_lt_of_le h2 hB.size, fun j z hz => (hB.cell (p := ⟨b, off + j, none⟩) h2).trans (h3 j z hz)⟩⟩
def QAt (w : World) (q : Qd) : Prop := IntsR w q.tA q.tc q.tabs ∧ IntsR w q.bA q.bc q.beg ∧ NodesAt w q.wA q.wh ∧ SortsAt w q.oA q.ord
theorem QAt.keep {w w' : World} {q : Qd} (h : QAt w q) (hB : Below w.heap.size w w') : QAt w' q := ⟨h.1.keep hB, h.2.1.keep hB, h.2.2.1.keep hB, h.2.2.2.keep hB⟩

/-- the last of the first k numbers that is not above one -/
def lastLe (l : List Int) (a : Int) : Nat → Option Nat
  | 0 => none
  | k + 1 => if l.getD k 0 ≤ a then some k else lastLe l a k
/-- the table of a place -/
def tabR (q : Qd) (a : Int) : Option Nat := if 0 ≤ a ∧ a < q.width then (lastLe q.beg a q.beg.length).filter (fun f => decide (f < q.tabs.length)) else none
def tabI (o : Option Nat) : Int := match o with | some f => f | none => -1
/-- a place's column in a table -/
def colR (q : Qd) (f : Nat) (a : Int) : Int := wrap64 (a - q.beg.getD f 0)
mutual
/-- has a node a column of a table? -/
def readsR (q : Qd) (f : Nat) : NodeT → Bool
  | .mk k _ _ _ _ _ a _ _ _ _ l => if k = 2 then decide (tabR q a = some f) else readsL q f l
def readsL (q : Qd) (f : Nat) : List NodeT → Bool
  | [] => false
  | t :: l => readsR q f t || readsL q f l
end
theorem readsL_any (q : Qd) (f : Nat) (l : List NodeT) : readsL q f l = l.any (readsR q f) := by
  induction l with
  | nil => rw [readsL]; rfl
  | cons t l ih => rw [readsL, ih]; rfl
end Go.Proofs.Ytcnkghcdjicldaa
