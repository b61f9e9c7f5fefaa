/- Expressions and what they are bound to: as plain data, and what memory reads as such. The document's parser at the words of one text: next, may, must, name. Boxes of a call that stand at its world's end. The document's parser at the words of one text: a column with its table. The document's parser at the words of one text: expressions of one level. -/
import Derived.Test.YthdmfaepjemopaaGreatDoorQAD
import Derived.Test.YthdmfaepjemopaaGreatDoorQAE
import Derived.Laws.Rows
import Derived.Laws.AppendOwn
namespace Go.Proofs.YthdmfaepjemopaaGreatDoor
open Go.RowKit

def findN {α : Type} (nm : α → ByteArray) (l : List α) (x : ByteArray) : Option Nat := l.findIdx? (fun p => sameN (nm p) x)
theorem first_find {α : Type} {P : Nat → Bool} {l : List α} {nm : α → ByteArray} {x : ByteArray} (hP : ∀ (j : Nat) (y : α), l[j]? = some y → P j = sameN (nm y) x) {r : Int} (h : FirstIs P l.length r) : (∃ k : Nat, k < l.length ∧ findN nm l x = some k ∧ r = k) ∨ (findN nm l x = none ∧ r = -1) := by
  rcases h with ⟨k, hk, rfl, hp, hq⟩ | ⟨rfl, hp⟩
  · refine Or.inl ⟨k, hk, ?_, rfl⟩
    unfold findN
    rw [List.findIdx?_eq_some_iff_getElem]
    refine ⟨hk, by rw [← hP k l[k] (List.getElem?_eq_getElem hk)]; exact hp, fun j hj => ?_⟩
    have hjl : j < l.length := Nat.lt_trans hj hk
    have := hq j hj
    rw [hP j l[j] (List.getElem?_eq_getElem hjl)] at this
    simpa using this
  · refine Or.inr ⟨?_, rfl⟩
    unfold findN
    rw [List.findIdx?_eq_none_iff]
    intro y hy
    obtain ⟨j, hj, rfl⟩ := List.mem_iff_getElem.1 hy
    have := hp j hj
    rw [hP j l[j] (List.getElem?_eq_getElem hj)] at this
    exact this
def placeI : Option Nat → Int
  | some k => (k : Int)
  | none => -1
theorem first_place {α : Type} {P : Nat → Bool} {l : List α} {nm : α → ByteArray} {x : ByteArray} (hP : ∀ (j : Nat) (y : α), l[j]? = some y → P j = sameN (nm y) x) {r : Int} (h : FirstIs P l.length r) : r = placeI (findN nm l x) := by
  rcases first_find hP h with ⟨k, _, h1, rfl⟩ | ⟨h1, rfl⟩ <;> rw [h1] <;> rfl
theorem findN_lt {α : Type} {nm : α → ByteArray} {l : List α} {x : ByteArray} {k : Nat} (h : findN nm l x = some k) : k < l.length := by
  unfold findN at h
  obtain ⟨h, _⟩ := List.findIdx?_eq_some_iff_getElem.1 h
  exact h
theorem flat_get {K : Nat} {ls : List (List Value)} (h : ∀ x ∈ ls, x.length = K) {j i : Nat} {x : List Value} {u : Value} (hx : ls[j]? = some x) (hu : x[i]? = some u) : (ls.flatten)[j * K + i]? = some u := by
  induction ls generalizing j with
  | nil => simp at hx
  | cons y ls ih =>
    have hy := h y (by simp)
    cases j with
    | zero =>
      obtain rfl : y = x := by simpa using hx
      have hi := (List.getElem?_eq_some_iff.1 hu).1
      rw [List.flatten_cons, List.getElem?_append_left (by omega), Nat.zero_mul, Nat.zero_add]
      exact hu
    | succ j =>
      have h2 := ih (fun z hz => h z (by simp [hz])) (j := j) (by simpa using hx)
      rw [List.flatten_cons, List.getElem?_append_right (by rw [hy, Nat.succ_mul]; omega), hy, Nat.succ_mul, show j * K + K + i - K = j * K + i by omega]
      exact h2
theorem own_cells {w : World} {base e K n : Nat} {v : Value} {ls : List (List Value)} (h : w.ownsRow base e K v n ls.flatten) (hl : ∀ x ∈ ls, x.length = K) (hn : n = ls.length) : ∃ A c, v = .slice A n c ∧ n ≤ c ∧ CellsAt w K A ls ∧ (∀ a, A = some a → base ≤ a.block ∧ a.block < w.heap.size) ∧ (A = none → c = 0 ∧ ls = []) := by
  rcases h.2 with ⟨rfl, h0⟩ | ⟨g, cap, cur, rfl, hb, hh, hnc, hcm, _, ht⟩
  · have : ls = [] := List.length_eq_zero_iff.1 (by omega)
    subst this
    exact ⟨none, 0, by rw [h0], by omega, CellsAt.nil_at _ _ _, (fun a h => by cases h), fun _ => ⟨rfl, rfl⟩⟩
  · refine ⟨some ⟨g, 0, none⟩, cap, rfl, hnc, ⟨by rw [← hn]; omega, Or.inr ⟨g, 0, rfl, heap_lt hh, fun j x hx => ⟨hl x (List.mem_of_getElem? hx), fun i u hu => ?_⟩⟩⟩, (fun a h => by cases h; exact ⟨hb, heap_lt hh⟩), fun h => by cases h⟩
    have e := flat_get hl hx hu
    rw [← ht] at e
    rw [cell_of_row w g _ _ _ _ hh]
    have hlt := (List.getElem?_eq_some_iff.1 e).1
    rw [List.length_take] at hlt
    rw [List.getElem?_take_of_lt (by omega)] at e
    rw [Nat.zero_add]
    simpa using e
def DeepAt (w : World) (A : Option Addr) (ts : List (Tab × List Col)) : Prop := TabsAt w A (ts.map Prod.fst) ∧ ∀ p ∈ ts, ColsAt w p.1.ca p.2 ∧ p.1.cn = p.2.length ∧ p.2.length ≤ p.1.cc ∧ (p.1.ca = none → p.1.cc = 0)
theorem DeepAt.keep {w w' : World} {A : Option Addr} {ts : List (Tab × List Col)} (hB : Below w.heap.size w w') (h : DeepAt w A ts) : DeepAt w' A ts :=
  ⟨CellsAt.keep hB h.1, fun p hp => ⟨CellsAt.keep hB (h.2 p hp).1, (h.2 p hp).2⟩⟩
def IntsAt (w : World) (A : Option Addr) (l : List Int) : Prop := l.length ≤ maxLen ∧ (l = [] ∨ ∃ b off, A = some ⟨b, off, none⟩ ∧ b < w.heap.size ∧ ∀ (j : Nat) (z : Int), l[j]? = some z → w.cell? ⟨b, off + j, none⟩ = some (.int .i64 z))
theorem IntsAt.keep {w w' : World} (hB : Below w.heap.size w w') {A : Option Addr} {l : List Int} (h : IntsAt w A l) : IntsAt w' A l :=
  ⟨h.1, h.2.imp id fun ⟨b, off, h1, h2, h3⟩ => ⟨b, off, h1, Nat.lt_of_lt_of_le h2 hB.size, fun j z hz => (hB.cell (p := ⟨b, off + j, none⟩) h2).trans (h3 j z hz)⟩⟩
theorem below_drewN {B : Nat} {a w : World} (h : Below B a w) (n : Nat) : Below B a (w.drewN n) := by
  induction n with
  | zero => exact h
  | succ n ih => exact ih.drew
theorem own_ints {w : World} {base n : Nat} {v : Value} {l : List Int} (h : w.ownsRow base 3 1 v n (l.map (Value.int .i64))) (hn : n = l.length) : ∃ A c, v = .slice A n c ∧ n ≤ c ∧ IntsAt w A l ∧ (∀ a, A = some a → base ≤ a.block ∧ a.block < w.heap.size) ∧ (A = none → c = 0 ∧ l = []) := by
  rcases h.2 with ⟨rfl, h0⟩ | ⟨g, cap, cur, rfl, hb, hh, hnc, hcm, _, ht⟩
  · have : l = [] := List.length_eq_zero_iff.1 (by omega)
    subst this
    exact ⟨none, 0, by rw [h0], by omega, ⟨Nat.zero_le _, Or.inl rfl⟩, (fun a h => by cases h), fun _ => ⟨rfl, rfl⟩⟩
  · refine ⟨some ⟨g, 0, none⟩, cap, rfl, hnc, ⟨by rw [← hn]; omega, Or.inr ⟨g, 0, rfl, heap_lt hh, fun j z hz => ?_⟩⟩, (fun a h => by cases h; exact ⟨hb, heap_lt hh⟩), fun h => by cases h⟩
    have e : (l.map (Value.int .i64))[j]? = some (.int .i64 z) := by rw [List.getElem?_map, hz]; rfl
    rw [← ht] at e
    rw [cell_of_row w g _ _ _ _ hh]
    have hlt := (List.getElem?_eq_some_iff.1 e).1
    rw [List.length_take] at hlt
    rw [List.getElem?_take_of_lt (by omega)] at e
    rw [Nat.zero_add]
    simpa using e

structure Vl where
  k : Int
  n : Int
  f : Nat
  s : ByteArray
def zeroV : Vl := ⟨0, 0, 0, ⟨#[]⟩⟩
def clP (v : Vl) : Vl := ⟨clK v.k, clN v.k v.n, clF v.k v.f, clS v.k v.s⟩
def clD (v : Vl) : Vl := ⟨clK v.k, clN v.k v.n, rclF v.k v.f, clS v.k v.s⟩
inductive Ex where
  | mk (kind : Int) (op : ByteArray) (lit : Vl) (table name : ByteArray) (neg : Bool) (A : Option Addr) (c : Nat) (args : List Ex)
namespace Ex
def kind : Ex → Int | mk k _ _ _ _ _ _ _ _ => k
def op : Ex → ByteArray | mk _ o _ _ _ _ _ _ _ => o
def lit : Ex → Vl | mk _ _ l _ _ _ _ _ _ => l
def table : Ex → ByteArray | mk _ _ _ t _ _ _ _ _ => t
def name : Ex → ByteArray | mk _ _ _ _ n _ _ _ _ => n
def neg : Ex → Bool | mk _ _ _ _ _ b _ _ _ => b
def A : Ex → Option Addr | mk _ _ _ _ _ _ a _ _ => a
def c : Ex → Nat | mk _ _ _ _ _ _ _ c _ => c
def args : Ex → List Ex | mk _ _ _ _ _ _ _ _ l => l
end Ex
def exL (x : Ex) : List Value := [.int .i64 x.kind, .string x.op, .int .i64 x.lit.k, .int .i64 x.lit.n, .float .f64 x.lit.f, .string x.lit.s, .string x.table, .string x.name, .bool x.neg, .slice x.A x.args.length x.c]
@[reducible] def exV (x : Ex) : Value := .agg #[.int .i64 x.kind, .string x.op, .int .i64 x.lit.k, .int .i64 x.lit.n, .float .f64 x.lit.f, .string x.lit.s, .string x.table, .string x.name, .bool x.neg, .slice x.A x.args.length x.c]
def ExAt (W : World) : Nat → Ex → Prop
  | 0, _ => False
  | n + 1, x => CellsAt W 10 x.A (x.args.map exL) ∧ ∀ a ∈ x.args, ExAt W n a
theorem ExAt.keep {W W' : World} (hB : Below W.heap.size W W') : ∀ {n : Nat} {x : Ex}, ExAt W n x → ExAt W' n x
  | 0, _, h => h.elim
  | _ + 1, _, h => ⟨CellsAt.keep hB h.1, fun a ha => ExAt.keep hB (h.2 a ha)⟩
def ExsAt (W : World) (n : Nat) (A : Option Addr) (l : List Ex) : Prop := CellsAt W 10 A (l.map exL) ∧ ∀ a ∈ l, ExAt W n a
theorem ExsAt.keep {W W' : World} (hB : Below W.heap.size W W') {n : Nat} {A : Option Addr} {l : List Ex} (h : ExsAt W n A l) : ExsAt W' n A l := ⟨CellsAt.keep hB h.1, fun a ha => (h.2 a ha).keep hB⟩
inductive Nd where
  | mk (kind : Int) (op : ByteArray) (lit : Vl) (pos : Int) (neg : Bool) (ty : Int) (args : List Nd)
namespace Nd
def kind : Nd → Int | mk k _ _ _ _ _ _ => k
def op : Nd → ByteArray | mk _ o _ _ _ _ _ => o
def lit : Nd → Vl | mk _ _ l _ _ _ _ => l
def pos : Nd → Int | mk _ _ _ p _ _ _ => p
def neg : Nd → Bool | mk _ _ _ _ b _ _ => b
def ty : Nd → Int | mk _ _ _ _ _ t _ => t
def args : Nd → List Nd | mk _ _ _ _ _ _ l => l
end Nd
def ndL (p : Nd) (v : Vl) (A : Option Addr) (n c : Nat) : List Value := [.int .i64 p.kind, .string p.op, .int .i64 v.k, .int .i64 v.n, .float .f64 v.f, .string v.s, .int .i64 p.pos, .bool p.neg, .int .i64 p.ty, .slice A n c]
@[reducible] def ndV (p : Nd) (v : Vl) (A : Option Addr) (n c : Nat) : Value := .agg #[.int .i64 p.kind, .string p.op, .int .i64 v.k, .int .i64 v.n, .float .f64 v.f, .string v.s, .int .i64 p.pos, .bool p.neg, .int .i64 p.ty, .slice A n c]
def NdAt (cl : Vl → Vl) (ok : Nat → Prop) (W : World) : Nat → List Value → Nd → Prop
  | 0, _, _ => False
  | n + 1, v, p => ∃ (A : Option Addr) (c : Nat) (vs : List (List Value)), v = ndL p (cl p.lit) A vs.length c ∧ CellsAt W 10 A vs ∧ (vs ≠ [] → ∀ a, A = some a → ok a.block) ∧ vs.length = p.args.length ∧ ∀ (i : Nat) (x : List Value) (q : Nd), vs[i]? = some x → p.args[i]? = some q → NdAt cl ok W n x q
def NdsAt (cl : Vl → Vl) (ok : Nat → Prop) (W : World) (n : Nat) (vs : List (List Value)) (ps : List Nd) : Prop := vs.length = ps.length ∧ ∀ (i : Nat) (x : List Value) (q : Nd), vs[i]? = some x → ps[i]? = some q → NdAt cl ok W n x q
theorem NdAt.len {cl : Vl → Vl} {ok : Nat → Prop} {W : World} : ∀ {n : Nat} {v : List Value} {p : Nd}, NdAt cl ok W n v p → v.length = 10
  | 0, _, _, h => h.elim
  | _ + 1, _, _, ⟨_, _, _, h, _⟩ => by rw [h]; rfl
theorem CellsAt.grown {W W' : World} {K : Nat} {A : Option Addr} {ls : List (List Value)} (h : CellsAt W K A ls) {r : Option Nat} (hg : W.grownBy W' r) (hr : ls ≠ [] → ∀ a, A = some a → some a.block ≠ r) : CellsAt W' K A ls := by
  refine ⟨h.1, ?_⟩
  rcases h.2 with h0 | ⟨b, off, h1, h2, h3⟩
  · exact Or.inl h0
  · by_cases he : ls = []
    · exact Or.inl he
    · refine Or.inr ⟨b, off, h1, Nat.lt_of_lt_of_le h2 hg.size, fun j x hx => ⟨(h3 j x hx).1, fun i v hv => ?_⟩⟩
      exact hg.cell ((h3 j x hx).2 i v hv) (show some b ≠ r from hr he _ h1)
theorem NdAt.mono {cl : Vl → Vl} {ok ok' : Nat → Prop} {W : World} (hk : ∀ b, ok b → b < W.heap.size → ok' b) : ∀ {n : Nat} {v : List Value} {p : Nd}, NdAt cl ok W n v p → NdAt cl ok' W n v p
  | 0, _, _, h => h.elim
  | n + 1, _, _, ⟨A, c, vs, h1, h2, h3, h4, h5⟩ => ⟨A, c, vs, h1, h2, fun hv a ha => hk _ (h3 hv a ha) (by
      rcases h2.2 with h0 | ⟨b, off, e1, e2, _⟩
      · exact absurd h0 hv
      · rw [ha] at e1; cases e1; exact e2), h4, fun i x q hx hq => (h5 i x q hx hq).mono hk⟩
theorem NdAt.grown {cl : Vl → Vl} {ok : Nat → Prop} {W W' : World} {r : Option Nat} (hg : W.grownBy W' r) (hr : ∀ b, ok b → some b ≠ r) : ∀ {n : Nat} {v : List Value} {p : Nd}, NdAt cl ok W n v p → NdAt cl ok W' n v p
  | 0, _, _, h => h.elim
  | _n + 1, _, _, ⟨A, c, vs, h1, h2, h3, h4, h5⟩ => ⟨A, c, vs, h1, h2.grown hg (fun hv a ha => hr _ (h3 hv a ha)), h3, h4, fun i x q hx hq => (h5 i x q hx hq).grown hg hr⟩
theorem NdAt.keep {cl : Vl → Vl} {ok : Nat → Prop} {W W' : World} (hB : Below W.heap.size W W') : ∀ {n : Nat} {v : List Value} {p : Nd}, NdAt cl ok W n v p → NdAt cl ok W' n v p
  | 0, _, _, h => h.elim
  | _n + 1, _, _, ⟨A, c, vs, h1, h2, h3, h4, h5⟩ => ⟨A, c, vs, h1, CellsAt.keep hB h2, h3, h4, fun i x q hx hq => (h5 i x q hx hq).keep hB⟩
theorem NdsAt.keep {cl : Vl → Vl} {ok : Nat → Prop} {W W' : World} (hB : Below W.heap.size W W') {n : Nat} {vs : List (List Value)} {ps : List Nd} (h : NdsAt cl ok W n vs ps) : NdsAt cl ok W' n vs ps := ⟨h.1, fun i x q hx hq => (h.2 i x q hx hq).keep hB⟩
theorem NdsAt.mono {cl : Vl → Vl} {ok ok' : Nat → Prop} {W : World} (hk : ∀ b, ok b → b < W.heap.size → ok' b) {n : Nat} {vs : List (List Value)} {ps : List Nd} (h : NdsAt cl ok W n vs ps) : NdsAt cl ok' W n vs ps := ⟨h.1, fun i x q hx hq => (h.2 i x q hx hq).mono hk⟩
theorem NdsAt.grown {cl : Vl → Vl} {ok : Nat → Prop} {W W' : World} {r : Option Nat} (hg : W.grownBy W' r) (hr : ∀ b, ok b → some b ≠ r) {n : Nat} {vs : List (List Value)} {ps : List Nd} (h : NdsAt cl ok W n vs ps) : NdsAt cl ok W' n vs ps := ⟨h.1, fun i x q hx hq => (h.2 i x q hx hq).grown hg hr⟩
structure Row where
  nm : ByteArray
  tab : Tab
  cols : List Col
  beg : Int
def hitR (tn nm : ByteArray) (r : Row) : Option (Int × Int) := match findN Col.name r.cols nm with
  | none => none
  | some c => if tn = ⟨#[]⟩ ∨ tn = r.nm then some (r.beg + c, ((r.cols[c]?).map Col.ty).getD 0) else none
def colR (rows : List Row) (x : Ex) : Except Int Nd := match rows.filterMap (hitR x.table x.name) with
  | [h] => .ok (.mk 2 ⟨#[]⟩ zeroV h.1 false h.2 [])
  | _ => .error 131
def bindArgs (f : Ex → Except Int Nd) : List Ex → Except Int (List Nd)
  | [] => .ok []
  | x :: l => match f x with
    | .error e => .error e
    | .ok p => match bindArgs f l with
      | .error e => .error e
      | .ok ps => .ok (p :: ps)
def likeT (t : Int) (l : List Int) : Bool := t == 0 || l.contains t
def foldK (k : Int) : Bool := decide (10 ≤ k) && decide (k ≤ 13)
def arity (k : Int) : Option Nat := if k = 1 ∨ k = 2 ∨ k = 10 then some 0 else if k = 3 ∨ k = 4 ∨ k = 9 ∨ k = 11 ∨ k = 12 ∨ k = 13 then some 1 else if k = 5 ∨ k = 6 ∨ k = 7 ∨ k = 8 then some 2 else none
def cmpOps : List ByteArray := [⟨#[61]⟩, ⟨#[60, 62]⟩, ⟨#[60]⟩, ⟨#[60, 61]⟩, ⟨#[62]⟩, ⟨#[62, 61]⟩]
def ariOps : List ByteArray := [⟨#[43]⟩, ⟨#[45]⟩, ⟨#[42]⟩]
def opOk (k : Int) (o : ByteArray) : Bool := if k = 7 then cmpOps.any (sameN · o) else if k = 8 then ariOps.any (sameN · o) else true
def typeR (k : Int) : List Int → Except Int Int
  | [] => if k = 10 then .ok 1 else .error 70
  | [t] => if k = 3 then (if likeT t [1, 2] then .ok t else .error 70) else if k = 4 then (if likeT t [4] then .ok 4 else .error 70) else if k = 9 then .ok 4 else if k = 11 then (if likeT t [1] then .ok 1 else .error 70) else (if likeT t [1, 2, 3] then .ok t else .error 70)
  | [a, b] => if k = 7 then (if a = 0 ∨ b = 0 ∨ a = b then .ok 4 else .error 70) else if k = 8 then (if (a = 0 ∨ b = 0 ∨ a = b) ∧ likeT (max a b) [1, 2] then .ok (max a b) else .error 70) else (if likeT a [4] && likeT b [4] then .ok 4 else .error 70)
  | _ => .error 70
def bindR : Nat → List Row → Bool → Ex → Except Int Nd
  | 0, _, _, _ => .error 0
  | n + 1, rows, fo, x =>
    if foldK x.kind = true ∧ fo = false then .error 132 else match arity x.kind with
    | none => .error 7
    | some m => if opOk x.kind x.op = false then .error 7 else if x.kind = 2 then colR rows x else if x.kind = 1 then .ok (.mk 1 ⟨#[]⟩ x.lit 0 false (clK x.lit.k) []) else if x.args.length ≠ m then .error 7
      else match bindArgs (bindR n rows (fo && !foldK x.kind)) x.args with
        | .error e => .error e
        | .ok ps => match typeR x.kind (ps.map Nd.ty) with
          | .error e => .error e
          | .ok t => .ok (.mk x.kind (if x.kind = 7 ∨ x.kind = 8 then x.op else ⟨#[]⟩) zeroV 0 (if x.kind = 9 then x.neg else false) t ps)
structure Sc where
  sa : Option Addr
  sc : Nat
  ta : Option Addr
  tc : Nat
  ba : Option Addr
  bc : Nat
  rows : List Row
def scV (s : Sc) (ins fol : Bool) : Value := .agg #[.slice s.sa s.rows.length s.sc, .slice s.ta s.rows.length s.tc, .slice s.ba s.rows.length s.bc, .bool ins, .bool fol]
def StrsAt (w : World) (A : Option Addr) (l : List ByteArray) : Prop := CellsAt w 1 A (l.map fun s => [.string s])
def ScAt (W : World) (s : Sc) : Prop := StrsAt W s.sa (s.rows.map Row.nm) ∧ DeepAt W s.ta (s.rows.map fun r => (r.tab, r.cols)) ∧ IntsAt W s.ba (s.rows.map Row.beg) ∧ ∀ r ∈ s.rows, 0 ≤ r.beg ∧ r.beg ≤ 100000 ∧ r.cols.length ≤ 100000
theorem ScAt.keep {W W' : World} (hB : Below W.heap.size W W') {s : Sc} (h : ScAt W s) : ScAt W' s := ⟨CellsAt.keep hB h.1, h.2.1.keep hB, h.2.2.1.keep hB, h.2.2.2⟩
def ExprO (n : Nat) (w : World) (r : Except Int Nd) (e : Ending) (w' : World) : Prop := Below w.heap.size w w' ∧ match r with
  | .ok p => ∃ (A : Option Addr) (c q : Nat), e = .returned (ndV p (clP p.lit) A q c) ∧ NdAt clP (w.heap.size ≤ ·) w' n (ndL p (clP p.lit) A q c) p
  | .error er => e = .panicked [{ v := .iface 49 (.int .i64 er), recovered := false }]
def ArgsO (n : Nat) (w : World) (r : Except Int (List Nd)) (e : Ending) (w' : World) : Prop := Below w.heap.size w w' ∧ match r with
  | .ok ps => ∃ (A : Option Addr) (c : Nat) (vs : List (List Value)), e = .returned (.slice A vs.length c) ∧ CellsAt w' 10 A vs ∧ (∀ a, A = some a → w.heap.size ≤ a.block) ∧ NdsAt clP (w.heap.size ≤ ·) w' n vs ps
  | .error er => e = .panicked [{ v := .iface 49 (.int .i64 er), recovered := false }]
end Go.Proofs.YthdmfaepjemopaaGreatDoor
namespace Go.Proofs.YthdmfaepjemopaaGreatDoor
open Go.RowKit

def tks : List (Int × ByteArray × Int) := [(2, ⟨#[83, 69, 76, 69, 67, 84]⟩, 0), (1, ⟨#[98]⟩, 7), (2, ⟨#[70, 82, 79, 77]⟩, 9), (1, ⟨#[116]⟩, 14), (6, ⟨#[44]⟩, 15), (1, ⟨#[117]⟩, 17), (2, ⟨#[87, 72, 69, 82, 69]⟩, 19), (1, ⟨#[116]⟩, 25), (6, ⟨#[46]⟩, 26), (1, ⟨#[97]⟩, 27), (6, ⟨#[61]⟩, 29), (1, ⟨#[117]⟩, 31), (6, ⟨#[46]⟩, 32), (1, ⟨#[97]⟩, 33), (0, ⟨#[]⟩, 34)]
def tkL (t : Int × ByteArray × Int) : List Value := [.int .i64 t.1, .string t.2.1, .int .i64 t.2.2]
def TksAt (w : World) (b o : Nat) : Prop := CellsAt w 3 (some ⟨b, o, none⟩) (tks.map tkL)
theorem TksAt.keep {w w' : World} {b o : Nat} (h : TksAt w b o) (hB : Below w.heap.size w w') : TksAt w' b o := CellsAt.keep hB h
theorem tok_at {w : World} {b o i : Nat} {t : Int × ByteArray × Int} (h : TksAt w b o) (hk : tks[i]? = some t) : b < w.heap.size ∧ i < 15 ∧ w.cell? ⟨b, o + i * 3, none⟩ = some (.int .i64 t.1) ∧ w.cell? ⟨b, o + i * 3 + 1, none⟩ = some (.string t.2.1) ∧ w.cell? ⟨b, o + i * 3 + 2, none⟩ = some (.int .i64 t.2.2) := by
  have hk2 : (tks.map tkL)[i]? = some (tkL t) := by rw [List.getElem?_map, hk]; rfl
  rcases h.2 with h0 | ⟨b', off, h1, h2, h3⟩
  · cases h0
  · cases h1
    exact ⟨h2, (List.getElem?_eq_some_iff.1 hk).1, (h3 i _ hk2).2 0 _ rfl, (h3 i _ hk2).2 1 _ rfl, (h3 i _ hk2).2 2 _ rfl⟩
@[reducible] def pV (b o c : Nat) (z : Int) : Value := .agg #[.slice (some ⟨b, o, none⟩) 15 c, .int .i64 z, .int .i64 0, .int .i64 0]
def nx (i : Nat) (q : ByteArray) : Bool := match tks[i]? with
  | some t => sameN t.2.1 q && (t.1 == 2 || t.1 == 6)
  | none => false
theorem nx_of {i : Nat} {q : ByteArray} {k : Int} {s : ByteArray} {p : Int} (h : tks[i]? = some (k, s, p)) : nx i q = (sameN s q && (k == 2 || k == 6)) := by unfold nx; rw [h]
set_option maxHeartbeats 1000000 in
theorem next_any (b o c i : Nat) (z : Int) (hz : z = i) (q : ByteArray) (w : World) (hT : TksAt w b o) (hi : i < 15) : Calls Tryz.prog 53 #[pV b o c z, .string q] w (RetV (.bool (nx i q)) w) := by
  obtain ⟨⟨k, s, p⟩, ht⟩ : ∃ t, tks[i]? = some t := ⟨_, List.getElem?_eq_getElem hi⟩
  obtain ⟨hb, -, q0, q1, q2⟩ := tok_at hT ht
  rw [nx_of ht]
  have hb1 : b ≠ w.heap.size := by omega
  clear hT ht
  subst hz
  unfold sameN
  cases hq : s.toList == q.toList with
  | false =>
    go_enter Tryz.func53, Tryz.ntmps53
    go_wp2_with fail
    exact bodyPost_ret (v := .bool false) (by simp [results, Tryz.results53, go_sem]) rfl ⟨rfl, (below1 w _).alloc (by simp) _⟩
  | true =>
    cases hk : k == 2 with
    | true =>
      go_enter Tryz.func53, Tryz.ntmps53
      go_wp2_with fail
      exact bodyPost_ret (v := .bool true) (by simp [results, Tryz.results53, go_sem]) rfl ⟨rfl, (below1 w _).alloc (by simp) _⟩
    | false =>
      cases hk6 : k == 6 with
      | true =>
        go_enter Tryz.func53, Tryz.ntmps53
        go_wp2_with fail
        exact bodyPost_ret (v := .bool true) (by simp [results, Tryz.results53, go_sem]) rfl ⟨rfl, (below1 w _).alloc (by simp) _⟩
      | false =>
        go_enter Tryz.func53, Tryz.ntmps53
        go_wp2_with fail
        exact bodyPost_ret (v := .bool false) (by simp [results, Tryz.results53, go_sem]) rfl ⟨rfl, (below1 w _).alloc (by simp) _⟩
theorem boxes2 {w w2 : World} {O1 O2 : Obj} (hB : Below ((w.alloc O1).alloc O2).heap.size ((w.alloc O1).alloc O2) w2) : w2.heap[w.heap.size]? = some O1 ∧ w2.heap[w.heap.size + 1]? = some O2 ∧ Below w.heap.size w w2 ∧ w.heap.size < w2.heap.size ∧ w.heap.size + 1 < w2.heap.size := by
  have h0 : Below w.heap.size w ((w.alloc O1).alloc O2) := (below1 w O1).alloc (by simp) O2
  have h2 := heap_alloc_new (w.alloc O1) O2
  rw [World.size_alloc] at h2
  have h1 := (heap_alloc_old (w.alloc O1) O2 (r := w.heap.size) (by simp)).trans (heap_alloc_new w O1)
  have := hB.size
  simp only [World.size_alloc] at this
  exact ⟨(hB.block _ (by simp; omega)).trans h1, (hB.block _ (by simp)).trans h2, h0.trans (hB.mono h0.size), by omega, by omega⟩
theorem row4 {W : World} {b : Nat} {v0 v1 v2 v3 : Value} {ty : TypeId} {fr : Nat × Nat} (h : W.heap[b]? = some (.cells #[v0, v1, v2, v3] ty fr)) : W.cell? ⟨b, 0, none⟩ = some v0 ∧ W.cell? ⟨b, 1, none⟩ = some v1 ∧ W.cell? ⟨b, 2, none⟩ = some v2 ∧ W.cell? ⟨b, 3, none⟩ = some v3 :=
  ⟨cell_of_row _ _ 0 _ _ _ h, cell_of_row _ _ 1 _ _ _ h, cell_of_row _ _ 2 _ _ _ h, cell_of_row _ _ 3 _ _ _ h⟩
theorem free4 {W : World} {b : Nat} {cs : Array Value} {ty : TypeId} (h : W.heap[b]? = some (.cells cs ty)) : W.frozen? ⟨b, 0, none⟩ = false ∧ W.frozen? ⟨b, 1, none⟩ = false ∧ W.frozen? ⟨b, 2, none⟩ = false ∧ W.frozen? ⟨b, 3, none⟩ = false :=
  ⟨frozen_of_row _ _ 0 _ _ h, frozen_of_row _ _ 1 _ _ h, frozen_of_row _ _ 2 _ _ h, frozen_of_row _ _ 3 _ _ h⟩
@[reducible] def pZ : Array Value := #[.slice none 0 0, .int .i64 0, .int .i64 0, .int .i64 0]
@[reducible] def pC (b o c : Nat) (z : Int) : Array Value := #[.slice (some ⟨b, o, none⟩) 15 c, .int .i64 z, .int .i64 0, .int .i64 0]
set_option maxHeartbeats 2000000 in
theorem may_no (b o c i : Nat) (z : Int) (hz : z = i) (q : ByteArray) (w : World) (hT : TksAt w b o) (hi : i < 15) (hq : nx i q = false) : Calls Tryz.prog 31 #[pV b o c z, .string q] w (RetV (.tuple #[pV b o c z, .bool false]) w) := by
  have HN := Lib.hid (show ∀ W, Below w.heap.size w W → Calls Tryz.prog 53 #[pV b o c z, .string q] W (RetV (.bool false) W) from fun W hB => by have := next_any b o c i z hz q W (hT.keep hB) hi; rwa [hq] at this)
  clear hT hq
  have hz0 : 0 ≤ z := by omega
  have hz15 : z < 15 := by omega
  clear hz hi
  go_enter Tryz.func31, Tryz.ntmps31
  go_wp2_with (first
    | (go_at_call 53; (with_reducible refine (HN.out _ ((below1 w _).alloc (by simp) _)).mono ?_); rintro e w2 ⟨rfl, hB2⟩
       obtain ⟨k1, k2, hB, hl0, hl1⟩ := boxes2 hB2
       obtain ⟨p0, p1, p2, p3⟩ := row4 (show w2.heap[w.heap.size]? = some (.cells (pC b o c z) 99) from k1)
       obtain ⟨r0, r1, r2, r3⟩ := row4 (show w2.heap[w.heap.size + 1]? = some (.cells pZ 99) from k2)
       obtain ⟨f0, f1, f2, f3⟩ := free4 (show w2.heap[w.heap.size + 1]? = some (.cells pZ 99) from k2)
       clear hB2 k1 k2)
    | fail)
  exact bodyPost_ret (v := .tuple #[pV b o c z, .bool false]) (by simp [results, Tryz.results31, go_sem, r0, r1, r2, r3]) rfl ⟨rfl, by repeat (first | exact hB | refine Below.setCell ?_ (by simp) _)⟩
set_option maxHeartbeats 2000000 in
theorem may_yes (b o c i : Nat) (z : Int) (hz : z = i) (q : ByteArray) (w : World) (hT : TksAt w b o) (hi : i < 15) (hq : nx i q = true) : Calls Tryz.prog 31 #[pV b o c z, .string q] w (RetV (.tuple #[pV b o c (z + 1), .bool true]) w) := by
  have HN := Lib.hid (show ∀ W, Below w.heap.size w W → Calls Tryz.prog 53 #[pV b o c z, .string q] W (RetV (.bool true) W) from fun W hB => by have := next_any b o c i z hz q W (hT.keep hB) hi; rwa [hq] at this)
  clear hT hq
  have hz0 : 0 ≤ z := by omega
  have hz15 : z < 15 := by omega
  clear hz hi
  go_enter Tryz.func31, Tryz.ntmps31
  go_wp2_with (first
    | (go_at_call 53; (with_reducible refine (HN.out _ ((below1 w _).alloc (by simp) _)).mono ?_); rintro e w2 ⟨rfl, hB2⟩
       obtain ⟨k1, k2, hB, hl0, hl1⟩ := boxes2 hB2
       obtain ⟨p0, p1, p2, p3⟩ := row4 (show w2.heap[w.heap.size]? = some (.cells (pC b o c z) 99) from k1)
       have g1 := frozen_of_row _ _ 1 _ _ (show w2.heap[w.heap.size]? = some (.cells (pC b o c z) 99) from k1)
       obtain ⟨r0, r1, r2, r3⟩ := row4 (show w2.heap[w.heap.size + 1]? = some (.cells pZ 99) from k2)
       obtain ⟨f0, f1, f2, f3⟩ := free4 (show w2.heap[w.heap.size + 1]? = some (.cells pZ 99) from k2)
       clear hB2 k1 k2)
    | fail)
  exact bodyPost_ret (v := .tuple #[pV b o c (z + 1), .bool true]) (by simp [results, Tryz.results31, go_sem, r0, r1, r2, r3]) rfl ⟨rfl, by repeat (first | exact hB | refine Below.setCell ?_ (by simp) _)⟩
set_option maxHeartbeats 2000000 in
theorem must_yes (b o c i : Nat) (z : Int) (hz : z = i) (q : ByteArray) (w : World) (hT : TksAt w b o) (hi : i < 15) (hq : nx i q = true) : Calls Tryz.prog 55 #[pV b o c z, .string q] w (RetV (pV b o c (z + 1)) w) := by
  have HN := Lib.hid (show ∀ W, Below w.heap.size w W → Calls Tryz.prog 31 #[pV b o c z, .string q] W (RetV (.tuple #[pV b o c (z + 1), .bool true]) W) from fun W hB => may_yes b o c i z hz q W (hT.keep hB) hi hq)
  clear hT hq
  have hz0 : 0 ≤ z := by omega
  have hz15 : z < 15 := by omega
  clear hz hi
  go_enter Tryz.func55, Tryz.ntmps55
  go_wp2_with (first
    | (go_at_call 31; (with_reducible refine (HN.out _ ((below1 w _).alloc (by simp) _)).mono ?_); rintro e w2 ⟨rfl, hB2⟩
       obtain ⟨k1, k2, hB, hl0, hl1⟩ := boxes2 hB2
       obtain ⟨r0, r1, r2, r3⟩ := row4 (show w2.heap[w.heap.size + 1]? = some (.cells pZ 99) from k2)
       obtain ⟨f0, f1, f2, f3⟩ := free4 (show w2.heap[w.heap.size + 1]? = some (.cells pZ 99) from k2)
       clear hB2 k1 k2)
    | fail)
  exact bodyPost_ret (v := pV b o c (z + 1)) (by simp [results, Tryz.results55, go_sem, r0, r1, r2, r3, hl1]) rfl ⟨rfl, by repeat (first | exact hB | refine Below.setCell ?_ (by simp) _ | refine Below.alloc ?_ (by simp; omega) _)⟩
set_option maxHeartbeats 4000000 in
theorem name_yes (b o c i : Nat) (z : Int) (hz : z = i) (s : ByteArray) (p : Int) (w : World) (hT : TksAt w b o) (ht : tks[i]? = some (1, s, p)) : Calls Tryz.prog 58 #[pV b o c z] w (RetV (.tuple #[pV b o c (z + 1), .string s]) w) := by
  obtain ⟨hb, hi, q0, q1, q2⟩ := tok_at hT ht
  have hb1 : b ≠ w.heap.size := by omega
  have hb2 : b ≠ w.heap.size + 1 := by omega
  clear hT ht
  subst hz
  go_enter Tryz.func58, Tryz.ntmps58
  go_wp2_with fail
  have hlt : (i : Int) < 15 := by omega
  go_region
  all_goals go_wp2_with fail
  all_goals exact bodyPost_ret (v := .tuple #[pV b o c ((i : Int) + 1), .string s]) (by simp [results, Tryz.results58, go_sem]) rfl ⟨rfl, by go_grown⟩
end Go.Proofs.YthdmfaepjemopaaGreatDoor
namespace Go.Proofs.YthdmfaepjemopaaGreatDoor
open Go.RowKit

def BX (w : World) (bs : List Obj) (W : World) : Prop := Below w.heap.size w W ∧ ∀ (k : Nat) (o : Obj), bs[k]? = some o → W.heap[w.heap.size + k]? = some o
theorem BX.below {w W : World} {bs : List Obj} (h : BX w bs W) : Below w.heap.size w W := h.1
theorem BX.nil (w : World) : BX w [] w := ⟨Below.refl _ _, fun k o h => by cases h⟩
theorem BX.keep {w W W' : World} {bs : List Obj} (h : BX w bs W) (hB : Below W.heap.size W W') : BX w bs W' :=
  ⟨h.1.trans (hB.mono h.1.size), fun k o hk => (hB.block _ (heap_lt (h.2 k o hk))).trans (h.2 k o hk)⟩
theorem BX.alloc {w W : World} {bs : List Obj} (h : BX w bs W) (O : Obj) : BX w bs (W.alloc O) := h.keep (below1 W O)
theorem BX.drew {w W : World} {bs : List Obj} (h : BX w bs W) : BX w bs W.drew := h.keep (Below.refl _ _).drew
theorem BX.more {w W : World} {bs : List Obj} (h : BX w bs W) (hz : W.heap.size = w.heap.size + bs.length) (O : Obj) : BX w (bs ++ [O]) (W.alloc O) ∧ (W.alloc O).heap.size = w.heap.size + (bs ++ [O]).length := by
  refine ⟨⟨h.1.alloc h.1.size O, fun k o hk => ?_⟩, by rw [World.size_alloc, hz, List.length_append]; rfl⟩
  by_cases hb : k < bs.length
  · rw [List.getElem?_append_left hb] at hk
    exact (h.alloc O).2 k o hk
  · rw [List.getElem?_append_right (by omega)] at hk
    have hk0 : k - bs.length = 0 := by
      by_cases h0 : k - bs.length = 0
      · exact h0
      · rw [List.getElem?_eq_none (by simp; omega)] at hk; cases hk
    rw [hk0] at hk
    cases hk
    have := heap_alloc_new W O
    rwa [hz, show bs.length = k by omega] at this
theorem BX.one (w : World) (O1 : Obj) : BX w [O1] (w.alloc O1) := (BX.more (BX.nil w) rfl O1).1
theorem BX.two (w : World) (O1 O2 : Obj) : BX w [O1, O2] ((w.alloc O1).alloc O2) := by
  have h1 := BX.more (BX.nil w) rfl O1
  exact (BX.more h1.1 h1.2 O2).1
theorem BX.three (w : World) (O1 O2 O3 : Obj) : BX w [O1, O2, O3] (((w.alloc O1).alloc O2).alloc O3) := by
  have h1 := BX.more (BX.nil w) rfl O1
  have h2 := BX.more h1.1 h1.2 O2
  exact (BX.more h2.1 h2.2 O3).1
theorem BX.four (w : World) (O1 O2 O3 O4 : Obj) : BX w [O1, O2, O3, O4] ((((w.alloc O1).alloc O2).alloc O3).alloc O4) := by
  have h1 := BX.more (BX.nil w) rfl O1
  have h2 := BX.more h1.1 h1.2 O2
  have h3 := BX.more h2.1 h2.2 O3
  exact (BX.more h3.1 h3.2 O4).1
theorem BX.set {w W : World} {bs : List Obj} {k : Nat} {cs : Array Value} {ty : TypeId} {fr : Nat × Nat} (h : BX w bs W) (hk : bs[k]? = some (.cells cs ty fr)) (i : Nat) (v : Value) : BX w (bs.set k (.cells (cs.setIfInBounds i v) ty fr)) (W.setCell ⟨w.heap.size + k, i, none⟩ v) := by
  refine ⟨h.1.setCell (p := ⟨w.heap.size + k, i, none⟩) (Nat.le_add_right _ k) _, fun j o hj => ?_⟩
  by_cases he : j = k
  · subst he
    rw [List.getElem?_set_self (List.getElem?_eq_some_iff.1 hk).1] at hj
    cases hj
    rw [setCell_eq_setRow W _ i _ ty _ _ (h.2 j _ hk)]
    exact setRow_heap W _ _ _ ty _ (h.2 j _ hk)
  · rw [List.getElem?_set_ne (Ne.symm he)] at hj
    exact (heap_setFar _ (by omega)).trans (h.2 j o hj)
theorem BX.set4 {w W : World} {bs : List Obj} {k : Nat} {u0 u1 u2 u3 : Value} {ty : TypeId} {fr : Nat × Nat} (h : BX w bs W) (hk : bs[k]? = some (.cells #[u0, u1, u2, u3] ty fr)) {v0 v1 v2 v3 : Value} : BX w (bs.set k (.cells #[v0, v1, v2, v3] ty fr)) ((((W.setCell ⟨w.heap.size + k, 0, none⟩ v0).setCell ⟨w.heap.size + k, 1, none⟩ v1).setCell ⟨w.heap.size + k, 2, none⟩ v2).setCell ⟨w.heap.size + k, 3, none⟩ v3) := by
  have hl := (List.getElem?_eq_some_iff.1 hk).1
  have h1 := h.set hk 0 v0
  have h2 := h1.set (List.getElem?_set_self hl) 1 v1
  rw [List.set_set] at h2
  have h3 := h2.set (List.getElem?_set_self hl) 2 v2
  rw [List.set_set] at h3
  have h4 := h3.set (List.getElem?_set_self hl) 3 v3
  rw [List.set_set] at h4
  exact h4
set_option maxHeartbeats 400000 in
theorem BX.set10 {w W : World} {bs : List Obj} {k : Nat} {u0 u1 u2 u3 u4 u5 u6 u7 u8 u9 : Value} {ty : TypeId} {fr : Nat × Nat} (h : BX w bs W) (hk : bs[k]? = some (.cells #[u0, u1, u2, u3, u4, u5, u6, u7, u8, u9] ty fr)) {v0 v1 v2 v3 v4 v5 v6 v7 v8 v9 : Value} : BX w (bs.set k (.cells #[v0, v1, v2, v3, v4, v5, v6, v7, v8, v9] ty fr)) ((((((((((W.setCell ⟨w.heap.size + k, 0, none⟩ v0).setCell ⟨w.heap.size + k, 1, none⟩ v1).setCell ⟨w.heap.size + k, 2, none⟩ v2).setCell ⟨w.heap.size + k, 3, none⟩ v3).setCell ⟨w.heap.size + k, 4, none⟩ v4).setCell ⟨w.heap.size + k, 5, none⟩ v5).setCell ⟨w.heap.size + k, 6, none⟩ v6).setCell ⟨w.heap.size + k, 7, none⟩ v7).setCell ⟨w.heap.size + k, 8, none⟩ v8).setCell ⟨w.heap.size + k, 9, none⟩ v9) := by
  have hl := (List.getElem?_eq_some_iff.1 hk).1
  have h1 := h.set hk 0 v0
  change BX w (bs.set k (.cells #[v0, u1, u2, u3, u4, u5, u6, u7, u8, u9] ty fr)) _ at h1
  have h2 := h1.set (List.getElem?_set_self hl) 1 v1
  rw [List.set_set] at h2
  change BX w (bs.set k (.cells #[v0, v1, u2, u3, u4, u5, u6, u7, u8, u9] ty fr)) _ at h2
  have h3 := h2.set (List.getElem?_set_self hl) 2 v2
  rw [List.set_set] at h3
  change BX w (bs.set k (.cells #[v0, v1, v2, u3, u4, u5, u6, u7, u8, u9] ty fr)) _ at h3
  have h4 := h3.set (List.getElem?_set_self hl) 3 v3
  rw [List.set_set] at h4
  change BX w (bs.set k (.cells #[v0, v1, v2, v3, u4, u5, u6, u7, u8, u9] ty fr)) _ at h4
  have h5 := h4.set (List.getElem?_set_self hl) 4 v4
  rw [List.set_set] at h5
  change BX w (bs.set k (.cells #[v0, v1, v2, v3, v4, u5, u6, u7, u8, u9] ty fr)) _ at h5
  have h6 := h5.set (List.getElem?_set_self hl) 5 v5
  rw [List.set_set] at h6
  change BX w (bs.set k (.cells #[v0, v1, v2, v3, v4, v5, u6, u7, u8, u9] ty fr)) _ at h6
  have h7 := h6.set (List.getElem?_set_self hl) 6 v6
  rw [List.set_set] at h7
  change BX w (bs.set k (.cells #[v0, v1, v2, v3, v4, v5, v6, u7, u8, u9] ty fr)) _ at h7
  have h8 := h7.set (List.getElem?_set_self hl) 7 v7
  rw [List.set_set] at h8
  change BX w (bs.set k (.cells #[v0, v1, v2, v3, v4, v5, v6, v7, u8, u9] ty fr)) _ at h8
  have h9 := h8.set (List.getElem?_set_self hl) 8 v8
  rw [List.set_set] at h9
  change BX w (bs.set k (.cells #[v0, v1, v2, v3, v4, v5, v6, v7, v8, u9] ty fr)) _ at h9
  have h10 := h9.set (List.getElem?_set_self hl) 9 v9
  rw [List.set_set] at h10
  change BX w (bs.set k (.cells #[v0, v1, v2, v3, v4, v5, v6, v7, v8, v9] ty fr)) _ at h10
  exact h10
theorem BX.e6 {w W : World} {bs : List Obj} {k : Nat} {u0 u1 u2 u3 u4 u5 u6 u7 u8 u9 : Value} {ty : TypeId} {fr : Nat × Nat} (h : BX w bs W) (hk : bs[k]? = some (.cells #[u0, u1, u2, u3, u4, u5, u6, u7, u8, u9] ty fr)) {v : Value} : BX w (bs.set k (.cells #[u0, u1, u2, u3, u4, u5, v, u7, u8, u9] ty fr)) (W.setCell ⟨w.heap.size + k, 6, none⟩ v) := h.set hk 6 v
theorem BX.e7 {w W : World} {bs : List Obj} {k : Nat} {u0 u1 u2 u3 u4 u5 u6 u7 u8 u9 : Value} {ty : TypeId} {fr : Nat × Nat} (h : BX w bs W) (hk : bs[k]? = some (.cells #[u0, u1, u2, u3, u4, u5, u6, u7, u8, u9] ty fr)) {v : Value} : BX w (bs.set k (.cells #[u0, u1, u2, u3, u4, u5, u6, v, u8, u9] ty fr)) (W.setCell ⟨w.heap.size + k, 7, none⟩ v) := h.set hk 7 v
theorem BX.row {w W : World} {bs : List Obj} (h : BX w bs W) (k : Nat) (cs : Array Value) (ty : TypeId) (hk : bs[k]? = some (.cells cs ty)) : W.heap[w.heap.size + k]? = some (.cells cs ty) := h.2 k _ hk
theorem BX.row0 {w W : World} {bs : List Obj} (h : BX w bs W) (cs : Array Value) (ty : TypeId) (hk : bs[0]? = some (.cells cs ty)) : W.heap[w.heap.size]? = some (.cells cs ty) := h.2 0 _ hk
theorem row10 {W : World} {b : Nat} {v0 v1 v2 v3 v4 v5 v6 v7 v8 v9 : Value} {ty : TypeId} {fr : Nat × Nat} (h : W.heap[b]? = some (.cells #[v0, v1, v2, v3, v4, v5, v6, v7, v8, v9] ty fr)) : W.cell? ⟨b, 0, none⟩ = some v0 ∧ W.cell? ⟨b, 1, none⟩ = some v1 ∧ W.cell? ⟨b, 2, none⟩ = some v2 ∧ W.cell? ⟨b, 3, none⟩ = some v3 ∧ W.cell? ⟨b, 4, none⟩ = some v4 ∧ W.cell? ⟨b, 5, none⟩ = some v5 ∧ W.cell? ⟨b, 6, none⟩ = some v6 ∧ W.cell? ⟨b, 7, none⟩ = some v7 ∧ W.cell? ⟨b, 8, none⟩ = some v8 ∧ W.cell? ⟨b, 9, none⟩ = some v9 :=
  ⟨cell_of_row _ _ 0 _ _ _ h, cell_of_row _ _ 1 _ _ _ h, cell_of_row _ _ 2 _ _ _ h, cell_of_row _ _ 3 _ _ _ h, cell_of_row _ _ 4 _ _ _ h, cell_of_row _ _ 5 _ _ _ h, cell_of_row _ _ 6 _ _ _ h, cell_of_row _ _ 7 _ _ _ h, cell_of_row _ _ 8 _ _ _ h, cell_of_row _ _ 9 _ _ _ h⟩
theorem free10 {W : World} {b : Nat} {cs : Array Value} {ty : TypeId} (h : W.heap[b]? = some (.cells cs ty)) : W.frozen? ⟨b, 0, none⟩ = false ∧ W.frozen? ⟨b, 1, none⟩ = false ∧ W.frozen? ⟨b, 2, none⟩ = false ∧ W.frozen? ⟨b, 3, none⟩ = false ∧ W.frozen? ⟨b, 4, none⟩ = false ∧ W.frozen? ⟨b, 5, none⟩ = false ∧ W.frozen? ⟨b, 6, none⟩ = false ∧ W.frozen? ⟨b, 7, none⟩ = false ∧ W.frozen? ⟨b, 8, none⟩ = false ∧ W.frozen? ⟨b, 9, none⟩ = false :=
  ⟨frozen_of_row _ _ 0 _ _ h, frozen_of_row _ _ 1 _ _ h, frozen_of_row _ _ 2 _ _ h, frozen_of_row _ _ 3 _ _ h, frozen_of_row _ _ 4 _ _ h, frozen_of_row _ _ 5 _ _ h, frozen_of_row _ _ 6 _ _ h, frozen_of_row _ _ 7 _ _ h, frozen_of_row _ _ 8 _ _ h, frozen_of_row _ _ 9 _ _ h⟩
def colX (t n : ByteArray) : Ex := .mk 2 ⟨#[]⟩ zeroV t n false none 0 []
@[reducible] def exZ : Array Value := #[.int .i64 0, .string ⟨#[]⟩, .int .i64 0, .int .i64 0, .float .f64 0, .string ⟨#[]⟩, .string ⟨#[]⟩, .string ⟨#[]⟩, .bool false, .slice none 0 0]
theorem BX.p4 {w W : World} {bs : List Obj} (h : BX w bs W) (k : Nat) {v0 v1 v2 v3 : Value} {ty : TypeId} (hk : bs[k]? = some (.cells #[v0, v1, v2, v3] ty)) : w.heap.size + k < W.heap.size ∧ W.cell? ⟨w.heap.size + k, 0, none⟩ = some v0 ∧ W.cell? ⟨w.heap.size + k, 1, none⟩ = some v1 ∧ W.cell? ⟨w.heap.size + k, 2, none⟩ = some v2 ∧ W.cell? ⟨w.heap.size + k, 3, none⟩ = some v3 ∧ W.frozen? ⟨w.heap.size + k, 0, none⟩ = false ∧ W.frozen? ⟨w.heap.size + k, 1, none⟩ = false ∧ W.frozen? ⟨w.heap.size + k, 2, none⟩ = false ∧ W.frozen? ⟨w.heap.size + k, 3, none⟩ = false := by
  have h1 := h.2 k _ hk
  obtain ⟨a0, a1, a2, a3⟩ := row4 h1
  obtain ⟨b0, b1, b2, b3⟩ := free4 h1
  exact ⟨heap_lt h1, a0, a1, a2, a3, b0, b1, b2, b3⟩
theorem BX.e10 {w W : World} {bs : List Obj} (h : BX w bs W) (k : Nat) {v0 v1 v2 v3 v4 v5 v6 v7 v8 v9 : Value} {ty : TypeId} (hk : bs[k]? = some (.cells #[v0, v1, v2, v3, v4, v5, v6, v7, v8, v9] ty)) : w.heap.size + k < W.heap.size ∧ W.cell? ⟨w.heap.size + k, 0, none⟩ = some v0 ∧ W.cell? ⟨w.heap.size + k, 1, none⟩ = some v1 ∧ W.cell? ⟨w.heap.size + k, 2, none⟩ = some v2 ∧ W.cell? ⟨w.heap.size + k, 3, none⟩ = some v3 ∧ W.cell? ⟨w.heap.size + k, 4, none⟩ = some v4 ∧ W.cell? ⟨w.heap.size + k, 5, none⟩ = some v5 ∧ W.cell? ⟨w.heap.size + k, 6, none⟩ = some v6 ∧ W.cell? ⟨w.heap.size + k, 7, none⟩ = some v7 ∧ W.cell? ⟨w.heap.size + k, 8, none⟩ = some v8 ∧ W.cell? ⟨w.heap.size + k, 9, none⟩ = some v9 ∧ W.frozen? ⟨w.heap.size + k, 0, none⟩ = false ∧ W.frozen? ⟨w.heap.size + k, 1, none⟩ = false ∧ W.frozen? ⟨w.heap.size + k, 2, none⟩ = false ∧ W.frozen? ⟨w.heap.size + k, 3, none⟩ = false ∧ W.frozen? ⟨w.heap.size + k, 4, none⟩ = false ∧ W.frozen? ⟨w.heap.size + k, 5, none⟩ = false ∧ W.frozen? ⟨w.heap.size + k, 6, none⟩ = false ∧ W.frozen? ⟨w.heap.size + k, 7, none⟩ = false ∧ W.frozen? ⟨w.heap.size + k, 8, none⟩ = false ∧ W.frozen? ⟨w.heap.size + k, 9, none⟩ = false := by
  have h1 := h.2 k _ hk
  obtain ⟨a0, a1, a2, a3, a4, a5, a6, a7, a8, a9⟩ := row10 h1
  obtain ⟨b0, b1, b2, b3, b4, b5, b6, b7, b8, b9⟩ := free10 h1
  exact ⟨heap_lt h1, a0, a1, a2, a3, a4, a5, a6, a7, a8, a9, b0, b1, b2, b3, b4, b5, b6, b7, b8, b9⟩
theorem plus2 (n : Nat) : n + 2 = n + 1 + 1 := rfl
theorem plus3 (n : Nat) : n + 3 = n + 1 + 1 + 1 := rfl
set_option maxHeartbeats 1000000 in
theorem res_pe {fn : Func} {i j : Nat} (h : fn.results = #[.cell i 99, .cell j 41]) {tm : Array Value} {W : World} {pb eb : Nat} (hp : tm[i]?.getD undef = .pointer (some ⟨pb, 0, none⟩)) (he : tm[j]?.getD undef = .pointer (some ⟨eb, 0, none⟩)) {v0 v1 v2 v3 u0 u1 u2 u3 u4 u5 u6 u7 u8 u9 : Value} {ty ty2 : TypeId} (h1 : W.heap[pb]? = some (.cells #[v0, v1, v2, v3] ty)) (h2 : W.heap[eb]? = some (.cells #[u0, u1, u2, u3, u4, u5, u6, u7, u8, u9] ty2)) :
    (results fn tm).run Tryz.prog W = .ok (.tuple #[.agg #[v0, v1, v2, v3], .agg #[u0, u1, u2, u3, u4, u5, u6, u7, u8, u9]]) W := by
  obtain ⟨a0, a1, a2, a3⟩ := row4 h1
  obtain ⟨b0, b1, b2, b3, b4, b5, b6, b7, b8, b9⟩ := row10 h2
  simp [results, h, go_sem, hp, he, a0, a1, a2, a3, b0, b1, b2, b3, b4, b5, b6, b7, b8, b9]
set_option maxHeartbeats 8000000 in
theorem col_name (b o c i : Nat) (z : Int) (hz : z = i) (s : ByteArray) (p : Int) (w : World) (hT : TksAt w b o) (ht : tks[i]? = some (1, s, p)) (hi : i < 14) (hd : nx (i + 1) ⟨#[46]⟩ = false) : Calls Tryz.prog 81 #[pV b o c z] w (RetV (.tuple #[pV b o c (z + 1), exV (colX ⟨#[]⟩ s)]) w) := by
  have HN := Lib.hid (show ∀ W, Below w.heap.size w W → Calls Tryz.prog 58 #[pV b o c z] W (RetV (.tuple #[pV b o c (z + 1), .string s]) W) from fun W hB => name_yes b o c i z hz s p W (hT.keep hB) ht)
  have HM := Lib.hid (show ∀ W, Below w.heap.size w W → Calls Tryz.prog 31 #[pV b o c (z + 1), .string ⟨#[46]⟩] W (RetV (.tuple #[pV b o c (z + 1), .bool false]) W) from fun W hB => may_no b o c (i + 1) (z + 1) (by omega) _ W (hT.keep hB) (by omega) hd)
  clear hT ht hd
  have hz0 : 0 ≤ z := by omega
  have hz15 : z < 14 := by omega
  clear hz hi
  have sf := store_float
  go_enter Tryz.func81, Tryz.ntmps81
  go_wp2_with (first
    | (go_at_call 58; (with_reducible refine (HN.out _ (BX.four w _ _ _ _).below).mono ?_); rintro e w2 ⟨rfl, hB2⟩
       have HB2 := Lib.hid ((BX.four w _ _ _ _).keep hB2)
       obtain ⟨l0, p0, p1, p2, p3, g0, g1, g2, g3⟩ := HB2.out.p4 0 rfl
       obtain ⟨l3, x0, x1, x2, x3, x4, x5, x6, x7, x8, x9, y0, y1, y2, y3, y4, y5, y6, y7, y8, y9⟩ := HB2.out.e10 3 rfl
       simp only [Nat.add_zero, plus3] at l0 p0 p1 p2 p3 g0 g1 g2 g3 l3 x0 x1 x2 x3 x4 x5 x6 x7 x8 x9 y0 y1 y2 y3 y4 y5 y6 y7 y8 y9
       clear hB2)
    | (go_at_call 31; (with_reducible refine Calls.mono (HM.out _ ?hbw) ?_); (case hbw => exact ((HB2.out.set4 (k := 0) rfl).e7 (k := 3) rfl).below); rintro e w4 ⟨rfl, hB4⟩
       have HB4 := Lib.hid (((HB2.out.set4 (k := 0) rfl).e7 (k := 3) rfl).keep hB4)
       clear l0 p0 p1 p2 p3 g0 g1 g2 g3 l3 x0 x1 x2 x3 x4 x5 x6 x7 x8 x9 y0 y1 y2 y3 y4 y5 y6 y7 y8 y9 HB2 hB4
       obtain ⟨l3, x0, x1, x2, x3, x4, x5, x6, x7, x8, x9, -⟩ := HB4.out.e10 3 rfl
       obtain ⟨l1, r0, r1, r2, r3, f0, f1, f2, f3⟩ := HB4.out.p4 1 rfl
       obtain ⟨l2, z0, z1, z2, z3, z4, z5, z6, z7, z8, z9, y0, y1, y2, y3, y4, y5, y6, y7, y8, y9⟩ := HB4.out.e10 2 rfl
       have l0 : w.heap.size < w4.heap.size := by omega
       simp only [plus2, plus3] at l1 l2 l3 x0 x1 x2 x3 x4 x5 x6 x7 x8 x9 y0 y1 y2 y3 y4 y5 y6 y7 y8 y9 z0 z1 z2 z3 z4 z5 z6 z7 z8 z9)
    | fail)
  go_region
  all_goals (
    rename_i K hK
    have HF := (((HB4.out.set4 (k := 1) (v0 := .slice (some ⟨b, o, none⟩) 15 c) (v1 := .int .i64 (z + 1)) (v2 := .int .i64 0) (v3 := .int .i64 0) rfl).set10 (k := 2) (v0 := .int .i64 2) (v1 := .string ⟨#[]⟩) (v2 := .int .i64 0) (v3 := .int .i64 0) (v4 := .float .f64 0) (v5 := .string ⟨#[]⟩) (v6 := .string ⟨#[]⟩) (v7 := .string s) (v8 := .bool false) (v9 := .slice none 0 0) rfl).alloc (.cells (pC b o c (z + 1)) 99)).drew
    exact hK _ _ (wp_ret (bodyPost_ret (res_pe (fn := Tryz.f81) rfl rfl rfl (HF.row 1 _ _ rfl) (HF.row 2 _ _ rfl)) rfl ⟨rfl, HF.below⟩)))
end Go.Proofs.YthdmfaepjemopaaGreatDoor
namespace Go.Proofs.YthdmfaepjemopaaGreatDoor
open Go.RowKit

theorem BX.out {w W : World} {bs : List Obj} (h : BX w bs W) {b i : Nat} (hb : w.heap.size + bs.length ≤ b) {v : Value} : BX w bs (W.setCell ⟨b, i, none⟩ v) := by
  refine ⟨h.1.setCell (p := ⟨b, i, none⟩) (by show w.heap.size ≤ b; omega) _, fun k o hk => ?_⟩
  have := (List.getElem?_eq_some_iff.1 hk).1
  exact (heap_setFar _ (by omega)).trans (h.2 k o hk)
theorem BX.out4 {w W : World} {bs : List Obj} (h : BX w bs W) {b : Nat} (hb : w.heap.size + bs.length ≤ b) {v0 v1 v2 v3 : Value} : BX w bs ((((W.setCell ⟨b, 0, none⟩ v0).setCell ⟨b, 1, none⟩ v1).setCell ⟨b, 2, none⟩ v2).setCell ⟨b, 3, none⟩ v3) := (((h.out hb).out hb).out hb).out hb
theorem BX.p4' {W : World} {b : Nat} {v0 v1 v2 v3 : Value} {ty : TypeId} (h1 : W.heap[b]? = some (.cells #[v0, v1, v2, v3] ty)) : b < W.heap.size ∧ W.cell? ⟨b, 0, none⟩ = some v0 ∧ W.cell? ⟨b, 1, none⟩ = some v1 ∧ W.cell? ⟨b, 2, none⟩ = some v2 ∧ W.cell? ⟨b, 3, none⟩ = some v3 ∧ W.frozen? ⟨b, 0, none⟩ = false ∧ W.frozen? ⟨b, 1, none⟩ = false ∧ W.frozen? ⟨b, 2, none⟩ = false ∧ W.frozen? ⟨b, 3, none⟩ = false := by
  obtain ⟨a0, a1, a2, a3⟩ := row4 h1
  obtain ⟨b0, b1, b2, b3⟩ := free4 h1
  exact ⟨heap_lt h1, a0, a1, a2, a3, b0, b1, b2, b3⟩
theorem BX.setP {w W : World} {bs : List Obj} {k : Nat} {u0 u1 u2 u3 : Value} {ty : TypeId} {fr : Nat × Nat} (h : BX w bs W) (hk : bs[k]? = some (.cells #[u0, u1, u2, u3] ty fr)) (b o c : Nat) (z : Int) : BX w (bs.set k (.cells #[.slice (some ⟨b, o, none⟩) 15 c, .int .i64 z, .int .i64 0, .int .i64 0] ty fr)) ((((W.setCell ⟨w.heap.size + k, 0, none⟩ (.slice (some ⟨b, o, none⟩) 15 c)).setCell ⟨w.heap.size + k, 1, none⟩ (.int .i64 z)).setCell ⟨w.heap.size + k, 2, none⟩ (.int .i64 0)).setCell ⟨w.heap.size + k, 3, none⟩ (.int .i64 0)) := h.set4 hk
theorem BX.setX {w W : World} {bs : List Obj} {k : Nat} {u0 u1 u2 u3 u4 u5 u6 u7 u8 u9 : Value} {ty : TypeId} {fr : Nat × Nat} (h : BX w bs W) (hk : bs[k]? = some (.cells #[u0, u1, u2, u3, u4, u5, u6, u7, u8, u9] ty fr)) (x : Ex) : BX w (bs.set k (.cells #[.int .i64 x.kind, .string x.op, .int .i64 x.lit.k, .int .i64 x.lit.n, .float .f64 x.lit.f, .string x.lit.s, .string x.table, .string x.name, .bool x.neg, .slice x.A x.args.length x.c] ty fr)) ((((((((((W.setCell ⟨w.heap.size + k, 0, none⟩ (.int .i64 x.kind)).setCell ⟨w.heap.size + k, 1, none⟩ (.string x.op)).setCell ⟨w.heap.size + k, 2, none⟩ (.int .i64 x.lit.k)).setCell ⟨w.heap.size + k, 3, none⟩ (.int .i64 x.lit.n)).setCell ⟨w.heap.size + k, 4, none⟩ (.float .f64 x.lit.f)).setCell ⟨w.heap.size + k, 5, none⟩ (.string x.lit.s)).setCell ⟨w.heap.size + k, 6, none⟩ (.string x.table)).setCell ⟨w.heap.size + k, 7, none⟩ (.string x.name)).setCell ⟨w.heap.size + k, 8, none⟩ (.bool x.neg)).setCell ⟨w.heap.size + k, 9, none⟩ (.slice x.A x.args.length x.c)) := h.set10 hk
theorem BX.outP {w W : World} {bs : List Obj} (h : BX w bs W) {g : Nat} (hb : w.heap.size + bs.length ≤ g) (b o c : Nat) (z : Int) : BX w bs ((((W.setCell ⟨g, 0, none⟩ (.slice (some ⟨b, o, none⟩) 15 c)).setCell ⟨g, 1, none⟩ (.int .i64 z)).setCell ⟨g, 2, none⟩ (.int .i64 0)).setCell ⟨g, 3, none⟩ (.int .i64 0)) := h.out4 hb
set_option maxHeartbeats 16000000 in
theorem col_dot (b o c i : Nat) (z : Int) (hz : z = i) (t s : ByteArray) (p p2 : Int) (w : World) (hT : TksAt w b o) (ht : tks[i]? = some (1, t, p)) (ht2 : tks[i + 2]? = some (1, s, p2)) (hi : i < 12) (hd : nx (i + 1) ⟨#[46]⟩ = true) : Calls Tryz.prog 81 #[pV b o c z] w (RetV (.tuple #[pV b o c (z + 1 + 1 + 1), exV (colX t s)]) w) := by
  have HN := Lib.hid (show ∀ W, Below w.heap.size w W → Calls Tryz.prog 58 #[pV b o c z] W (RetV (.tuple #[pV b o c (z + 1), .string t]) W) from fun W hB => name_yes b o c i z hz t p W (hT.keep hB) ht)
  have HM := Lib.hid (show ∀ W, Below w.heap.size w W → Calls Tryz.prog 31 #[pV b o c (z + 1), .string ⟨#[46]⟩] W (RetV (.tuple #[pV b o c (z + 1 + 1), .bool true]) W) from fun W hB => may_yes b o c (i + 1) (z + 1) (by omega) _ W (hT.keep hB) (by omega) hd)
  have HN2 := Lib.hid (show ∀ W, Below w.heap.size w W → Calls Tryz.prog 58 #[pV b o c (z + 1 + 1)] W (RetV (.tuple #[pV b o c (z + 1 + 1 + 1), .string s]) W) from fun W hB => name_yes b o c (i + 2) (z + 1 + 1) (by omega) s p2 W (hT.keep hB) ht2)
  have hz0 : 0 ≤ z := by omega
  have hz15 : z < 12 := by omega
  clear hT ht ht2 hd hz hi
  have sf := store_float
  go_enter Tryz.func81, Tryz.ntmps81
  go_wp2_with (first
    | (go_at_call 58; (with_reducible refine (HN.out _ (BX.four w _ _ _ _).below).mono ?_); rintro e w2 ⟨rfl, hB2⟩
       have HB2 := Lib.hid ((BX.four w _ _ _ _).keep hB2)
       obtain ⟨l0, p0, p1, p2, p3, g0, g1, g2, g3⟩ := HB2.out.p4 0 rfl
       obtain ⟨l3, x0, x1, x2, x3, x4, x5, x6, x7, x8, x9, y0, y1, y2, y3, y4, y5, y6, y7, y8, y9⟩ := HB2.out.e10 3 rfl
       simp only [Nat.add_zero, plus3] at l0 p0 p1 p2 p3 g0 g1 g2 g3 l3 x0 x1 x2 x3 x4 x5 x6 x7 x8 x9 y0 y1 y2 y3 y4 y5 y6 y7 y8 y9
       clear hB2)
    | (go_at_call 31; (with_reducible refine Calls.mono (HM.out _ ?hbw) ?_); (case hbw => exact ((HB2.out.set4 (k := 0) rfl).e7 (k := 3) rfl).below); rintro e w4 ⟨rfl, hB4⟩
       have HB4 := Lib.hid (((HB2.out.set4 (k := 0) rfl).e7 (k := 3) rfl).keep hB4)
       clear l0 p0 p1 p2 p3 g0 g1 g2 g3 l3 x0 x1 x2 x3 x4 x5 x6 x7 x8 x9 y0 y1 y2 y3 y4 y5 y6 y7 y8 y9 HB2 hB4
       obtain ⟨l3, x0, x1, x2, x3, x4, x5, x6, x7, x8, x9, y0, y1, y2, y3, y4, y5, y6, y7, y8, y9⟩ := HB4.out.e10 3 rfl
       have l0 : w.heap.size < w4.heap.size := by omega
       simp only [plus3] at l3 x0 x1 x2 x3 x4 x5 x6 x7 x8 x9 y0 y1 y2 y3 y4 y5 y6 y7 y8 y9)
    | (go_at_call 58; (with_reducible refine Calls.mono (HN2.out _ ?hbw) ?_); (case hbw => exact ((HB4.out.e6 (k := 3) rfl).alloc _).below); rintro e w6 ⟨rfl, hB6⟩
       have HB6 := Lib.hid (((HB4.out.e6 (k := 3) rfl).alloc _).keep hB6)
       have K5 := heap_alloc_new (w4.setCell ⟨w.heap.size + 1 + 1 + 1, 6, none⟩ (.string t)) (.cells (pC b o c (z + 1 + 1)) 99)
       rw [show (w4.setCell ⟨w.heap.size + 1 + 1 + 1, 6, none⟩ (.string t)).heap.size = w4.heap.size by simp] at K5
       have k5 := (hB6.block w4.heap.size (by simp)).trans K5
       have hl4 : w.heap.size + 4 ≤ w4.heap.size := l3
       clear l0 l3 x0 x1 x2 x3 x4 x5 x6 x7 x8 x9 y0 y1 y2 y3 y4 y5 y6 y7 y8 y9 HB4 hB6 K5
       obtain ⟨l5, q0, q1, q2, q3, g0, g1, g2, g3⟩ := BX.p4' k5
       obtain ⟨l3, x0, x1, x2, x3, x4, x5, x6, x7, x8, x9, y0, y1, y2, y3, y4, y5, y6, y7, y8, y9⟩ := HB6.out.e10 3 rfl
       obtain ⟨l1, r0, r1, r2, r3, f0, f1, f2, f3⟩ := HB6.out.p4 1 rfl
       obtain ⟨l2, z0, z1, z2, z3, z4, z5, z6, z7, z8, z9, v0, v1, v2, v3, v4, v5, v6, v7, v8, v9⟩ := HB6.out.e10 2 rfl
       have n1 : w4.heap.size ≠ w.heap.size + 1 := by omega
       have n2 : w4.heap.size ≠ w.heap.size + 2 := by omega
       have n3 : w4.heap.size ≠ w.heap.size + 3 := by omega
       have m1 := n1.symm
       have m2 := n2.symm
       have m3 := n3.symm
       simp only [plus2, plus3] at n2 n3 m2 m3 l1 l2 l3 x0 x1 x2 x3 x4 x5 x6 x7 x8 x9 y0 y1 y2 y3 y4 y5 y6 y7 y8 y9 z0 z1 z2 z3 z4 z5 z6 z7 z8 z9 v0 v1 v2 v3 v4 v5 v6 v7 v8 v9)
    | fail)
  go_region
  all_goals (
    rename_i K hK
    have HF := ((((HB6.out.outP (g := w4.heap.size) hl4 b o c (z + 1 + 1 + 1)).e7 (k := 3) (v := .string s) rfl).setP (k := 1) rfl b o c (z + 1 + 1 + 1)).setX (k := 2) rfl (colX t s)).drew
    exact hK _ _ (wp_ret (bodyPost_ret (res_pe (fn := Tryz.f81) rfl rfl rfl (HF.row 1 _ _ rfl) (HF.row 2 _ _ rfl)) rfl ⟨rfl, HF.below⟩)))
end Go.Proofs.YthdmfaepjemopaaGreatDoor
namespace Go.Proofs.YthdmfaepjemopaaGreatDoor
open Go.RowKit

theorem BX.five (w : World) (O1 O2 O3 O4 O5 : Obj) : BX w [O1, O2, O3, O4, O5] (((((w.alloc O1).alloc O2).alloc O3).alloc O4).alloc O5) := by
  have h1 := BX.more (BX.nil w) rfl O1
  have h2 := BX.more h1.1 h1.2 O2
  have h3 := BX.more h2.1 h2.2 O3
  have h4 := BX.more h3.1 h3.2 O4
  exact (BX.more h4.1 h4.2 O5).1
theorem BX.size {w W : World} {bs : List Obj} (h : BX w bs W) : ∀ k, k < bs.length → w.heap.size + k < W.heap.size := fun k hk => heap_lt (h.2 k _ (List.getElem?_eq_getElem hk))
def Far (n : Nat) (W W' : World) : Prop := W.heap.size ≤ W'.heap.size ∧ ∀ g, n ≤ g → g < W.heap.size → W'.heap[g]? = W.heap[g]?
theorem Far.refl (n : Nat) (W : World) : Far n W W := ⟨Nat.le_refl _, fun _ _ _ => rfl⟩
theorem Far.set {n : Nat} {W W' : World} (h : Far n W W') {b i : Nat} (hb : b < n) (v : Value) : Far n W (W'.setCell ⟨b, i, none⟩ v) := ⟨by simpa using h.1, fun g h1 h2 => (heap_setFar _ (by omega)).trans (h.2 g h1 h2)⟩
theorem Far.set4 {n : Nat} {W W' : World} (h : Far n W W') {b : Nat} (hb : b < n) (v0 v1 v2 v3 : Value) : Far n W ((((W'.setCell ⟨b, 0, none⟩ v0).setCell ⟨b, 1, none⟩ v1).setCell ⟨b, 2, none⟩ v2).setCell ⟨b, 3, none⟩ v3) := (((h.set hb v0).set hb v1).set hb v2).set hb v3
theorem Far.set10 {n : Nat} {W W' : World} (h : Far n W W') {b : Nat} (hb : b < n) (v0 v1 v2 v3 v4 v5 v6 v7 v8 v9 : Value) : Far n W ((((((((((W'.setCell ⟨b, 0, none⟩ v0).setCell ⟨b, 1, none⟩ v1).setCell ⟨b, 2, none⟩ v2).setCell ⟨b, 3, none⟩ v3).setCell ⟨b, 4, none⟩ v4).setCell ⟨b, 5, none⟩ v5).setCell ⟨b, 6, none⟩ v6).setCell ⟨b, 7, none⟩ v7).setCell ⟨b, 8, none⟩ v8).setCell ⟨b, 9, none⟩ v9) := (((((((((h.set hb v0).set hb v1).set hb v2).set hb v3).set hb v4).set hb v5).set hb v6).set hb v7).set hb v8).set hb v9
theorem Far.alloc {n : Nat} {W W' : World} (h : Far n W W') (O : Obj) : Far n W (W'.alloc O) := ⟨by have := h.1; simp; omega, fun g h1 h2 => (heap_alloc_old W' O (by have := h.1; omega)).trans (h.2 g h1 h2)⟩
theorem Far.drew {n : Nat} {W W' : World} (h : Far n W W') : Far n W W'.drew := h
theorem Far.keep {n : Nat} {W W1 W2 : World} (h : Far n W W1) (hB : Below W1.heap.size W1 W2) : Far n W W2 := ⟨Nat.le_trans h.1 hB.size, fun g h1 h2 => (hB.block g (by have := h.1; omega)).trans (h.2 g h1 h2)⟩
theorem Far.step {n : Nat} {W W1 W2 : World} (h : Far n W W1) (h2 : Far n W1 W2) : Far n W W2 := ⟨Nat.le_trans h.1 h2.1, fun g g1 g2 => (h2.2 g g1 (Nat.lt_of_lt_of_le g2 h.1)).trans (h.2 g g1 g2)⟩
def XA (n : Nat) (W : World) (x : Ex) : Prop := x.args = [] ∨ ∃ (g : Nat) (y1 y2 : Ex) (ty : TypeId), x.args = [y1, y2] ∧ y1.args = [] ∧ y2.args = [] ∧ x.A = some ⟨g, 0, none⟩ ∧ n ≤ g ∧ W.heap[g]? = some (.cells (exL y1 ++ exL y2).toArray ty)
theorem XA.far {n : Nat} {W W' : World} {x : Ex} (h : XA n W x) (hF : Far n W W') : XA n W' x := by
  rcases h with h | ⟨g, y1, y2, ty, h1, h2, h3, h4, h5, h6⟩
  · exact Or.inl h
  · exact Or.inr ⟨g, y1, y2, ty, h1, h2, h3, h4, h5, (hF.2 g h5 (heap_lt h6)).trans h6⟩
theorem XA.mono {n m : Nat} {W : World} {x : Ex} (h : XA n W x) (hm : m ≤ n) : XA m W x := by
  rcases h with h | ⟨g, y1, y2, ty, h1, h2, h3, h4, h5, h6⟩
  · exact Or.inl h
  · exact Or.inr ⟨g, y1, y2, ty, h1, h2, h3, h4, Nat.le_trans hm h5, h6⟩
def XP (Φ : Ex → Prop) (b o c : Nat) (z : Int) (w : World) (e : Ending) (w' : World) : Prop := ∃ x, e = .returned (.tuple #[pV b o c z, exV x]) ∧ Below w.heap.size w w' ∧ XA w.heap.size w' x ∧ Φ x
theorem col_xp {b o c : Nat} {z z2 : Int} {t s : ByteArray} {W : World} (h : Calls Tryz.prog 81 #[pV b o c z] W (RetV (.tuple #[pV b o c z2, exV (colX t s)]) W)) : Calls Tryz.prog 81 #[pV b o c z] W (XP (fun x => x = colX t s) b o c z2 W) :=
  h.mono fun _e _w' ⟨h1, h2⟩ => ⟨_, h1, h2, Or.inl rfl, rfl⟩
set_option maxHeartbeats 16000000 in
theorem single_col (b o c i : Nat) (z : Int) (hz : z = i) (s : ByteArray) (p : Int) (w : World) (hT : TksAt w b o) (ht : tks[i]? = some (1, s, p)) (Φ : Ex → Prop) (zz d : Int) (hC : ∀ W, Below w.heap.size w W → Calls Tryz.prog 81 #[pV b o c z] W (XP Φ b o c zz W)) : Calls Tryz.prog 96 #[pV b o c z, .int .i64 d] w (XP Φ b o c zz w) := by
  obtain ⟨hb, hi, q0, q1, q2⟩ := tok_at hT ht
  have HC := Lib.hid hC
  have t0 := fun O1 O2 O3 O4 : Obj => cell_kept q0 (BX.four w O1 O2 O3 O4).below
  have t1 := fun O1 O2 O3 O4 : Obj => cell_kept q1 (BX.four w O1 O2 O3 O4).below
  have t2 := fun O1 O2 O3 O4 : Obj => cell_kept q2 (BX.four w O1 O2 O3 O4).below
  clear hT ht hC
  subst hz
  have sf := store_float
  go_enter Tryz.func96, Tryz.ntmps96
  go_wp2_with (first
    | (go_at_call 81; (with_reducible refine Calls.mono (HC.out _ (BX.five w _ _ _ _ _).below) ?_); rintro e w2 ⟨x, rfl, hB2, hx, hP⟩
       have HB2 := Lib.hid ((BX.five w _ _ _ _ _).keep hB2)
       have HX := Lib.hid hx
       have HP := Lib.hid hP
       obtain ⟨l1, r0, r1, r2, r3, f0, f1, f2, f3⟩ := HB2.out.p4 1 rfl
       obtain ⟨l2, z0, z1, z2, z3, z4, z5, z6, z7, z8, z9, v0, v1, v2, v3, v4, v5, v6, v7, v8, v9⟩ := HB2.out.e10 2 rfl
       simp only [plus2] at l2 z0 z1 z2 z3 z4 z5 z6 z7 z8 z9 v0 v1 v2 v3 v4 v5 v6 v7 v8 v9
       clear hB2 hx hP)
    | fail)
  have HF := (HB2.out.setP (k := 1) rfl b o c zz).setX (k := 2) rfl x
  have hXF := HX.out.far (((Far.refl _ w2).set4 (b := w.heap.size + 1) (by simp) (.slice (some ⟨b, o, none⟩) 15 c) (.int .i64 zz) (.int .i64 0) (.int .i64 0)).set10 (b := w.heap.size + 2) (by simp) (.int .i64 x.kind) (.string x.op) (.int .i64 x.lit.k) (.int .i64 x.lit.n) (.float .f64 x.lit.f) (.string x.lit.s) (.string x.table) (.string x.name) (.bool x.neg) (.slice x.A x.args.length x.c))
  exact bodyPost_ret (res_pe (fn := Tryz.f96) rfl rfl rfl (HF.row 1 _ _ rfl) (HF.row 2 _ _ rfl)) rfl ⟨x, rfl, HF.below, hXF.mono (by simp only [World.size_alloc]; omega), HP.out⟩
end Go.Proofs.YthdmfaepjemopaaGreatDoor
