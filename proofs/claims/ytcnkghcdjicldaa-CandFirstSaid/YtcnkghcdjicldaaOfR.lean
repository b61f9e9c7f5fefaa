/- Which indexes might help a query: plain; and the walk of the order's test. -/
import Derived.Test.YtcnkghcdjicldaaSame
namespace Go.Proofs.Ytcnkghcdjicldaa
open Go.RowKit

def eqOps : List ByteArray := [⟨#[61]⟩]
def rangeOps : List ByteArray := [⟨#[60]⟩, ⟨#[60, 61]⟩, ⟨#[62]⟩, ⟨#[62, 61]⟩]
/-- the columns of the order, if all are a table's, and none comes down -/
def byR (q : Qd) (f : Nat) : List Int := if (ordersR q && !q.ord.any (·.2)) = true then placesR q f (q.ord.map (·.1)) else []
/-- a table's indexes, behind those that were there -/
def stepR (q : Qd) (L : List (Int × List Int)) (f : Nat) (t : Int) : List (Int × List Int) :=
  let e := heldR q f eqOps
  let r := heldR q f rangeOps
  let L1 := addR L t e
  let L2 := r.foldl (fun L c => addR L t (behR (e.take 2) [c])) L1
  let L3 := (behR e r).foldl (fun L c => addR L t [c]) L2
  let L4 := addR L3 t (byR q f)
  if byR q f = [] then L4 else addR L4 t (behR e (byR q f))
/-- the first k tables' -/
def ofK (q : Qd) : Nat → List (Int × List Int)
  | 0 => []
  | k + 1 => if k < q.beg.length then stepR q (ofK q k) k (q.tabs.getD k 0) else ofK q k
def ofR (q : Qd) : List (Int × List Int) := ofK q q.tabs.length
theorem addR_le (L : List (Int × List Int)) (t : Int) (c : List Int) : (addR L t c).length ≤ L.length + 1 := by
  unfold addR
  (repeat' split) <;> simp
theorem fold_add_le {α : Type} (g : α → List Int) (t : Int) (l : List α) (L : List (Int × List Int)) : (l.foldl (fun L c => addR L t (g c)) L).length ≤ L.length + l.length := by
  induction l generalizing L with
  | nil => simp
  | cons x l ih =>
    have := ih (addR L t (g x))
    have h2 := addR_le L t (g x)
    simp only [List.foldl_cons, List.length_cons]
    omega
theorem held_le (q : Qd) (f : Nat) (ops : List ByteArray) : (heldR q f ops).length ≤ 2 * q.wh.length := by
  have := heldR_le q f ops q.wh.length
  rwa [List.take_length] at this
theorem placesR_le (q : Qd) (f : Nat) (l : List Int) : (placesR q f l).length ≤ l.length := by
  unfold placesR
  split
  · have := colsR_le q f l l.length
    rwa [List.take_length] at this
  · simp
theorem byR_le (q : Qd) (f : Nat) : (byR q f).length ≤ q.ord.length := by
  unfold byR
  split
  · have := placesR_le q f (q.ord.map (·.1))
    rwa [List.length_map] at this
  · simp
@[reducible] def sortC (s : Int × Bool) : List Value := [.int .i64 s.1, .bool s.2]
theorem sorts_cells {w : World} {A : Option Addr} {l : List (Int × Bool)} (h : SortsAt w A l) : CellsAt w 2 A (l.map sortC) := by
  refine ⟨by rw [List.length_map]; exact h.1, ?_⟩
  rcases h.2 with rfl | ⟨b, off, rfl, hb, hc⟩
  · exact .inl rfl
  · refine .inr ⟨b, off, rfl, hb, fun j x hx => ?_⟩
    rw [List.getElem?_map] at hx
    obtain ⟨s, hs, rfl⟩ := Option.map_eq_some_iff.1 hx
    obtain ⟨g1, g2⟩ := hc j s hs
    refine ⟨rfl, fun i v hv => ?_⟩
    match i, hv with
    | 0, hv => simp only [List.getElem?_cons_zero, Option.some.injEq] at hv; subst hv; exact g1
    | 1, hv => simp only [List.getElem?_cons_succ, List.getElem?_cons_zero, Option.some.injEq] at hv; subst hv; exact g2
    | i + 2, hv => simp at hv
set_option maxHeartbeats 1000000 in
theorem down_value (s : Int × Bool) (W : World) : Calls Try.prog 22 (#[.agg (sortC s).toArray] ++ #[]) W (RetV (.bool s.2) W) := by
  obtain ⟨a, d⟩ := s
  show Calls Try.prog 22 #[.agg #[.int .i64 a, .bool d]] W _
  go_enter Try.func22, Try.ntmps22
  go_wp2
  go_ret
  exact ⟨rfl, below1 W _⟩
theorem down_any (A : Option Addr) (c : Nat) (l : List (Int × Bool)) (W : World) (h : SortsAt W A l) : Calls Try.prog 21 #[.slice A l.length c, .func (.func 22) #[] #[]] W (RetV (.bool (l.any (·.2))) W) := by
  have h1 := contains_sort (atR l (·.2)) 22 #[] (Go.Proofs.enters_of Try.func22 (by kernel_rfl) rfl) A c (l.map sortC) W (sorts_cells h) (fun j x hx W2 hB2 => by
    rw [List.getElem?_map] at hx
    obtain ⟨s, hs, rfl⟩ := Option.map_eq_some_iff.1 hx
    rw [atR_some hs]
    exact down_value s W2)
  rw [List.length_map, range_any] at h1
  exact h1
end Go.Proofs.Ytcnkghcdjicldaa
