/- The walks of the statements' own functions: col, lives. -/
import Derived.Test.YtcnkghcdjicldaaROf
import Derived.Test.YtcnkghcdjicldaaInv
namespace Go.Proofs.Ytcnkghcdjicldaa
open Go.RowKit

def colT (x : Int) : NodeT := .mk 2 ⟨#[]⟩ 0 0 0 ⟨#[]⟩ x false 1 none 0 []
def oneT : NodeT := .mk 1 ⟨#[]⟩ 1 1 0 ⟨#[]⟩ 0 false 0 none 0 []
def cmpT (op : ByteArray) (b : Nat) (l : List NodeT) : NodeT := .mk 7 op 0 0 0 ⟨#[]⟩ 0 false 0 (some ⟨b, 0, none⟩) 2 l
/-- the example's two parts -/
def TwoP (l : List NodeT) : Prop := ∃ b1 b2, l = [cmpT ⟨#[61]⟩ b1 [colT 0, oneT], cmpT ⟨#[60]⟩ b2 [oneT, colT 2]]
/-- the example's query -/
def ExQ (q : Qd) : Prop := q.tabs = [0] ∧ q.beg = [0] ∧ q.width = 3 ∧ q.ord = [(1, false)] ∧ q.grouped = false ∧ TwoP q.wh
theorem col_any (x : Int) (w : World) : Calls Try.prog 15 #[.int .i64 x] w (RetV (.agg (colT x).cells.toArray) w) := by
  have sf := store_float
  go_enter Try.func15, Try.ntmps15
  go_wp2_with fail
  exact bodyPost_ret (v := .agg #[.int .i64 2, .string ⟨#[]⟩, .int .i64 0, .int .i64 0, .float .f64 0, .string ⟨#[]⟩, .int .i64 x, .bool false, .int .i64 1, .slice none 0 0]) (by simp [results, Try.results15, go_sem]) rfl ⟨rfl, below1 w _⟩
theorem ex_of (q : Qd) (h : ExQ q) : ofR q = [(0, [0]), (0, [0, 2]), (0, [2]), (0, [1]), (0, [0, 1])] := by
  obtain ⟨tA, tc, tabs, bA, bc, beg, width, wA, wc, wh, gA, gn, gc, grouped, iA, i_n, ic, oA, oc, ord, limit⟩ := q
  obtain ⟨h1, h2, h3, h4, h5, b1, b2, h6⟩ := h
  dsimp only at h1 h2 h3 h4 h5 h6
  subst h1 h2 h3 h4 h5 h6
  have e1 : ∀ a : Int, tabR ⟨tA, tc, [0], bA, bc, [0], 3, wA, wc, [cmpT ⟨#[61]⟩ b1 [colT 0, oneT], cmpT ⟨#[60]⟩ b2 [oneT, colT 2]], gA, gn, gc, false, iA, i_n, ic, oA, oc, [(1, false)], limit⟩ a = if 0 ≤ a ∧ a < 3 then some 0 else none := by
    intro a
    unfold tabR
    dsimp only
    split
    · rename_i h
      simp [lastLe, h.1]
    · rfl
  have g1 : hasS eqOps ⟨#[61]⟩ = true := by simp [hasS, eqOps]
  have g2 : hasS eqOps ⟨#[60]⟩ = false := by simp [hasS, eqOps, ByteArray.toList_eq]
  have g3 : hasS rangeOps ⟨#[60]⟩ = true := by simp [hasS, rangeOps]
  have g4 : hasS rangeOps ⟨#[61]⟩ = false := by simp [hasS, rangeOps, ByteArray.toList_eq]
  have g5 : hasS eqOps (turnR ⟨#[60]⟩) = false := by simp [hasS, eqOps, turnR, ByteArray.toList_eq]
  have g6 : hasS rangeOps (turnR ⟨#[60]⟩) = true := by simp [hasS, rangeOps, turnR, ByteArray.toList_eq]
  obtain ⟨q, hq⟩ : ∃ q : Qd, q = ⟨tA, tc, [0], bA, bc, [0], 3, wA, wc, [cmpT ⟨#[61]⟩ b1 [colT 0, oneT], cmpT ⟨#[60]⟩ b2 [oneT, colT 2]], gA, gn, gc, false, iA, i_n, ic, oA, oc, [(1, false)], limit⟩ := ⟨_, rfl⟩
  rw [← hq] at e1 ⊢
  have r1 : readsR q 0 oneT = false := by unfold oneT; rw [readsR, if_neg (by decide), readsL]
  have w1 : q.wh = [cmpT ⟨#[61]⟩ b1 [colT 0, oneT], cmpT ⟨#[60]⟩ b2 [oneT, colT 2]] := by rw [hq]
  have c1 : ∀ a, colR q 0 a = wrap64 a := fun a => by unfold colR; rw [hq]; simp
  have k1 : (oneT.kind == 2) = false := rfl
  have s1 : ∀ ops op y out, sideR q 0 ops op oneT y out = out := fun ops op y out => by unfold sideR testR; rw [k1]; rfl
  have s2 : ∀ ops op x out, 0 ≤ x → x < 3 → sideR q 0 ops op (colT x) oneT out = if hasS ops op = true then onceR out (wrap64 x) else out := fun ops op x out h0 h3 => by
    have t1 : testR q 0 ops op (colT x) oneT = hasS ops op := by
      have e2 : (if 0 ≤ x ∧ x < 3 then some 0 else none : Option Nat) = some 0 := if_pos ⟨h0, h3⟩
      unfold testR
      rw [r1, show (colT x).at_ = x from rfl, e1, e2]
      show ((2 : Int) == 2 && (decide ((some 0 : Option Nat) = some 0) && (hasS ops op && !false))) = _
      simp
    unfold sideR
    rw [t1, show (colT x).at_ = x from rfl, c1]
  have p1 : ∀ ops out, partR q 0 ops out (cmpT ⟨#[61]⟩ b1 [colT 0, oneT]) = if hasS ops ⟨#[61]⟩ = true then onceR out 0 else out := fun ops out => by
    show sideR q 0 ops (turnR ⟨#[61]⟩) oneT (colT 0) (sideR q 0 ops ⟨#[61]⟩ (colT 0) oneT out) = _
    rw [s1, s2 _ _ _ _ (by omega) (by omega), show wrap64 0 = 0 by unfold wrap64; omega]
  have p2 : ∀ ops out, partR q 0 ops out (cmpT ⟨#[60]⟩ b2 [oneT, colT 2]) = if hasS ops (turnR ⟨#[60]⟩) = true then onceR out 2 else out := fun ops out => by
    show sideR q 0 ops (turnR ⟨#[60]⟩) (colT 2) oneT (sideR q 0 ops ⟨#[60]⟩ oneT (colT 2) out) = _
    rw [s2 _ _ _ _ (by omega) (by omega), s1, show wrap64 2 = 2 by unfold wrap64; omega]
  have h1 : heldR q 0 eqOps = [0] := by
    unfold heldR
    rw [w1]
    simp only [List.foldl_cons, List.foldl_nil, p1, p2, g1, g5]
    rfl
  have h2 : heldR q 0 rangeOps = [2] := by
    unfold heldR
    rw [w1]
    simp only [List.foldl_cons, List.foldl_nil, p1, p2, g4, g6]
    rfl
  have b1 : byR q 0 = [1] := by
    have o1 : q.ord = [(1, false)] := by rw [hq]
    unfold byR ordersR placesR allIn colsR
    rw [o1, show q.grouped = false by rw [hq]]
    simp only [List.map_cons, List.map_nil, List.all_cons, List.all_nil, List.foldl_cons, List.foldl_nil, e1, c1, show wrap64 1 = 1 by unfold wrap64; omega]
    rfl
  show ofK q q.tabs.length = _
  rw [show q.tabs = [0] by rw [hq]]
  show ofK q 1 = _
  rw [ofK, ofK, if_pos (by rw [hq]; exact Nat.zero_lt_one)]
  unfold stepR
  rw [h1, h2, b1, show q.tabs.getD 0 0 = 0 by rw [hq]; rfl]
  decide
/-- all blocks stand that are not of a query's type -/
def Agree (w w' : World) : Prop := (∀ (k : Nat) (cs : Array Value) (T : TypeId), w.heap[k]? = some (.cells cs T (0, 0)) → T ≠ 26 → w'.heap[k]? = some (.cells cs T (0, 0))) ∧ w.heap.size ≤ w'.heap.size
theorem Agree.refl (w : World) : Agree w w := ⟨fun _ _ _ h _ => h, Nat.le_refl _⟩
theorem Agree.below {w w2 w' : World} (hB : Below w.heap.size w w2) (h : Agree w2 w') : Agree w w' :=
  ⟨fun k cs T hk hT => h.1 k cs T ((hB.block k (heap_lt hk)).trans hk) hT, Nat.le_trans hB.size h.2⟩
theorem ints_blk {w : World} {b : Nat} {z : Int} {e : TypeId} (h : w.heap[b]? = some (.cells #[.int .i64 z] e (0, 0))) : Ints w (some ⟨b, 0, none⟩) 1 [z] := by
  refine ⟨.inr ⟨⟨b, 0, none⟩, rfl, heap_lt h, rfl, Nat.le_refl _, fun j u hu => ?_⟩, by unfold maxLen; omega⟩
  match j, hu with
  | 0, hu =>
    obtain rfl : Value.int .i64 z = u := by simpa [intsV] using hu
    exact cell_of_row w b 0 _ _ _ h
  | j + 1, hu => simp [intsV] at hu
theorem nodes_blk {w : World} {b : Nat} {T : TypeId} {x y : NodeT} (h : w.heap[b]? = some (.cells (NodeT.cells x ++ NodeT.cells y).toArray T (0, 0))) (hx : NodesAt w x.A x.args) (hy : NodesAt w y.A y.args) : NodesAt w (some ⟨b, 0, none⟩) [x, y] := by
  have hlen : ∀ t : NodeT, t.cells.length = 10 := fun t => by cases t; rfl
  refine .mk b 0 _ (heap_lt h) (by unfold maxLen; simp) (fun j t ht i v hv => ?_) (fun j t ht => ?_)
  · have hi : i < 10 := by
      rcases Nat.lt_or_ge i 10 with h | h
      · exact h
      · rw [List.getElem?_eq_none (by rw [hlen]; exact h)] at hv; cases hv
    refine (cell_of_row _ _ _ _ _ _ h).trans ?_
    rw [List.getElem?_toArray]
    match j, ht with
    | 0, ht =>
      obtain rfl : x = t := by simpa using ht
      rw [List.getElem?_append_left (by rw [hlen]; omega)]
      simpa using hv
    | 1, ht =>
      obtain rfl : y = t := by simpa using ht
      rw [List.getElem?_append_right (by rw [hlen]; omega), hlen]
      rw [show 0 + 1 * 10 + i - 10 = i by omega]
      exact hv
    | j + 2, ht => simp at ht
  · match j, ht with
    | 0, ht =>
      obtain rfl : x = t := by simpa using ht
      exact hx
    | 1, ht =>
      obtain rfl : y = t := by simpa using ht
      exact hy
    | j + 2, ht => simp at ht
theorem sorts_blk {w : World} {b : Nat} {T : TypeId} (h : w.heap[b]? = some (.cells #[.int .i64 1, .bool false] T (0, 0))) : SortsAt w (some ⟨b, 0, none⟩) [(1, false)] := by
  refine ⟨by unfold maxLen; simp, .inr ⟨b, 0, rfl, heap_lt h, fun j s hs => ?_⟩⟩
  match j, hs with
  | 0, hs =>
    obtain rfl : (1, false) = s := by simpa using hs
    exact ⟨cell_of_row _ _ 0 _ _ _ h, cell_of_row _ _ 1 _ _ _ h⟩
  | j + 1, hs => simp at hs
/-- what each operation of the example's region leaves -/
def LivesD (base : Nat) : Nat → Value → World → Prop
  | 0, v, w | 1, v, w => ∃ b, v = .slice (some ⟨b, 0, none⟩) 1 1 ∧ ∀ w', Agree w w' → Ints w' (some ⟨b, 0, none⟩) 1 [0]
  | 2, v, _ => v = .agg #[.int .i64 1, .bool false]
  | 3, v, w => ∃ b, v = .slice (some ⟨b, 0, none⟩) 1 1 ∧ ∀ w', Agree w w' → SortsAt w' (some ⟨b, 0, none⟩) [(1, false)]
  | 4, v, _ => v = .agg #[.int .i64 2, .string ⟨#[]⟩, .int .i64 0, .int .i64 0, .float .f64 0, .string ⟨#[]⟩, .int .i64 0, .bool false, .int .i64 1, .slice none 0 0]
  | 5, v, _ | 8, v, _ => v = .agg #[.int .i64 1, .string ⟨#[]⟩, .int .i64 1, .int .i64 1, .float .f64 0, .string ⟨#[]⟩, .int .i64 0, .bool false, .int .i64 0, .slice none 0 0]
  | 6, v, w => ∃ b, v = .slice (some ⟨b, 0, none⟩) 2 2 ∧ ∀ w', Agree w w' → NodesAt w' (some ⟨b, 0, none⟩) [colT 0, oneT]
  | 7, v, w => ∃ b, v = .agg #[.int .i64 7, .string ⟨#[61]⟩, .int .i64 0, .int .i64 0, .float .f64 0, .string ⟨#[]⟩, .int .i64 0, .bool false, .int .i64 0, .slice (some ⟨b, 0, none⟩) 2 2] ∧ ∀ w', Agree w w' → NodesAt w' (some ⟨b, 0, none⟩) [colT 0, oneT]
  | 9, v, _ => v = .agg #[.int .i64 2, .string ⟨#[]⟩, .int .i64 0, .int .i64 0, .float .f64 0, .string ⟨#[]⟩, .int .i64 2, .bool false, .int .i64 1, .slice none 0 0]
  | 10, v, w => ∃ b, v = .slice (some ⟨b, 0, none⟩) 2 2 ∧ ∀ w', Agree w w' → NodesAt w' (some ⟨b, 0, none⟩) [oneT, colT 2]
  | 11, v, w => ∃ b, v = .agg #[.int .i64 7, .string ⟨#[60]⟩, .int .i64 0, .int .i64 0, .float .f64 0, .string ⟨#[]⟩, .int .i64 0, .bool false, .int .i64 0, .slice (some ⟨b, 0, none⟩) 2 2] ∧ ∀ w', Agree w w' → NodesAt w' (some ⟨b, 0, none⟩) [oneT, colT 2]
  | 12, v, w => ∃ b l, v = .slice (some ⟨b, 0, none⟩) 2 2 ∧ TwoP l ∧ ∀ w', Agree w w' → NodesAt w' (some ⟨b, 0, none⟩) l
  | 13, v, w => ∃ b0 b1 b2 b3 l, v = .agg #[.slice (some ⟨b0, 0, none⟩) 1 1, .slice (some ⟨b1, 0, none⟩) 1 1, .int .i64 3, .slice (some ⟨b2, 0, none⟩) 2 2, .slice none 0 0, .bool false, .slice none 0 0, .slice (some ⟨b3, 0, none⟩) 1 1, .int .i64 (-1)] ∧ TwoP l ∧
    ∀ w', Agree w w' → QAt w' ⟨some ⟨b0, 0, none⟩, 1, [0], some ⟨b1, 0, none⟩, 1, [0], 3, some ⟨b2, 0, none⟩, 2, l, none, 0, 0, false, none, 0, 0, some ⟨b3, 0, none⟩, 1, [(1, false)], -1⟩
  | 14, v, w => ∃ b, v = .pointer (some ⟨b, 0, none⟩) ∧ base ≤ b ∧ BoxC w b #[.slice none 0 0, .slice none 0 0, .int .i64 0, .slice none 0 0, .slice none 0 0, .bool false, .slice none 0 0, .slice none 0 0, .int .i64 0]
  | _, _, _ => True
theorem livesD_mono (base : Nat) (i : Nat) (v : Value) (w w' : World) (h : LivesD base i v w) (hB : Below w.heap.size w w') : LivesD base i v w' := by
  match i, h with
  | 0, h | 1, h => obtain ⟨b, h1, h2⟩ := h; exact ⟨b, h1, fun x hx => h2 x (hx.below hB)⟩
  | 2, h | 4, h | 5, h | 8, h | 9, h => exact h
  | 3, h => obtain ⟨b, h1, h2⟩ := h; exact ⟨b, h1, fun x hx => h2 x (hx.below hB)⟩
  | 6, h | 7, h | 10, h | 11, h => obtain ⟨b, h1, h2⟩ := h; exact ⟨b, h1, fun x hx => h2 x (hx.below hB)⟩
  | 12, h => obtain ⟨b, l, h1, h3, h2⟩ := h; exact ⟨b, l, h1, h3, fun x hx => h2 x (hx.below hB)⟩
  | 13, h => obtain ⟨b0, b1, b2, b3, l, h1, h3, h2⟩ := h; exact ⟨b0, b1, b2, b3, l, h1, h3, fun x hx => h2 x (hx.below hB)⟩
  | 14, h => obtain ⟨b, h1, h3, h2⟩ := h; exact ⟨b, h1, h3, h2.keep hB⟩
  | _ + 15, _ => trivial
theorem new_blk {w w' : World} {cs : Array Value} {T : TypeId} (h : Agree (w.alloc (.cells cs T)) w') (hT : T ≠ 26) : w'.heap[w.heap.size]? = some (.cells cs T (0, 0)) := h.1 _ _ _ (heap_alloc_new w _) hT
/-- all blocks stand but one -/
def Far (b : Nat) (w w' : World) : Prop := (∀ k, k ≠ b → w'.heap[k]? = w.heap[k]?) ∧ w'.heap.size = w.heap.size
theorem Far.refl (b : Nat) (w : World) : Far b w w := ⟨fun _ _ => rfl, rfl⟩
theorem Far.set {b : Nat} {w w' : World} (h : Far b w w') (j : Nat) (v : Value) : Far b w (w'.setCell ⟨b, j, none⟩ v) :=
  ⟨fun k hk => (heap_setFar v hk).trans (h.1 k hk), by rw [← h.2]; simp⟩
theorem Far.agree {b : Nat} {w w' : World} {cs : Array Value} (h : Far b w w') (hb : BoxC w b cs) : Agree w w' := by
  refine ⟨fun k cs' T hk hT => ?_, Nat.le_of_eq h.2.symm⟩
  have hne : k ≠ b := by
    rintro rfl
    rw [show w.heap[k]? = _ from hb] at hk
    cases hk
    exact hT rfl
  exact (h.1 k hne).trans hk
theorem BoxC.set {w : World} {b : Nat} {cs : Array Value} (h : BoxC w b cs) (j : Nat) (v : Value) : BoxC (w.setCell ⟨b, j, none⟩ v) b (cs.setIfInBounds j v) := by
  rw [setCell_eq_setRow w b j cs 26 (0, 0) v h]
  exact setRow_heap w b _ _ 26 _ h
theorem five {w : World} {A : Option Addr} {c : Nat} {ds : List DefT} (hL : pureD ds = [(0, [0]), (0, [0, 2]), (0, [2]), (0, [1]), (0, [0, 1])]) (hD : DefsAt w A c ds) : ds.length = 5 ∧ ∃ bb off b1 o1 c1 b3 o3 c3, A = some ⟨bb, off, none⟩ ∧ bb < w.heap.size ∧
    w.cell? ⟨bb, off + 3 + 1, none⟩ = some (.slice (some ⟨b1, o1, none⟩) 2 c1) ∧ w.cell? ⟨b1, o1 + 1, none⟩ = some (.int .i64 2) ∧ w.cell? ⟨bb, off + 9 + 1, none⟩ = some (.slice (some ⟨b3, o3, none⟩) 1 c3) ∧ w.cell? ⟨b3, o3, none⟩ = some (.int .i64 1) := by
  have hlen : ds.length = 5 := by have := congrArg List.length hL; simpa [pureD] using this
  obtain ⟨d0, d1, d2, d3, d4, rfl⟩ : ∃ d0 d1 d2 d3 d4, ds = [d0, d1, d2, d3, d4] := by
    match ds, hlen with
    | [d0, d1, d2, d3, d4], _ => exact ⟨d0, d1, d2, d3, d4, rfl⟩
  simp only [pureD, List.map_cons, List.map_nil, List.cons.injEq, Prod.mk.injEq, and_true] at hL
  obtain ⟨_, ⟨_, e1⟩, _, ⟨_, e3⟩, _⟩ := hL
  obtain ⟨hC, hI, _, _⟩ := hD
  have h1 := hI d1 (by simp)
  have h3 := hI d3 (by simp)
  rcases hC.2 with h0 | ⟨bb, off, rfl, hb, hc⟩
  · cases h0
  · have g1 := (hc 1 d1.cells rfl).2 1 _ rfl
    have g3 := (hc 3 d3.cells rfl).2 1 _ rfl
    rw [e1] at h1 g1
    rw [e3] at h3 g3
    rcases h1.at with h0 | ⟨b1, o1, hA1, _, k1⟩
    · cases h0
    · rcases h3.at with h0 | ⟨b3, o3, hA3, _, k3⟩
      · cases h0
      · rw [hA1] at g1
        rw [hA3] at g3
        exact ⟨rfl, bb, off, b1, o1, d1.c, b3, o3, d3.c, rfl, hb, g1, k1 1 2 rfl, g3, k3 0 1 rfl⟩
theorem nine_set {w w0 : World} {b base : Nat} {c0 c1 c2 c3 c4 c5 c6 c7 c8 v0 v1 v2 v3 v4 v5 v6 v7 v8 : Value} (h : BoxC w b #[c0, c1, c2, c3, c4, c5, c6, c7, c8]) (h1 : Below base w0 w) (hb : base ≤ b) :
    Far b w (((((((((w.setCell ⟨b, 0, none⟩ v0).setCell ⟨b, 1, none⟩ v1).setCell ⟨b, 2, none⟩ v2).setCell ⟨b, 3, none⟩ v3).setCell ⟨b, 4, none⟩ v4).setCell ⟨b, 5, none⟩ v5).setCell ⟨b, 6, none⟩ v6).setCell ⟨b, 7, none⟩ v7).setCell ⟨b, 8, none⟩ v8) ∧ BoxC (((((((((w.setCell ⟨b, 0, none⟩ v0).setCell ⟨b, 1, none⟩ v1).setCell ⟨b, 2, none⟩ v2).setCell ⟨b, 3, none⟩ v3).setCell ⟨b, 4, none⟩ v4).setCell ⟨b, 5, none⟩ v5).setCell ⟨b, 6, none⟩ v6).setCell ⟨b, 7, none⟩ v7).setCell ⟨b, 8, none⟩ v8) b #[v0, v1, v2, v3, v4, v5, v6, v7, v8] ∧ Below base w0 (((((((((w.setCell ⟨b, 0, none⟩ v0).setCell ⟨b, 1, none⟩ v1).setCell ⟨b, 2, none⟩ v2).setCell ⟨b, 3, none⟩ v3).setCell ⟨b, 4, none⟩ v4).setCell ⟨b, 5, none⟩ v5).setCell ⟨b, 6, none⟩ v6).setCell ⟨b, 7, none⟩ v7).setCell ⟨b, 8, none⟩ v8) := by
  refine ⟨((((((((((Far.refl _ _).set 0 _).set 1 _).set 2 _).set 3 _).set 4 _).set 5 _).set 6 _).set 7 _).set 8 _), ?_, (((((((((h1.setCell (p := ⟨b, 0, none⟩) hb _).setCell (p := ⟨b, 1, none⟩) hb _).setCell (p := ⟨b, 2, none⟩) hb _).setCell (p := ⟨b, 3, none⟩) hb _).setCell (p := ⟨b, 4, none⟩) hb _).setCell (p := ⟨b, 5, none⟩) hb _).setCell (p := ⟨b, 6, none⟩) hb _).setCell (p := ⟨b, 7, none⟩) hb _).setCell (p := ⟨b, 8, none⟩) hb _)⟩
  have := (((((((((h.set 0 v0).set 1 v1).set 2 v2).set 3 v3).set 4 v4).set 5 v5).set 6 v6).set 7 v7).set 8 v8)
  simpa using this
set_option maxRecDepth 100000 in
set_option maxHeartbeats 4000000 in
theorem lives_any (w : World) : Calls Try.prog 7 #[] w (RetV (.bool true) w) := by
  have sf := store_float
  have HBN := Lib.hid (show BoxN (w.alloc (.cells oneT.cells.toArray 42)) w.heap.size 1 ⟨#[]⟩ 1 1 0 ⟨#[]⟩ 0 false 0 none 0 0 from heap_alloc_new w _)
  go_enter Try.func7, Try.ntmps7
  go_wp2_with fail
  refine wp_region_inv (last := 15) (n := 51) (B := w.heap.size + 1) (LivesD w.heap.size) (by kernel_rfl) (by kernel_rfl) (by simp) (by simp) (livesD_mono w.heap.size) ?step ?fin
  case step =>
    intro i o hi ho a w2 hsb hB hde
    have ha1 : a.tmps[1]?.getD undef = .pointer (some ⟨w.heap.size, 0, none⟩) := hsb.get 1 (by kernel_rfl) rfl
    obtain ⟨x0, x1, x2, x3, x4, x5, x6, x7, x8, x9⟩ := (HBN.out.keep (hB.mono (by simp))).cells
    have hcases : i = 0 ∨ i = 1 ∨ i = 2 ∨ i = 3 ∨ i = 4 ∨ i = 5 ∨ i = 6 ∨ i = 7 ∨ i = 8 ∨ i = 9 ∨ i = 10 ∨ i = 11 ∨ i = 12 ∨ i = 13 ∨ i = 14 := by omega
    rcases hcases with rfl | rfl | rfl | rfl | rfl | rfl | rfl | rfl | rfl | rfl | rfl | rfl | rfl | rfl | rfl
    all_goals obtain rfl := Option.some.inj (ho.symm.trans (List.getElem?_toArray.trans rfl))
    · go_simp
      exact ⟨_, rfl, below1 _ _, w2.heap.size, rfl, fun x hx => ints_blk (new_blk hx (by decide))⟩
    · go_simp
      exact ⟨_, rfl, below1 _ _, w2.heap.size, rfl, fun x hx => ints_blk (new_blk hx (by decide))⟩
    · go_simp
      exact ⟨_, rfl, Below.refl _ _, rfl⟩
    · have h2 : a.tmps[8]?.getD undef = .agg #[.int .i64 1, .bool false] := val_get 8 (D := fun v => LivesD w.heap.size 2 v w2) (hde ⟨2, .data⟩ (by simp) rfl) rfl
      go_simp
      exact ⟨_, rfl, below1 _ _, w2.heap.size, rfl, fun x hx => sorts_blk (new_blk hx (by decide))⟩
    · go_simp
      go_at_call 15
      with_reducible refine (col_any 0 w2).mono ?_
      rintro e w3 ⟨rfl, hB3⟩
      exact ⟨_, rfl, hB3, rfl⟩
    · go_simp
      exact ⟨_, rfl, Below.refl _ _, rfl⟩
    · have h4 : a.tmps[10]?.getD undef = .agg #[.int .i64 2, .string ⟨#[]⟩, .int .i64 0, .int .i64 0, .float .f64 0, .string ⟨#[]⟩, .int .i64 0, .bool false, .int .i64 1, .slice none 0 0] := val_get 10 (D := fun v => LivesD w.heap.size 4 v w2) (hde ⟨4, .data⟩ (by simp) rfl) rfl
      have h5 : a.tmps[11]?.getD undef = .agg #[.int .i64 1, .string ⟨#[]⟩, .int .i64 1, .int .i64 1, .float .f64 0, .string ⟨#[]⟩, .int .i64 0, .bool false, .int .i64 0, .slice none 0 0] := val_get 11 (D := fun v => LivesD w.heap.size 5 v w2) (hde ⟨5, .data⟩ (by simp) rfl) rfl
      go_simp
      exact ⟨_, rfl, below1 _ _, w2.heap.size, rfl, fun x hx => nodes_blk (x := colT 0) (y := oneT) (new_blk hx (by decide)) (.nil _) (.nil _)⟩
    · obtain ⟨b, h6, hN⟩ := val_get 12 (D := fun v => LivesD w.heap.size 6 v w2) (hde ⟨6, .data⟩ (by simp) rfl) rfl
      go_simp
      exact ⟨_, rfl, Below.refl _ _, b, rfl, hN⟩
    · go_simp
      exact ⟨_, rfl, Below.refl _ _, rfl⟩
    · go_simp
      go_at_call 15
      with_reducible refine (col_any 2 w2).mono ?_
      rintro e w3 ⟨rfl, hB3⟩
      exact ⟨_, rfl, hB3, rfl⟩
    · have h4 : a.tmps[14]?.getD undef = .agg #[.int .i64 1, .string ⟨#[]⟩, .int .i64 1, .int .i64 1, .float .f64 0, .string ⟨#[]⟩, .int .i64 0, .bool false, .int .i64 0, .slice none 0 0] := val_get 14 (D := fun v => LivesD w.heap.size 8 v w2) (hde ⟨8, .data⟩ (by simp) rfl) rfl
      have h5 : a.tmps[15]?.getD undef = .agg #[.int .i64 2, .string ⟨#[]⟩, .int .i64 0, .int .i64 0, .float .f64 0, .string ⟨#[]⟩, .int .i64 2, .bool false, .int .i64 1, .slice none 0 0] := val_get 15 (D := fun v => LivesD w.heap.size 9 v w2) (hde ⟨9, .data⟩ (by simp) rfl) rfl
      go_simp
      exact ⟨_, rfl, below1 _ _, w2.heap.size, rfl, fun x hx => nodes_blk (x := oneT) (y := colT 2) (new_blk hx (by decide)) (.nil _) (.nil _)⟩
    · obtain ⟨b, h6, hN⟩ := val_get 16 (D := fun v => LivesD w.heap.size 10 v w2) (hde ⟨10, .data⟩ (by simp) rfl) rfl
      go_simp
      exact ⟨_, rfl, Below.refl _ _, b, rfl, hN⟩
    · obtain ⟨b1, h4, hN1⟩ := val_get 13 (D := fun v => LivesD w.heap.size 7 v w2) (hde ⟨7, .data⟩ (by simp) rfl) rfl
      obtain ⟨b2, h5, hN2⟩ := val_get 17 (D := fun v => LivesD w.heap.size 11 v w2) (hde ⟨11, .data⟩ (by simp) rfl) rfl
      go_simp
      exact ⟨_, rfl, below1 _ _, w2.heap.size, _, rfl, ⟨b1, b2, rfl⟩, fun x hx => nodes_blk (x := cmpT ⟨#[61]⟩ b1 [colT 0, oneT]) (y := cmpT ⟨#[60]⟩ b2 [oneT, colT 2]) (new_blk hx (by decide)) (hN1 x (hx.below (below1 _ _))) (hN2 x (hx.below (below1 _ _)))⟩
    · obtain ⟨b0, h0, hN0⟩ := val_get 6 (D := fun v => LivesD w.heap.size 0 v w2) (hde ⟨0, .data⟩ (by simp) rfl) rfl
      obtain ⟨b1, h1, hN1⟩ := val_get 7 (D := fun v => LivesD w.heap.size 1 v w2) (hde ⟨1, .data⟩ (by simp) rfl) rfl
      obtain ⟨b3, h3, hN3⟩ := val_get 9 (D := fun v => LivesD w.heap.size 3 v w2) (hde ⟨3, .data⟩ (by simp) rfl) rfl
      obtain ⟨b2, l, h2, hl, hN2⟩ := val_get 18 (D := fun v => LivesD w.heap.size 12 v w2) (hde ⟨12, .data⟩ (by simp) rfl) rfl
      go_simp
      exact ⟨_, rfl, Below.refl _ _, b0, b1, b2, b3, l, rfl, hl, fun x hx => ⟨(hN0 x hx).toR, (hN1 x hx).toR, hN2 x hx, hN3 x hx⟩⟩
    · go_simp
      exact ⟨_, rfl, below1 _ _, w2.heap.size, rfl, (by have := hB.size; simp at this; omega), heap_alloc_new _ _⟩
  case fin =>
    intro o ho a w2 hsb hB hD
    obtain rfl := Option.some.inj (ho.symm.trans (List.getElem?_toArray.trans rfl))
    obtain ⟨b, h14, hbb, hbx⟩ := val_get 2 (D := fun v => LivesD w.heap.size 14 v w2) (hD 14 (by omega)) rfl
    obtain ⟨b0, b1, b2, b3, l, h13, hl, hq⟩ := val_get 19 (D := fun v => LivesD w.heap.size 13 v w2) (hD 13 (by omega)) rfl
    obtain ⟨u, hu, -⟩ := tmps_open (show a.tmps.size = 51 from hsb.2.1)
    obtain ⟨tm, df⟩ := a
    have hdf : df = [] := hsb.1
    dsimp only at hu h14 h13
    clear hsb hD ho
    change tm = #[u 0, u 1, u 2, u 3, u 4, u 5, u 6, u 7, u 8, u 9, u 10, u 11, u 12, u 13, u 14, u 15, u 16, u 17, u 18, u 19, u 20, u 21, u 22, u 23, u 24, u 25, u 26, u 27, u 28, u 29, u 30, u 31, u 32, u 33, u 34, u 35, u 36, u 37, u 38, u 39, u 40, u 41, u 42, u 43, u 44, u 45, u 46, u 47, u 48, u 49, u 50] at hu
    subst hu hdf
    change u 2 = _ at h14
    change u 19 = _ at h13
    rw [h14, h13]
    clear h14 h13
    obtain ⟨q0, q1, q2, q3, q4, q5, q6, q7, q8⟩ := box9 _ _ _ _ _ _ _ _ _ _ _ hbx
    have f0 := frozen_of_row _ _ 0 _ _ hbx
    have f1 := frozen_of_row _ _ 1 _ _ hbx
    have f2 := frozen_of_row _ _ 2 _ _ hbx
    have f3 := frozen_of_row _ _ 3 _ _ hbx
    have f4 := frozen_of_row _ _ 4 _ _ hbx
    have f5 := frozen_of_row _ _ 5 _ _ hbx
    have f6 := frozen_of_row _ _ 6 _ _ hbx
    have f7 := frozen_of_row _ _ 7 _ _ hbx
    have f8 := frozen_of_row _ _ 8 _ _ hbx
    go_simp
    have hns := nine_set (w0 := w) (base := w.heap.size) (v0 := .slice (some ⟨b0, 0, none⟩) 1 1) (v1 := .slice (some ⟨b1, 0, none⟩) 1 1) (v2 := .int .i64 3) (v3 := .slice (some ⟨b2, 0, none⟩) 2 2) (v4 := .slice none 0 0) (v5 := .bool false) (v6 := .slice none 0 0) (v7 := .slice (some ⟨b3, 0, none⟩) 1 1) (v8 := .int .i64 (-1)) hbx ((below1 w _).trans (hB.mono (Nat.le_succ _))) hbb
    generalize (((((((((w2.setCell ⟨b, 0, none⟩ (.slice (some ⟨b0, 0, none⟩) 1 1)).setCell ⟨b, 1, none⟩ (.slice (some ⟨b1, 0, none⟩) 1 1)).setCell ⟨b, 2, none⟩ (.int .i64 3)).setCell ⟨b, 3, none⟩ (.slice (some ⟨b2, 0, none⟩) 2 2)).setCell ⟨b, 4, none⟩ (.slice none 0 0)).setCell ⟨b, 5, none⟩ (.bool false)).setCell ⟨b, 6, none⟩ (.slice none 0 0)).setCell ⟨b, 7, none⟩ (.slice (some ⟨b3, 0, none⟩) 1 1)).setCell ⟨b, 8, none⟩ (.int .i64 (-1))) = w3 at hns ⊢
    obtain ⟨hag, hb3, hbw⟩ := hns
    have HQ := Lib.hid (hq w3 (hag.agree hbx))
    have HEX := Lib.hid (ex_of _ (show ExQ ⟨some ⟨b0, 0, none⟩, 1, [0], some ⟨b1, 0, none⟩, 1, [0], 3, some ⟨b2, 0, none⟩, 2, l, none, 0, 0, false, none, 0, 0, some ⟨b3, 0, none⟩, 1, [(1, false)], -1⟩ from ⟨rfl, rfl, rfl, rfl, rfl, hl⟩))
    have hll : l.length = 2 := by obtain ⟨_, _, h⟩ := hl; rw [h]; rfl
    have HOF := Lib.hid (show Calls Try.prog 10 #[.agg #[.slice (some ⟨b0, 0, none⟩) 1 1, .slice (some ⟨b1, 0, none⟩) 1 1, .int .i64 3, .slice (some ⟨b2, 0, none⟩) 2 2, .slice none 0 0, .bool false, .slice none 0 0, .slice (some ⟨b3, 0, none⟩) 1 1, .int .i64 (-1)]] w3 (RetD [(0, [0]), (0, [0, 2]), (0, [2]), (0, [1]), (0, [0, 1])] w3) from by
      have h := of10_any _ w3 HQ.out (by simp) (by show l.length ≤ 12; omega) (by simp)
      rw [HEX.out] at h
      unfold qV Qd.cells at h
      dsimp only at h
      rw [hll] at h
      exact h)
    clear q0 q1 q2 q3 q4 q5 q6 q7 q8 f0 f1 f2 f3 f4 f5 f6 f7 f8 hag hq hll
    obtain ⟨q0, q1, q2, q3, q4, q5, q6, q7, q8⟩ := box9 _ _ _ _ _ _ _ _ _ _ _ hb3
    have HBW := Lib.hid hbw
    clear hbx hb3 hbw hB hl
    go_wp2_with (first
      | (go_at_call 10; (with_reducible refine HOF.out.mono ?_); rintro e w4 ⟨ds, A, c, hL, rfl, hD, hB4⟩; obtain ⟨h5, bb, off, b1', o1, c1, b3', o3, c3, rfl, hbl, k1, k2, k3, k4⟩ := five hL hD; rw [h5]; clear hL hD h5; have HB4 := Lib.hid hB4; clear hB4)
      | fail)
    go_ret
    exact ⟨rfl, HBW.out.trans (HB4.out.mono HBW.out.size)⟩
end Go.Proofs.Ytcnkghcdjicldaa
