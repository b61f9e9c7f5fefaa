/- Rows of what expressions are bound to, while they grow. Rows that are done, seen as cells. The walk of the law BindRows: the beginning, and whether all rows are few. The walk of the document's Bind where there is no table: the parts. -/
import Derived.Test.YthdmfaepjemopaaGreatDoorQAS
import Derived.Test.YthdmfaepjemopaaGreatDoorQBF
import Derived.Test.YthdmfaepjemopaaGreatDoorQAZ
namespace Go.Proofs.YthdmfaepjemopaaGreatDoor
open Go.RowKit

structure NRow where
  B : Option Addr
  c : Nat
  vs : List (List Value)
@[reducible] def rowV (R : NRow) : Value := .slice R.B R.vs.length R.c
def NRowAt (cl : Vl → Vl) (ok : Nat → Prop) (W : World) (n : Nat) (R : NRow) (ps : List Nd) : Prop := CellsAt W 10 R.B R.vs ∧ (R.vs ≠ [] → ∀ a, R.B = some a → ok a.block) ∧ NdsAt cl ok W n R.vs ps
theorem NRowAt.keep {cl : Vl → Vl} {ok : Nat → Prop} {W W' : World} {n : Nat} {R : NRow} {ps : List Nd} (hB : Below W.heap.size W W') (h : NRowAt cl ok W n R ps) : NRowAt cl ok W' n R ps := ⟨CellsAt.keep hB h.1, h.2.1, h.2.2.keep hB⟩
theorem NRowAt.grown {cl : Vl → Vl} {ok : Nat → Prop} {W W' : World} {n : Nat} {R : NRow} {ps : List Nd} {r : Option Nat} (h : NRowAt cl ok W n R ps) (hg : W.grownBy W' r) (hr : ∀ b, ok b → some b ≠ r) : NRowAt cl ok W' n R ps :=
  ⟨h.1.grown hg (fun hv a ha => hr _ (h.2.1 hv a ha)), h.2.1, h.2.2.grown hg hr⟩
theorem NRowAt.mono {cl : Vl → Vl} {ok ok' : Nat → Prop} {W : World} {n : Nat} {R : NRow} {ps : List Nd} (h : NRowAt cl ok W n R ps) (hk : ∀ b, ok b → b < W.heap.size → ok' b) : NRowAt cl ok' W n R ps :=
  ⟨h.1, fun hv a ha => hk _ (h.2.1 hv a ha) (h.1.block hv a ha), h.2.2.mono hk⟩
def NRowsAt (cl : Vl → Vl) (ok : Nat → Prop) (W : World) (n : Nat) (RS : List NRow) (pss : List (List Nd)) : Prop := RS.length = pss.length ∧ ∀ (i : Nat) (R : NRow) (ps : List Nd), RS[i]? = some R → pss[i]? = some ps → NRowAt cl ok W n R ps
theorem NRowsAt.keep {cl : Vl → Vl} {ok : Nat → Prop} {W W' : World} {n : Nat} {RS : List NRow} {pss : List (List Nd)} (hB : Below W.heap.size W W') (h : NRowsAt cl ok W n RS pss) : NRowsAt cl ok W' n RS pss := ⟨h.1, fun i R ps h1 h2 => (h.2 i R ps h1 h2).keep hB⟩
theorem NRowsAt.grown {cl : Vl → Vl} {ok : Nat → Prop} {W W' : World} {n : Nat} {RS : List NRow} {pss : List (List Nd)} {r : Option Nat} (h : NRowsAt cl ok W n RS pss) (hg : W.grownBy W' r) (hr : ∀ b, ok b → some b ≠ r) : NRowsAt cl ok W' n RS pss := ⟨h.1, fun i R ps h1 h2 => (h.2 i R ps h1 h2).grown hg hr⟩
theorem NRowsAt.mono {cl : Vl → Vl} {ok ok' : Nat → Prop} {W : World} {n : Nat} {RS : List NRow} {pss : List (List Nd)} (h : NRowsAt cl ok W n RS pss) (hk : ∀ b, ok b → b < W.heap.size → ok' b) : NRowsAt cl ok' W n RS pss := ⟨h.1, fun i R ps h1 h2 => (h.2 i R ps h1 h2).mono hk⟩
theorem NRowsAt.app {cl : Vl → Vl} {ok : Nat → Prop} {W : World} {n : Nat} {RS : List NRow} {pss : List (List Nd)} {R : NRow} {ps : List Nd} (h : NRowsAt cl ok W n RS pss) (hR : NRowAt cl ok W n R ps) : NRowsAt cl ok W n (RS ++ [R]) (pss ++ [ps]) := by
  refine ⟨by rw [List.length_append, List.length_append, h.1]; rfl, fun i y q hy hq => ?_⟩
  by_cases hi : i < RS.length
  · rw [List.getElem?_append_left hi] at hy
    rw [List.getElem?_append_left (by rw [← h.1]; exact hi)] at hq
    exact h.2 i y q hy hq
  · rw [List.getElem?_append_right (by omega)] at hy
    rw [List.getElem?_append_right (by rw [← h.1]; omega), ← h.1] at hq
    have hi0 : i - RS.length = 0 := by
      have := (List.getElem?_eq_some_iff.1 hy).1
      simpa using this
    rw [hi0] at hy hq
    cases hy
    cases hq
    exact hR
def okQ (base : Nat) (v6 v8 : Value) (b : Nat) : Prop := base ≤ b ∧ v6.ownBlock ≠ some b ∧ v8.ownBlock ≠ some b
structure DR (cl : Vl → Vl) (n : Nat) (w : World) (bs : List Obj) (base : Nat) (v6 : Value) (RS : List NRow) (pss : List (List Nd)) (v8 : Value) (vs : List (List Value)) (ps : List Nd) (W : World) : Prop where
  bx : BX w bs W
  hb : w.heap.size + bs.length = base
  hz : base ≤ W.heap.size
  own6 : W.ownsRow base 45 1 v6 RS.length (RS.map rowV)
  own8 : W.ownsRow base 54 10 v8 vs.length vs.flatten
  ne : ∀ b, v6.ownBlock = some b → v8.ownBlock ≠ some b
  rows : NRowsAt cl (okQ base v6 v8) W n RS pss
  nds : NdsAt cl (okQ base v6 v8) W n vs ps
  lens : ∀ x ∈ vs, x.length = 10
theorem DR.keep {cl : Vl → Vl} {n : Nat} {w : World} {bs : List Obj} {base : Nat} {v6 : Value} {RS : List NRow} {pss : List (List Nd)} {v8 : Value} {vs : List (List Value)} {ps : List Nd} {W W' : World} (h : DR cl n w bs base v6 RS pss v8 vs ps W) (hB : Below W.heap.size W W') : DR cl n w bs base v6 RS pss v8 vs ps W' :=
  ⟨h.bx.keep hB, h.hb, Nat.le_trans h.hz hB.size, own_kept h.own6 hB (Nat.le_refl _), own_kept h.own8 hB (Nat.le_refl _), h.ne, h.rows.keep hB, h.nds.keep hB, h.lens⟩
theorem DR.app8 {cl : Vl → Vl} {n : Nat} {w : World} {bs : List Obj} {base : Nat} {v6 : Value} {RS : List NRow} {pss : List (List Nd)} {v8 : Value} {vs : List (List Value)} {ps : List Nd} {W W1 W2 : World} {x : List Value} {p : Nd} (h : DR cl n w bs base v6 RS pss v8 vs ps W) (hB : Below W.heap.size W W1) (hx : NdAt cl (W.heap.size ≤ ·) W1 n x p)
    {v' : Value} (hown : W2.ownsRow base 54 10 v' (vs.length + 1) (vs.flatten ++ x)) (hg : W1.grownBy W2 v8.ownBlock) (hv : v'.ownBlock = v8.ownBlock ∨ v'.ownBlock = some W1.heap.size) : DR cl n w bs base v6 RS pss v' (vs ++ [x]) (ps ++ [p]) W2 := by
  have h1 := h.keep hB
  have hb6 := own_base h1.own6
  have hb8 := own_base h1.own8
  have hc6 := own_base h.own6
  have hc8 := own_base h.own8
  have hbb := h.hb
  have hz := h.hz
  have hz1 := h1.hz
  have hsz := hB.size
  have ok' : ∀ b, b < W1.heap.size → v8.ownBlock ≠ some b → v'.ownBlock ≠ some b := fun b h1 h2 e => by
    rcases hv with hv | hv
    · rw [hv] at e; exact h2 e
    · rw [hv] at e; cases e; omega
  refine ⟨h1.bx.grown2 hg (fun b e => by have := (hb8 b e).1; omega) (by omega), hbb, Nat.le_trans hz1 hg.size, own_grown h1.own6 hg (fun b hb2 e => h.ne b hb2 e.symm), ?_, fun b e e2 => ?_, ?_, ?_, ?_⟩
  · rw [List.length_append, List.flatten_append]
    simpa using hown
  · rcases hv with hv | hv
    · rw [hv] at e2; exact h.ne b e e2
    · rw [hv] at e2; have := (hb6 b e).2; cases e2; omega
  · have g1 : NRowsAt cl (fun b => okQ base v6 v8 b ∧ b < W1.heap.size) W1 n RS pss := h1.rows.mono fun b hk hl => ⟨hk, hl⟩
    have g2 := g1.grown hg (fun b hk e => hk.1.2.2 e.symm)
    exact g2.mono fun b hk _ => ⟨hk.1.1, hk.1.2.1, ok' b hk.2 hk.1.2.2⟩
  · have hold : NdsAt cl (okQ base v6 v') W2 n vs ps := by
      have g1 : NdsAt cl (fun b => okQ base v6 v8 b ∧ b < W1.heap.size) W1 n vs ps := h1.nds.mono fun b hk hl => ⟨hk, hl⟩
      have g2 := g1.grown hg (fun b hk e => hk.1.2.2 e.symm)
      exact g2.mono fun b hk _ => ⟨hk.1.1, hk.1.2.1, ok' b hk.2 hk.1.2.2⟩
    have hnew : NdAt cl (okQ base v6 v') W2 n x p := by
      have g1 : NdAt cl (fun b => W.heap.size ≤ b ∧ b < W1.heap.size) W1 n x p := hx.mono fun b hk hl => ⟨hk, hl⟩
      have hne8 : ∀ b, W.heap.size ≤ b → v8.ownBlock ≠ some b := fun b hk e => by have := (hc8 b e).2; omega
      have hne6 : ∀ b, W.heap.size ≤ b → v6.ownBlock ≠ some b := fun b hk e => by have := (hc6 b e).2; omega
      have g2 := g1.grown hg (fun b hk e => hne8 b hk.1 e.symm)
      exact g2.mono fun b hk _ => ⟨by omega, hne6 b hk.1, ok' b hk.2 (hne8 b hk.1)⟩
    exact hold.app ⟨rfl, fun i y q hy hq => by
      have hi : i = 0 := by have := (List.getElem?_eq_some_iff.1 hy).1; simpa using this
      subst hi
      cases hy
      cases hq
      exact hnew⟩
  · intro y hy
    rcases List.mem_append.1 hy with hy | hy
    · exact h.lens y hy
    · obtain rfl : y = x := by simpa using hy
      exact hx.len
theorem DR.done {cl : Vl → Vl} {n : Nat} {w : World} {bs : List Obj} {base : Nat} {v6 : Value} {RS : List NRow} {pss : List (List Nd)} {B : Option Addr} {c : Nat} {vs : List (List Value)} {ps : List Nd} {W W1 W2 : World} (h : DR cl n w bs base v6 RS pss (.slice B vs.length c) vs ps W) (hB : Below W.heap.size W W1)
    {v' : Value} (hown : W2.ownsRow base 45 1 v' (RS.length + 1) (RS.map rowV ++ [.slice B vs.length c])) (hg : W1.grownBy W2 v6.ownBlock) (hv : v'.ownBlock = v6.ownBlock ∨ v'.ownBlock = some W1.heap.size) : DR cl n w bs base v' (RS ++ [⟨B, c, vs⟩]) (pss ++ [ps]) (.slice none 0 0) [] [] W2 := by
  have h1 := h.keep hB
  have hb6 := own_base h1.own6
  have hb8 := own_base h1.own8
  have hbb := h.hb
  have hz1 := h1.hz
  have ok' : ∀ b, b < W1.heap.size → v6.ownBlock ≠ some b → v'.ownBlock ≠ some b := fun b h1 h2 e => by
    rcases hv with hv | hv
    · rw [hv] at e; exact h2 e
    · rw [hv] at e; cases e; omega
  obtain ⟨A', c', he, _, hC, hbl, _⟩ := own_cells h1.own8 h1.lens rfl
  injection he with hq1 hq2 hq3
  subst hq1
  have hne : vs ≠ [] → ∀ a, B = some a → v6.ownBlock ≠ some a.block := by
    intro hvs a ha e
    refine h.ne _ e ?_
    rcases hC.2 with h0 | ⟨b, off, e1, _⟩
    · exact absurd h0 hvs
    · rcases h1.own8.2 with ⟨e2, _⟩ | ⟨g, cap, cur, e2, _⟩
      · rw [ha] at e2; injection e2 with e3; cases e3
      · rw [e2]
        injection e2 with e3
        rw [ha] at e3
        cases e3
        rfl
  refine ⟨h1.bx.grown2 hg (fun b e => by have := (hb6 b e).1; omega) (by omega), hbb, Nat.le_trans hz1 hg.size, ?_, World.ownsRow_nil _ _ _ _, fun b _ e => (by cases e), ?_, ⟨rfl, fun i x q h => (by cases h)⟩, fun x hx => (List.not_mem_nil hx).elim⟩
  · rw [List.length_append, List.map_append]
    exact hown
  · have hold : NRowsAt cl (okQ base v' (.slice none 0 0)) W2 n RS pss := by
      have g1 : NRowsAt cl (fun b => okQ base v6 (.slice B vs.length c) b ∧ b < W1.heap.size) W1 n RS pss := h1.rows.mono fun b hk hl => ⟨hk, hl⟩
      have g2 := g1.grown hg (fun b hk e => hk.1.2.1 e.symm)
      exact g2.mono fun b hk _ => ⟨hk.1.1, ok' b hk.2 hk.1.2.1, fun e => by cases e⟩
    refine hold.app ?_
    have g1 : NRowAt cl (fun b => (base ≤ b ∧ v6.ownBlock ≠ some b) ∧ b < W1.heap.size) W1 n ⟨B, c, vs⟩ ps :=
      ⟨hC, fun hvs a ha => ⟨⟨(hbl a ha).1, hne hvs a ha⟩, (hbl a ha).2⟩, h1.nds.mono fun b hk hl => ⟨⟨hk.1, hk.2.1⟩, hl⟩⟩
    have g2 := g1.grown hg (fun b hk e => hk.1.2 e.symm)
    exact g2.mono fun b hk _ => ⟨hk.1.1, ok' b hk.2 hk.1.2, fun e => by cases e⟩
end Go.Proofs.YthdmfaepjemopaaGreatDoor
namespace Go.Proofs.YthdmfaepjemopaaGreatDoor
open Go.RowKit

theorem info45 : (Tryz.prog.info? 45).map (fun i => (i.zero, i.size, i.bytes)) = some (some (.slice none 0 0), 1, 24) := by kernel_rfl
theorem rowV_flat : ∀ RS : List NRow, (RS.map fun R => [rowV R]).flatten = RS.map rowV
  | [] => rfl
  | R :: RS => by
    rw [List.map_cons, List.flatten_cons, rowV_flat RS]
    rfl
structure XRowsAt (W : World) (n : Nat) (LA : Option Addr) (l : List XRow) : Prop where
  cells : CellsAt W 1 LA (l.map fun r => [.slice r.A r.xs.length r.c])
  rows : ∀ r ∈ l, CellsAt W 10 r.A (r.xs.map exL)
  exs : ∀ r ∈ l, ∀ y ∈ r.xs, ExAt W n y ∧ SmallX n y
theorem XRowsAt.keep {W W' : World} {n : Nat} {LA : Option Addr} {l : List XRow} (h : XRowsAt W n LA l) (hB : Below W.heap.size W W') : XRowsAt W' n LA l :=
  ⟨CellsAt.keep hB h.cells, fun r hr => CellsAt.keep hB (h.rows r hr), fun r hr y hy => ⟨(h.exs r hr y hy).1.keep hB, (h.exs r hr y hy).2⟩⟩
theorem DR.cells {cl : Vl → Vl} {n : Nat} {w : World} {bs : List Obj} {base : Nat} {v6 : Value} {RS : List NRow} {pss : List (List Nd)} {v8 : Value} {vs : List (List Value)} {ps : List Nd} {W : World} (h : DR cl n w bs base v6 RS pss v8 vs ps W) : ∃ A c, v6 = .slice A RS.length c ∧ CellsAt W 1 A (RS.map fun R => [rowV R]) ∧ (∀ a, A = some a → base ≤ a.block) := by
  have h6 := h.own6
  rw [← rowV_flat] at h6
  obtain ⟨A, c, e, _, hC, hb, _⟩ := own_cells h6 (fun x hx => by
    obtain ⟨R, _, rfl⟩ := List.mem_map.1 hx
    rfl) (List.length_map _).symm
  exact ⟨A, c, e, hC, fun a ha => (hb a ha).1⟩
end Go.Proofs.YthdmfaepjemopaaGreatDoor
namespace Go.Proofs.YthdmfaepjemopaaGreatDoor
open Go.RowKit

noncomputable def rlC (k : Nat) : Code := dropC k (Tryz.f5.body.getD .skip)
set_option maxRecDepth 100000 in
theorem open74 {a : Act} (h : a.tmps.size = 74) : ∃ u : Nat → Value, a.tmps = #[u 0, u 1, u 2, u 3, u 4, u 5, u 6, u 7, u 8, u 9, u 10, u 11, u 12, u 13, u 14, u 15, u 16, u 17, u 18, u 19, u 20, u 21, u 22, u 23, u 24, u 25, u 26, u 27, u 28, u 29, u 30, u 31, u 32, u 33, u 34, u 35, u 36, u 37, u 38, u 39, u 40, u 41, u 42, u 43, u 44, u 45, u 46, u 47, u 48, u 49, u 50, u 51, u 52, u 53, u 54, u 55, u 56, u 57, u 58, u 59, u 60, u 61, u 62, u 63, u 64, u 65, u 66, u 67, u 68, u 69, u 70, u 71, u 72, u 73] ∧ ∀ t, t < 74 → a.tmps.getD t undef = u t := by
  refine ⟨fun t => a.tmps.getD t undef, ?_, fun t _ => rfl⟩
  have e : a.tmps = ((List.range 74).map fun t => a.tmps.getD t undef).toArray := by
    apply Array.ext
    · simp [h]
    · intro i h1 h2
      simp [h1]
  exact e
structure S5 (w : World) (LA : Option Addr) (m lc : Nat) (a : Act) : Prop where
  size : a.tmps.size = 74
  df : a.defers = []
  s1 : a.tmps.getD 1 undef = .slice LA m lc
  s2 : a.tmps.getD 2 undef = .pointer (some ⟨w.heap.size, 0, none⟩)
  s4 : a.tmps.getD 4 undef = .bool false
structure YRowsAt (W : World) (n : Nat) (LA : Option Addr) (l : List XRow) : Prop where
  cells : CellsAt W 1 LA (l.map fun r => [.slice r.A r.xs.length r.c])
  rows : ∀ r ∈ l, ExsAt W n r.A r.xs ∧ ∀ y ∈ r.xs, StrX n y
theorem YRowsAt.few {W : World} {n : Nat} {LA : Option Addr} {l : List XRow} (h : YRowsAt W n LA l) (hf : ∀ r ∈ l, fewR n r.xs = true) : XRowsAt W n LA l :=
  ⟨h.cells, fun r hr => (h.rows r hr).1.1, fun r hr y hy => ⟨(h.rows r hr).1.2 y hy, small_cnt (Nat.le_trans (size_cnt n _ 400 ((few_iff.1 (hf r hr)).2 y hy)) ((few_iff.1 (hf r hr)).2 y hy))⟩⟩
set_option maxRecDepth 100000 in
set_option maxHeartbeats 16000000 in
theorem rl_c (_n : Nat) (w : World) (tn : ByteArray) (ca : Option Addr) (cs : List Col) (cc : Nat) (ro ne rn : Int) (LA : Option Addr) (l : List XRow) (lc : Nat) (hc : 12 < cs.length) : Calls Tryz.prog 5 #[.agg #[.string tn, .slice ca cs.length cc, .int .i64 ro, .int .i64 ne, .int .i64 rn], .slice LA l.length lc] w (RetV (.bool true) w) := by
  obtain ⟨m, hm⟩ : ∃ m, m = l.length := ⟨_, rfl⟩
  have HML := Lib.hid hm
  rw [← hm]
  clear hm
  have HL := lives_any
  have h1 : ((12 : Int) < (cs.length : Int)) = True := eq_true (by omega)
  clear hc
  go_enter Tryz.func5, Tryz.ntmps5
  go_wp2_with (first
    | (go_at_call 6; (with_reducible refine (HL _).mono ?_); rintro e w1 ⟨rfl, hB1⟩
       have HB1 := Lib.hid ((BX.one w (.cells #[.string tn, .slice ca cs.length cc, .int .i64 ro, .int .i64 ne, .int .i64 rn] 65)).keep hB1)
       obtain ⟨t0, t1, t2, t3, t4⟩ : w1.cell? ⟨w.heap.size, 0, none⟩ = some (.string tn) ∧ w1.cell? ⟨w.heap.size, 1, none⟩ = some (.slice ca cs.length cc) ∧ w1.cell? ⟨w.heap.size, 2, none⟩ = some (.int .i64 ro) ∧ w1.cell? ⟨w.heap.size, 3, none⟩ = some (.int .i64 ne) ∧ w1.cell? ⟨w.heap.size, 4, none⟩ = some (.int .i64 rn) := ⟨cell_of_row _ _ 0 _ _ _ (HB1.out.row0 _ _ rfl), cell_of_row _ _ 1 _ _ _ (HB1.out.row0 _ _ rfl), cell_of_row _ _ 2 _ _ _ (HB1.out.row0 _ _ rfl), cell_of_row _ _ 3 _ _ _ (HB1.out.row0 _ _ rfl), cell_of_row _ _ 4 _ _ _ (HB1.out.row0 _ _ rfl)⟩
       have l1 := heap_lt (HB1.out.row0 _ _ rfl)
       clear hB1)
    | (go_at_call 6; (with_reducible refine (HL _).mono ?_); rintro e w2 ⟨rfl, hB2⟩; have HB2 := Lib.hid hB2; clear hB2)
    | fail)
  go_ret
  exact ⟨rfl, HB1.out.below.trans (HB2.out.mono HB1.out.below.size)⟩
set_option maxRecDepth 100000 in
set_option maxHeartbeats 16000000 in
theorem rl_m (_n : Nat) (w : World) (tn : ByteArray) (ca : Option Addr) (cs : List Col) (cc : Nat) (ro ne rn : Int) (LA : Option Addr) (l : List XRow) (lc : Nat) (hc : cs.length ≤ 12) (hl : 20 < l.length) : Calls Tryz.prog 5 #[.agg #[.string tn, .slice ca cs.length cc, .int .i64 ro, .int .i64 ne, .int .i64 rn], .slice LA l.length lc] w (RetV (.bool true) w) := by
  obtain ⟨m, hm⟩ : ∃ m, m = l.length := ⟨_, rfl⟩
  have HML := Lib.hid hm
  rw [← hm]
  clear hm
  have HL := lives_any
  have h1 : ((12 : Int) < (cs.length : Int)) = False := eq_false (by omega)
  have h2 : ((20 : Int) < (m : Int)) = True := eq_true (by have := HML.out; omega)
  clear hc hl
  go_enter Tryz.func5, Tryz.ntmps5
  go_wp2_with (first
    | (go_at_call 6; (with_reducible refine (HL _).mono ?_); rintro e w1 ⟨rfl, hB1⟩
       have HB1 := Lib.hid ((BX.one w (.cells #[.string tn, .slice ca cs.length cc, .int .i64 ro, .int .i64 ne, .int .i64 rn] 65)).keep hB1)
       obtain ⟨t0, t1, t2, t3, t4⟩ : w1.cell? ⟨w.heap.size, 0, none⟩ = some (.string tn) ∧ w1.cell? ⟨w.heap.size, 1, none⟩ = some (.slice ca cs.length cc) ∧ w1.cell? ⟨w.heap.size, 2, none⟩ = some (.int .i64 ro) ∧ w1.cell? ⟨w.heap.size, 3, none⟩ = some (.int .i64 ne) ∧ w1.cell? ⟨w.heap.size, 4, none⟩ = some (.int .i64 rn) := ⟨cell_of_row _ _ 0 _ _ _ (HB1.out.row0 _ _ rfl), cell_of_row _ _ 1 _ _ _ (HB1.out.row0 _ _ rfl), cell_of_row _ _ 2 _ _ _ (HB1.out.row0 _ _ rfl), cell_of_row _ _ 3 _ _ _ (HB1.out.row0 _ _ rfl), cell_of_row _ _ 4 _ _ _ (HB1.out.row0 _ _ rfl)⟩
       have l1 := heap_lt (HB1.out.row0 _ _ rfl)
       clear hB1)
    | (go_at_call 6; (with_reducible refine (HL _).mono ?_); rintro e w2 ⟨rfl, hB2⟩; have HB2 := Lib.hid hB2; clear hB2)
    | fail)
  go_ret
  exact ⟨rfl, HB1.out.below.trans (HB2.out.mono HB1.out.below.size)⟩
set_option maxRecDepth 100000 in
set_option maxHeartbeats 16000000 in
theorem rl_g (_n : Nat) (w : World) (tn : ByteArray) (ca : Option Addr) (cs : List Col) (cc : Nat) (ro ne rn : Int) (LA : Option Addr) (l : List XRow) (lc : Nat) (hc : cs.length ≤ 12) (hl : l.length ≤ 20) (HSEG : ∀ a W, S5 w LA l.length lc a → BX w [.cells #[.string tn, .slice ca cs.length cc, .int .i64 ro, .int .i64 ne, .int .i64 rn] 65] W → (rlC 2).wp Tryz.prog (bodyPost Tryz.prog Tryz.f5 (RetV (.bool true) w)) a W) : Calls Tryz.prog 5 #[.agg #[.string tn, .slice ca cs.length cc, .int .i64 ro, .int .i64 ne, .int .i64 rn], .slice LA l.length lc] w (RetV (.bool true) w) := by
  obtain ⟨m, hm⟩ : ∃ m, m = l.length := ⟨_, rfl⟩
  have HML := Lib.hid hm
  rw [← hm]
  rw [← hm] at HSEG
  clear hm
  have HS := Lib.hid HSEG
  clear HSEG
  have HL := lives_any
  have h1 : ((12 : Int) < (cs.length : Int)) = False := eq_false (by omega)
  have h2 : ((20 : Int) < (m : Int)) = False := eq_false (by have := HML.out; omega)
  clear hc hl
  go_enter Tryz.func5, Tryz.ntmps5
  refine wp_seq_k fun K0 hK0 => ?_
  have HK0 := Lib.hid hK0
  clear hK0
  go_wp2_with fail
  refine HK0.out _ _ ?_
  refine wp_seq_k fun K1 hK1 => ?_
  have HK1 := Lib.hid (show ∀ a w', (rlC 2).wp Tryz.prog (bodyPost Tryz.prog Tryz.f5 (RetV (.bool true) w)) a w' → K1 a w' from hK1)
  clear hK1
  go_wp2_with (first
    | (go_at_call 6; (with_reducible refine (HL _).mono ?_); rintro e w1 ⟨rfl, hB1⟩
       have HB1 := Lib.hid ((BX.one w (.cells #[.string tn, .slice ca cs.length cc, .int .i64 ro, .int .i64 ne, .int .i64 rn] 65)).keep hB1)
       obtain ⟨t0, t1, t2, t3, t4⟩ : w1.cell? ⟨w.heap.size, 0, none⟩ = some (.string tn) ∧ w1.cell? ⟨w.heap.size, 1, none⟩ = some (.slice ca cs.length cc) ∧ w1.cell? ⟨w.heap.size, 2, none⟩ = some (.int .i64 ro) ∧ w1.cell? ⟨w.heap.size, 3, none⟩ = some (.int .i64 ne) ∧ w1.cell? ⟨w.heap.size, 4, none⟩ = some (.int .i64 rn) := ⟨cell_of_row _ _ 0 _ _ _ (HB1.out.row0 _ _ rfl), cell_of_row _ _ 1 _ _ _ (HB1.out.row0 _ _ rfl), cell_of_row _ _ 2 _ _ _ (HB1.out.row0 _ _ rfl), cell_of_row _ _ 3 _ _ _ (HB1.out.row0 _ _ rfl), cell_of_row _ _ 4 _ _ _ (HB1.out.row0 _ _ rfl)⟩
       have l1 := heap_lt (HB1.out.row0 _ _ rfl)
       clear hB1)
    | fail)
  refine HK1.out _ _ (HS.out _ _ ⟨?_, ?_, ?_, ?_, ?_⟩ HB1.out)
  all_goals rfl
set_option maxRecDepth 100000 in
set_option maxHeartbeats 16000000 in
theorem rl2 (n : Nat) (w : World) (tn : ByteArray) (ca : Option Addr) (cs : List Col) (cc : Nat) (ro ne rn : Int) (LA : Option Addr) (l : List XRow) (lc : Nat) (hX : YRowsAt w n LA l) (hl : l.length ≤ 20) (HSEG : (∀ r ∈ l, fewR n r.xs = true) → ∀ a W, S5 w LA l.length lc a → BX w [.cells #[.string tn, .slice ca cs.length cc, .int .i64 ro, .int .i64 ne, .int .i64 rn] 65] W → (rlC 3).wp Tryz.prog (bodyPost Tryz.prog Tryz.f5 (RetV (.bool true) w)) a W)
    (a : Act) (W : World) (hS : S5 w LA l.length lc a) (hM : BX w [.cells #[.string tn, .slice ca cs.length cc, .int .i64 ro, .int .i64 ne, .int .i64 rn] 65] W) : (rlC 2).wp Tryz.prog (bodyPost Tryz.prog Tryz.f5 (RetV (.bool true) w)) a W := by
  have HSEG := Lib.hid HSEG
  have HX := Lib.hid hX
  have HM := Lib.hid hM
  obtain ⟨m, hm⟩ : ∃ m, m = l.length := ⟨_, rfl⟩
  have HML := Lib.hid hm
  rw [← hm] at hS hl HSEG
  clear hX hM hm
  obtain ⟨u, hu, hug⟩ := open74 hS.size
  have p1 := hS.s1; have p2 := hS.s2; have p4 := hS.s4
  have hdf := hS.df
  rw [hug _ (by omega)] at p1 p2 p4
  obtain ⟨tm, df⟩ := a
  dsimp only at hu hdf
  subst hu hdf
  clear hS hug
  rw [p1, p2, p4]
  clear p1 p2 p4
  conv => arg 2; whnf
  refine wp_seq_k fun K hK => ?_
  have HK := Lib.hid (show ∀ a w', (rlC 3).wp Tryz.prog (bodyPost Tryz.prog Tryz.f5 (RetV (.bool true) w)) a w' → K a w' from hK)
  clear hK
  go_wp2_with fail
  refine wp_loop (fun a' wr => S5 w LA m lc a' ∧ a'.tmps.getD 26 undef = .slice LA m lc ∧ a'.tmps.getD 27 undef = .int .i64 m ∧ ∃ (i : Nat), i ≤ m ∧ a'.tmps.getD 28 undef = .int .i64 i ∧ Hid (∀ j r, j < i → l[j]? = some r → fewR n r.xs = true) ∧ Hid (BX w [.cells #[.string tn, .slice ca cs.length cc, .int .i64 ro, .int .i64 ne, .int .i64 rn] 65] wr)) (fun a' _ => m - (intOf (a'.tmps.getD 28 undef)).toNat) ?start ?round
  case start =>
    refine ⟨⟨?_, ?_, ?_, ?_, ?_⟩, ?_, ?_, 0, Nat.zero_le _, ?_, Lib.hid fun j r h => absurd h (Nat.not_lt_zero _), HM⟩
    all_goals rfl
  case round =>
    clear HM
    rintro a wr ⟨hS, h26, h27, i, hi, h28, HF, HM⟩
    obtain ⟨u, hu, hug⟩ := open74 hS.size
    have p1 := hS.s1; have p2 := hS.s2; have p4 := hS.s4
    have hdf := hS.df
    rw [hug _ (by omega)] at p1 p2 p4 h26 h27 h28
    obtain ⟨tm, df⟩ := a
    dsimp only at hu hdf
    subst hu hdf
    clear hS hug
    rw [p1, p2, p4, h26, h27, h28]
    clear p1 p2 p4 h26 h27 h28
    by_cases him : i < m
    · have hin : ((i : Int) < (m : Int)) = True := eq_true (by omega)
      obtain ⟨r, hr⟩ : ∃ r, l[i]? = some r := ⟨_, List.getElem?_eq_getElem (by have := HML.out; omega)⟩
      have HJ := Lib.hid hr
      have HMEM := Lib.hid (List.mem_of_getElem? hr)
      obtain ⟨lb, lo, rfl, hlb, hlc⟩ := setl_at HX.out.cells (x := [.slice r.A r.xs.length r.c]) (by rw [List.getElem?_map, hr]; rfl)
      have hlr : wr.cell? ⟨lb, lo + i, none⟩ = some (.slice r.A r.xs.length r.c) := by
        have h := cell_kept (hlc 0 _ rfl) HM.out.below
        simpa using h
      have HC := Lib.hid (few_any n r.A r.c r.xs wr ⟨CellsAt.keep HM.out.below (HX.out.rows r HMEM.out).1.1, fun y hy => ((HX.out.rows r HMEM.out).1.2 y hy).keep HM.out.below⟩ (HX.out.rows r HMEM.out).2)
      clear hr hlc
      cases hf : fewR n r.xs with
      | false =>
        rw [hf] at HC
        clear hf
        go_wp2_with (first
          | (go_at_call 8; (with_reducible refine HC.out.mono ?_); rintro e w5 ⟨rfl, hB5⟩; have HB5 := Lib.hid hB5; clear hB5)
          | fail)
        exact bodyPost_ret (results_tmp rfl _ _ _) rfl ⟨rfl, HM.out.below.trans (HB5.out.mono HM.out.below.size)⟩
      | true =>
        rw [hf] at HC
        have HF2 := Lib.hid (show ∀ j r, j < i + 1 → l[j]? = some r → fewR n r.xs = true from fun j r' hj hr' => by
          by_cases e : j = i
          · subst e
            have := HJ.out
            rw [hr'] at this
            cases this
            exact hf
          · exact HF.out j r' (by omega) hr')
        clear hf
        go_wp2_with (first
          | (go_at_call 8; (with_reducible refine HC.out.mono ?_); rintro e w5 ⟨rfl, hB5⟩; have HB5 := Lib.hid (HM.out.keep hB5); clear hB5)
          | fail)
        refine ⟨⟨⟨?_, ?_, ?_, ?_, ?_⟩, ?_, ?_, i + 1, by omega, ?_, HF2, HB5⟩, ?_⟩
        all_goals first | rfl | skip
        show m - (intOf (.int .i64 _)).toNat < m - (intOf (.int .i64 _)).toNat
        simp [intOf] <;> omega
    · obtain rfl : i = m := by omega
      have hin : ((i : Int) < (i : Int)) = False := eq_false (by omega)
      go_wp2_with fail
      refine HK.out _ _ (HSEG.out (fun r hr => ?_) _ _ ⟨?_, ?_, ?_, ?_, ?_⟩ HM.out)
      · obtain ⟨j, hj, e⟩ := List.mem_iff_getElem.1 hr
        exact HF.out j r (by have := HML.out; omega) (by rw [List.getElem?_eq_getElem hj, e])
      all_goals rfl
end Go.Proofs.YthdmfaepjemopaaGreatDoor
namespace Go.Proofs.YthdmfaepjemopaaGreatDoor
open Go.RowKit

theorem set_nd {n : Nat} {W : World} {z : Nat} (p : Nd) (A : Option Addr) (c q : Nat) {u0 u1 u2 u3 u4 u5 u6 u7 u8 u9 : Value} (h : NdAt clD (fun b => z < b) W n (ndL p (clD p.lit) A q c) p) : NdAt clD (z ≤ ·) ((((((((((W.setCell ⟨z, 0, none⟩ u0).setCell ⟨z, 1, none⟩ u1).setCell ⟨z, 2, none⟩ u2).setCell ⟨z, 3, none⟩ u3).setCell ⟨z, 4, none⟩ u4).setCell ⟨z, 5, none⟩ u5).setCell ⟨z, 6, none⟩ u6).setCell ⟨z, 7, none⟩ u7).setCell ⟨z, 8, none⟩ u8).setCell ⟨z, 9, none⟩ u9) n (ndL p (clD p.lit) A q c) p := by
  refine NdAt.mono (ok := fun b => z < b) (fun b hb _ => Nat.le_of_lt hb) ?_
  iterate 10 refine NdAt.set ?_ (fun b hb => by omega)
  exact h
theorem arm_a {n : Nat} {wr w5 : World} {p : Nd} {A : Option Addr} {c q : Nat} (hB5 : Below (wr.alloc (.cells #[.int .i64 0, .string ⟨#[]⟩, .int .i64 0, .int .i64 0, .float .f64 0, .string ⟨#[]⟩, .int .i64 0, .bool false, .int .i64 0, .slice none 0 0] 54)).drew.heap.size (wr.alloc (.cells #[.int .i64 0, .string ⟨#[]⟩, .int .i64 0, .int .i64 0, .float .f64 0, .string ⟨#[]⟩, .int .i64 0, .bool false, .int .i64 0, .slice none 0 0] 54)).drew w5) (hN5 : NdAt clD ((wr.alloc (.cells #[.int .i64 0, .string ⟨#[]⟩, .int .i64 0, .int .i64 0, .float .f64 0, .string ⟨#[]⟩, .int .i64 0, .bool false, .int .i64 0, .slice none 0 0] 54)).drew.heap.size ≤ ·) w5 n (ndL p (clD p.lit) A q c) p) :
    Below wr.heap.size wr ((((((((((w5.setCell ⟨wr.heap.size, 0, none⟩ (.int .i64 p.kind)).setCell ⟨wr.heap.size, 1, none⟩ (.string p.op)).setCell ⟨wr.heap.size, 2, none⟩ (.int .i64 (clD p.lit).k)).setCell ⟨wr.heap.size, 3, none⟩ (.int .i64 (clD p.lit).n)).setCell ⟨wr.heap.size, 4, none⟩ (.float .f64 (clD p.lit).f)).setCell ⟨wr.heap.size, 5, none⟩ (.string (clD p.lit).s)).setCell ⟨wr.heap.size, 6, none⟩ (.int .i64 p.pos)).setCell ⟨wr.heap.size, 7, none⟩ (.bool p.neg)).setCell ⟨wr.heap.size, 8, none⟩ (.int .i64 p.ty)).setCell ⟨wr.heap.size, 9, none⟩ (.slice A q c)) ∧ ((((((((((w5.setCell ⟨wr.heap.size, 0, none⟩ (.int .i64 p.kind)).setCell ⟨wr.heap.size, 1, none⟩ (.string p.op)).setCell ⟨wr.heap.size, 2, none⟩ (.int .i64 (clD p.lit).k)).setCell ⟨wr.heap.size, 3, none⟩ (.int .i64 (clD p.lit).n)).setCell ⟨wr.heap.size, 4, none⟩ (.float .f64 (clD p.lit).f)).setCell ⟨wr.heap.size, 5, none⟩ (.string (clD p.lit).s)).setCell ⟨wr.heap.size, 6, none⟩ (.int .i64 p.pos)).setCell ⟨wr.heap.size, 7, none⟩ (.bool p.neg)).setCell ⟨wr.heap.size, 8, none⟩ (.int .i64 p.ty)).setCell ⟨wr.heap.size, 9, none⟩ (.slice A q c)).heap[wr.heap.size]? = some (.cells #[.int .i64 p.kind, .string p.op, .int .i64 (clD p.lit).k, .int .i64 (clD p.lit).n, .float .f64 (clD p.lit).f, .string (clD p.lit).s, .int .i64 p.pos, .bool p.neg, .int .i64 p.ty, .slice A q c] 54) ∧ NdAt clD (wr.heap.size ≤ ·) ((((((((((w5.setCell ⟨wr.heap.size, 0, none⟩ (.int .i64 p.kind)).setCell ⟨wr.heap.size, 1, none⟩ (.string p.op)).setCell ⟨wr.heap.size, 2, none⟩ (.int .i64 (clD p.lit).k)).setCell ⟨wr.heap.size, 3, none⟩ (.int .i64 (clD p.lit).n)).setCell ⟨wr.heap.size, 4, none⟩ (.float .f64 (clD p.lit).f)).setCell ⟨wr.heap.size, 5, none⟩ (.string (clD p.lit).s)).setCell ⟨wr.heap.size, 6, none⟩ (.int .i64 p.pos)).setCell ⟨wr.heap.size, 7, none⟩ (.bool p.neg)).setCell ⟨wr.heap.size, 8, none⟩ (.int .i64 p.ty)).setCell ⟨wr.heap.size, 9, none⟩ (.slice A q c)) n (ndL p (clD p.lit) A q c) p := by
  have HBX := (BX.one wr (.cells #[.int .i64 0, .string ⟨#[]⟩, .int .i64 0, .int .i64 0, .float .f64 0, .string ⟨#[]⟩, .int .i64 0, .bool false, .int .i64 0, .slice none 0 0] 54)).drew.keep hB5
  have HBS := HBX.set10 (k := 0) (v0 := .int .i64 p.kind) (v1 := .string p.op) (v2 := .int .i64 (clD p.lit).k) (v3 := .int .i64 (clD p.lit).n) (v4 := .float .f64 (clD p.lit).f) (v5 := .string (clD p.lit).s) (v6 := .int .i64 p.pos) (v7 := .bool p.neg) (v8 := .int .i64 p.ty) (v9 := .slice A q c) rfl
  have hsz : (wr.alloc (.cells #[.int .i64 0, .string ⟨#[]⟩, .int .i64 0, .int .i64 0, .float .f64 0, .string ⟨#[]⟩, .int .i64 0, .bool false, .int .i64 0, .slice none 0 0] 54)).drew.heap.size = wr.heap.size + 1 := World.size_alloc _ _
  exact ⟨HBS.below, HBS.row0 _ _ rfl, set_nd p A c q (hN5.mono (ok' := fun b => wr.heap.size < b) fun b hb _ => Nat.lt_of_lt_of_le (Nat.lt_of_lt_of_le (Nat.lt_succ_self _) (Nat.le_of_eq hsz.symm)) hb)⟩
set_option maxRecDepth 100000 in
set_option maxHeartbeats 16000000 in
theorem rb7 (n : Nat) (w : World) (k : Int) (op : ByteArray) (lk ln : Int) (lf : Nat) (ls tn nm : ByteArray) (ng : Bool) (xa : Option Addr) (q xc : Nat) (x0 : Ex) (hq : q = x0.args.length) (hq1 : q ≤ 1000) (hxa : xa = x0.A) (f : Ex → Except Int Nd) (hX : CellsAt w 10 x0.A (x0.args.map exL)) (HE : ∀ y ∈ x0.args, ∀ W, Below w.heap.size w W → Calls Tryz.prog 27 #[sc0V, exV y] W (RBO n W (f y))) (r : Except Int Nd) (ob : Nat)
    (HEND : ∀ v1 vs ps B2 c2 a W, bindArgs f x0.args = .ok ps → T27 w q ob a → a.tmps.getD 10 undef = .slice B2 (ps.map Nd.ty).length c2 → RL n w [.cells #[.slice none 0 0, .slice none 0 0, .slice none 0 0, .bool false] 92, .cells #[.int .i64 k, .string op, .int .i64 lk, .int .i64 ln, .float .f64 lf, .string ls, .string tn, .string nm, .bool ng, .slice xa q xc] 41, .cells #[.int .i64 0, .string ⟨#[]⟩, .int .i64 0, .int .i64 0, .float .f64 0, .string ⟨#[]⟩, .int .i64 0, .bool false, .int .i64 0, .slice none 0 0] 54, .cells #[.int .i64 0, .string ⟨#[]⟩, .int .i64 0, .int .i64 0, .float .f64 0, .string ⟨#[]⟩, .int .i64 0, .bool false, .int .i64 0, .slice none 0 0] 54] ob #[.int .i64 k, .string ⟨#[]⟩, .int .i64 0, .int .i64 0, .float .f64 0, .string ⟨#[]⟩, .int .i64 0, .bool false, .int .i64 0, v1] v1 vs ps (.slice B2 (ps.map Nd.ty).length c2) (ps.map Nd.ty) W → (rbC 8).wp Tryz.prog (bodyPost Tryz.prog Tryz.f27 (RBO (n + 1) w r)) a W)
    (HERR : ∀ er, bindArgs f x0.args = .error er → r = .error er) (a : Act) (W : World) (hS : T27 w q ob a) (h10 : a.tmps.getD 10 undef = .slice none 0 0) (hL : RL n w [.cells #[.slice none 0 0, .slice none 0 0, .slice none 0 0, .bool false] 92, .cells #[.int .i64 k, .string op, .int .i64 lk, .int .i64 ln, .float .f64 lf, .string ls, .string tn, .string nm, .bool ng, .slice xa q xc] 41, .cells #[.int .i64 0, .string ⟨#[]⟩, .int .i64 0, .int .i64 0, .float .f64 0, .string ⟨#[]⟩, .int .i64 0, .bool false, .int .i64 0, .slice none 0 0] 54, .cells #[.int .i64 0, .string ⟨#[]⟩, .int .i64 0, .int .i64 0, .float .f64 0, .string ⟨#[]⟩, .int .i64 0, .bool false, .int .i64 0, .slice none 0 0] 54] ob #[.int .i64 k, .string ⟨#[]⟩, .int .i64 0, .int .i64 0, .float .f64 0, .string ⟨#[]⟩, .int .i64 0, .bool false, .int .i64 0, (.slice none 0 0)] (.slice none 0 0) [] [] (.slice none 0 0) [] W) : (rbC 7).wp Tryz.prog (bodyPost Tryz.prog Tryz.f27 (RBO (n + 1) w r)) a W := by
  have HQ := Lib.hid hq
  have HX := Lib.hid (show CellsAt w 10 xa (x0.args.map exL) from by rw [hxa]; exact hX)
  have HY := Lib.hid HE
  have HN := Lib.hid HEND
  have HR := Lib.hid HERR
  have HST := Lib.hid hL
  clear hq hxa hX HE HEND HERR hL
  obtain ⟨u, hu, hug⟩ := open138 hS.size
  have p2 := hS.s2; have p3 := hS.s3; have p4 := hS.s4; have p6 := hS.s6; have p7 := hS.s7; have p9 := hS.s9
  have hdf := hS.df
  rw [hug _ (by omega)] at p2 p3 p4 p6 p7 p9 h10
  obtain ⟨tm, df⟩ := a
  dsimp only at hu hdf
  subst hu hdf
  clear hS hug
  rw [p2, p3, p4, p6, p7, p9, h10]
  clear p2 p3 p4 p6 p7 p9 h10
  conv => arg 2; whnf
  refine wp_seq_k fun K hK => ?_
  have HK := Lib.hid (show ∀ a w', (rbC 8).wp Tryz.prog (bodyPost Tryz.prog Tryz.f27 (RBO (n + 1) w r)) a w' → K a w' from hK)
  clear hK
  go_wp2_with fail
  refine wp_loop (fun a' wr => T27 w q ob a' ∧ ∃ (j : Nat) (v1 : Value) (vs : List (List Value)) (ps : List Nd) (v2 : Value), j ≤ q ∧ a'.tmps.getD 11 undef = .int .i64 j ∧ a'.tmps.getD 10 undef = v2 ∧ vs.length = j ∧ ps.length = j ∧ Hid (bindArgs f (x0.args.take j) = .ok ps) ∧ Hid (RL n w [.cells #[.slice none 0 0, .slice none 0 0, .slice none 0 0, .bool false] 92, .cells #[.int .i64 k, .string op, .int .i64 lk, .int .i64 ln, .float .f64 lf, .string ls, .string tn, .string nm, .bool ng, .slice xa q xc] 41, .cells #[.int .i64 0, .string ⟨#[]⟩, .int .i64 0, .int .i64 0, .float .f64 0, .string ⟨#[]⟩, .int .i64 0, .bool false, .int .i64 0, .slice none 0 0] 54, .cells #[.int .i64 0, .string ⟨#[]⟩, .int .i64 0, .int .i64 0, .float .f64 0, .string ⟨#[]⟩, .int .i64 0, .bool false, .int .i64 0, .slice none 0 0] 54] ob #[.int .i64 k, .string ⟨#[]⟩, .int .i64 0, .int .i64 0, .float .f64 0, .string ⟨#[]⟩, .int .i64 0, .bool false, .int .i64 0, v1] v1 vs ps v2 (ps.map Nd.ty) wr)) (fun a' _ => q - (intOf (a'.tmps.getD 11 undef)).toNat) ?start ?round
  case start =>
    refine ⟨⟨?_, ?_, ?_, ?_, ?_, ?_, ?_, ?_⟩, 0, .slice none 0 0, [], [], .slice none 0 0, Nat.zero_le _, ?_, ?_, rfl, rfl, Lib.hid rfl, HST⟩
    all_goals rfl
  case round =>
    clear HST
    rintro a wr ⟨hS, j, v1, vs, ps, v2, hj, h11, h10, hvl, hpl, HBA, HA⟩
    obtain ⟨u, hu, hug⟩ := open138 hS.size
    have p2 := hS.s2; have p3 := hS.s3; have p4 := hS.s4; have p6 := hS.s6; have p7 := hS.s7; have p9 := hS.s9
    have hdf := hS.df
    rw [hug _ (by omega)] at p2 p3 p4 p6 p7 p9 h11 h10
    obtain ⟨tm, df⟩ := a
    dsimp only at hu hdf
    subst hu hdf
    clear hS hug
    rw [p2, p3, p4, p6, p7, p9, h11, h10]
    clear p2 p3 p4 p6 p7 p9 h11 h10
    have HVL := Lib.hid hvl
    have HPL := Lib.hid hpl
    clear hvl hpl
    by_cases hjq : j < q
    · have hjn : ((j : Int) < (q : Int)) = True := eq_true (by omega)
      obtain ⟨y, hy⟩ : ∃ y, x0.args[j]? = some y := ⟨_, List.getElem?_eq_getElem (by have := HQ.out; omega)⟩
      have HJ := Lib.hid hy
      obtain ⟨eb, eo, rfl, heb, hyc⟩ := ex_at HX.out hy
      have t0 : wr.cell? ⟨eb, eo + j * 10, none⟩ = some (.int .i64 y.kind) := cell_kept (hyc 0 _ rfl) HA.out.bx.below
      have t1 := cell_kept (hyc 1 _ rfl) HA.out.bx.below
      have t2 := cell_kept (hyc 2 _ rfl) HA.out.bx.below
      have t3 := cell_kept (hyc 3 _ rfl) HA.out.bx.below
      have t4 := cell_kept (hyc 4 _ rfl) HA.out.bx.below
      have t5 := cell_kept (hyc 5 _ rfl) HA.out.bx.below
      have t6 := cell_kept (hyc 6 _ rfl) HA.out.bx.below
      have t7 := cell_kept (hyc 7 _ rfl) HA.out.bx.below
      have t8 := cell_kept (hyc 8 _ rfl) HA.out.bx.below
      have t9 := cell_kept (hyc 9 _ rfl) HA.out.bx.below
      have leb : eb < wr.heap.size := Nat.lt_of_lt_of_le heb HA.out.bx.below.size
      have la := heap_lt (HA.out.bx.row 3 _ _ rfl)
      have la0 : w.heap.size < wr.heap.size := by omega
      have la1 : w.heap.size + 1 < wr.heap.size := by omega
      have la2 : w.heap.size + 2 < wr.heap.size := by omega
      have lob := HA.out.lt
      have sf := store_float
      obtain ⟨as0, as1, as2, as3⟩ := row4 (HA.out.bx.row0 _ _ rfl)
      obtain ⟨ax0, ax1, ax2, ax3, ax4, ax5, ax6, ax7, ax8, ax9⟩ := row10 (HA.out.bx.row 1 _ _ rfl)
      have HC := Lib.hid (show ∀ W, Below wr.heap.size wr W → Calls Tryz.prog 27 #[sc0V, exV y] W (RBO n W (f y)) from fun W hB => HY.out y (List.mem_of_getElem? hy) _ (HA.out.bx.below.trans (hB.mono HA.out.bx.below.size)))
      have HCA := Lib.hid (HC.out (wr.alloc (.cells #[.int .i64 0, .string ⟨#[]⟩, .int .i64 0, .int .i64 0, .float .f64 0, .string ⟨#[]⟩, .int .i64 0, .bool false, .int .i64 0, .slice none 0 0] 54)).drew (below1 wr _).drew)
      have HC := Lib.hid (HC.out wr.drew (Below.refl _ wr).drew)
      clear hyc hy
      cases hf : f y with
      | error er =>
        have HF := Lib.hid (HR.out er (bind_fail HJ.out HBA.out hf))
        rw [hf] at HC HCA
        clear hf
        go_wp2_with fail
        rename_i K2 hK2
        have HKQ := Lib.hid (show ∀ a' w', (T27 w q ob a' ∧ a'.tmps.getD 13 undef = .int .i64 er ∧ Hid (er ≠ 0) ∧ Hid (Below wr.heap.size wr w')) → K2 a' w' from by
          rintro a w' ⟨hS, h13, hne, hB⟩
          refine hK2 _ _ ?_
          have HL5 := Lib.hid (HA.out.keep hB.out)
          have her0 : (er == 0) = false := beq_eq_false_iff_ne.2 hne.out
          have her1 : (er = 0) = False := eq_false hne.out
          clear t0 t1 t2 t3 t4 t5 t6 t7 t8 t9 as0 as1 as2 as3 ax0 ax1 ax2 ax3 ax4 ax5 ax6 ax7 ax8 ax9 la la0 la1 la2 leb lob
          obtain ⟨u, hu, hug⟩ := open138 hS.size
          have p2 := hS.s2; have p3 := hS.s3; have p4 := hS.s4; have p6 := hS.s6; have p7 := hS.s7; have p9 := hS.s9
          have hdf := hS.df
          rw [hug _ (by omega)] at p2 p3 p4 p6 p7 p9 h13
          obtain ⟨tm, df⟩ := a
          dsimp only at hu hdf
          subst hu hdf
          clear hS hug
          rw [p2, p3, p4, p6, p7, p9, h13]
          clear p2 p3 p4 p6 p7 p9 h13
          obtain ⟨g0, g1, g2, g3, g4, g5, g6, g7, g8, g9⟩ := free10 (HL5.out.bx.row 2 _ _ rfl)
          obtain ⟨e0, e1, e2, e3, e4, e5, e6, e7, e8, e9⟩ := row10 (HL5.out.bx.row 2 _ _ rfl)
          obtain ⟨z0, z1, z2, z3, z4, z5, z6, z7, z8, z9⟩ := row10 (HL5.out.bx.row 3 _ _ rfl)
          have lb := heap_lt (HL5.out.bx.row 2 _ _ rfl)
          have HG := Lib.hid (HL5.out.bx.set10 (k := 2) (v0 := .int .i64 0) (v1 := .string ⟨#[]⟩) (v2 := .int .i64 0) (v3 := .int .i64 0) (v4 := .float .f64 0) (v5 := .string ⟨#[]⟩) (v6 := .int .i64 0) (v7 := .bool false) (v8 := .int .i64 0) (v9 := .slice none 0 0) rfl)
          go_wp2_with fail
          refine bodyPost_ret (res_n (fn := Tryz.f27) rfl rfl rfl (HG.out.row 2 _ _ rfl)) rfl ?_
          rw [HF.out]
          exact ⟨HG.out.below, hne.out, rfl⟩)
        clear hK2
        go_region_law (first
          | (go_simp; go_at_call 27; (with_reducible refine HC.out.mono ?_); rintro e w5 ⟨hB5, hne, rfl⟩
             have HNE := Lib.hid hne
             have HBY := Lib.hid ((Below.refl wr.heap.size wr).drew.trans hB5)
             have HBZ := Lib.hid (HBY.out.alloc HBY.out.size (.cells #[.int .i64 0, .string ⟨#[]⟩, .int .i64 0, .int .i64 0, .float .f64 0, .string ⟨#[]⟩, .int .i64 0, .bool false, .int .i64 0, .slice none 0 0] 54))
             clear hB5 hne)
          | (go_simp; go_at_call 27; (with_reducible refine HCA.out.mono ?_); rintro e w5 ⟨hB5, hne, rfl⟩
             have HNE := Lib.hid hne
             have HBX := Lib.hid ((BX.one wr (.cells #[.int .i64 0, .string ⟨#[]⟩, .int .i64 0, .int .i64 0, .float .f64 0, .string ⟨#[]⟩, .int .i64 0, .bool false, .int .i64 0, .slice none 0 0] 54)).drew.keep hB5)
             obtain ⟨z0, z1, z2, z3, z4, z5, z6, z7, z8, z9⟩ := row10 (HBX.out.row0 _ _ rfl)
             obtain ⟨zf0, zf1, zf2, zf3, zf4, zf5, zf6, zf7, zf8, zf9⟩ := free10 (HBX.out.row0 _ _ rfl)
             have zl := heap_lt (HBX.out.row0 _ _ rfl)
             have HBZ := Lib.hid (HBX.out.set10 (k := 0) (v0 := .int .i64 0) (v1 := .string ⟨#[]⟩) (v2 := .int .i64 0) (v3 := .int .i64 0) (v4 := .float .f64 0) (v5 := .string ⟨#[]⟩) (v6 := .int .i64 0) (v7 := .bool false) (v8 := .int .i64 0) (v9 := .slice none 0 0) rfl).below
             clear hB5 hne)
          | fail)
        all_goals (refine HKQ.out _ _ ⟨⟨?_, ?_, ?_, ?_, ?_, ?_, ?_, ?_⟩, ?_, HNE, ?_⟩ <;> first | rfl | exact HBZ)
      | ok p =>
        have HF := Lib.hid (bind_snoc HJ.out HBA.out hf)
        rw [hf] at HC HCA
        clear hf
        go_wp2_with fail
        rename_i K2 hK2
        have HKQ := Lib.hid (show ∀ a' w', (T27 w q ob a' ∧ a'.tmps.getD 10 undef = v2 ∧ a'.tmps.getD 11 undef = .int .i64 j ∧ a'.tmps.getD 13 undef = .int .i64 0 ∧ ∃ (zb : Nat) (A5 : Option Addr) (c5 q5 : Nat), a'.tmps.getD 12 undef = .pointer (some ⟨zb, 0, none⟩) ∧ Hid (wr.heap.size ≤ zb) ∧ Hid (Below wr.heap.size wr w') ∧ Hid (w'.heap[zb]? = some (.cells #[.int .i64 p.kind, .string p.op, .int .i64 (clD p.lit).k, .int .i64 (clD p.lit).n, .float .f64 (clD p.lit).f, .string (clD p.lit).s, .int .i64 p.pos, .bool p.neg, .int .i64 p.ty, .slice A5 q5 c5] 54)) ∧ Hid (NdAt clD (wr.heap.size ≤ ·) w' n (ndL p (clD p.lit) A5 q5 c5) p)) → K2 a' w' from by
          rintro a w' ⟨hS, h10, h11, h13, zb, A5, c5, q5, h12, hzb, hB, hZ, hN⟩
          refine hK2 _ _ ?_
          have HL5 := Lib.hid (HA.out.keep hB.out)
          have HLE := Lib.hid HA.out.lt
          clear t0 t1 t2 t3 t4 t5 t6 t7 t8 t9 as0 as1 as2 as3 ax0 ax1 ax2 ax3 ax4 ax5 ax6 ax7 ax8 ax9 la la0 la1 la2 leb lob
          obtain ⟨u, hu, hug⟩ := open138 hS.size
          have p2 := hS.s2; have p3 := hS.s3; have p4 := hS.s4; have p6 := hS.s6; have p7 := hS.s7; have p9 := hS.s9
          have hdf := hS.df
          rw [hug _ (by omega)] at p2 p3 p4 p6 p7 p9 h10 h11 h12 h13
          obtain ⟨tm, df⟩ := a
          dsimp only at hu hdf
          subst hu hdf
          clear hS hug
          rw [p2, p3, p4, p6, p7, p9, h10, h11, h12, h13]
          clear p2 p3 p4 p6 p7 p9 h10 h11 h12 h13
          obtain ⟨z0, z1, z2, z3, z4, z5, z6, z7, z8, z9⟩ := row10 hZ.out
          have o9 := cell_of_row _ _ 9 _ _ _ HL5.out.out
          have of9 := frozen_of_row _ _ 9 _ _ HL5.out.out
          have lz := heap_lt hZ.out
          have lo := HL5.out.lt
          have hzo : (zb = ob) = False := eq_false (by have := HLE.out; have := hzb.out; omega)
          have hoz : (ob = zb) = False := eq_false (by have := HLE.out; have := hzb.out; omega)
          have HZV := Lib.hid (show v1.ownBlock ≠ some zb from fun e => by have := (own_base HA.out.own1 zb e).2; have := hzb.out; omega)
          go_wp2_with (first
            | (at_builtin; refine list_one 45 54 10 112 nodeZ Tryz.underlying45 info54 rfl (by omega) (by omega) _ rfl _ _ rfl (ob + 1) v1 vs.length vs.flatten rfl (HL5.out.keep (below1 w' _)).own1 _ 1 (ndL p (clD p.lit) A5 q5 c5) rfl rfl rfl (heap_alloc_new w' _) ?c3 ?c4 ?_)
            | fail)
          case c3 => have := HVL.out; omega
          case c4 => rw [World.size_alloc]; omega
          intro v8 w8 hown hgr hv8
          obtain ⟨A8, c8, rfl⟩ := own_slice hown
          have HM := Lib.hid (HA.out.app1 (hB.out.alloc hB.out.size _) (hN.out.keep (below1 w' _)) hown hgr (by rw [World.size_alloc]; exact hv8))
          have HZ8 := Lib.hid ((hgr.block _ (by rw [World.size_alloc]; omega) (fun e => HZV.out e.symm)).trans (((below1 w' _).block _ lz).trans hZ.out))
          clear hown hgr hv8 z0 z1 z2 z3 z4 z5 z6 z7 z8 z9 o9 of9
          have HM2 := Lib.hid (show RL n w _ ob #[.int .i64 k, .string ⟨#[]⟩, .int .i64 0, .int .i64 0, .float .f64 0, .string ⟨#[]⟩, .int .i64 0, .bool false, .int .i64 0, (.slice A8 (vs.length + 1) c8)] (.slice A8 (vs.length + 1) c8) (vs ++ [ndL p (clD p.lit) A5 q5 c5]) (ps ++ [p]) v2 (ps.map Nd.ty) (w8.setCell ⟨ob, 9, none⟩ (.slice A8 (vs.length + 1) c8)) from HM.out.setO 9 (.slice A8 (vs.length + 1) c8))
          have lo8 := HM.out.lt
          have of9 := frozen_of_row _ _ 9 _ _ HM.out.out
          have o9 := cell_of_row _ _ 9 _ _ _ HM.out.out
          have z8 := cell_of_row _ _ 8 _ _ _ HZ8.out
          have lz8 := heap_lt HZ8.out
          go_wp2_with (first
            | (at_builtin; refine list_one 44 3 1 8 (.int .i64 0) Tryz.underlying44 info3 rfl (by omega) (by omega) _ rfl _ _ rfl (ob + 1) v2 (ps.map Nd.ty).length ((ps.map Nd.ty).map (Value.int .i64)) rfl (HM2.out.keep (below1 _ _)).own2 _ 1 [.int .i64 p.ty] rfl rfl rfl (alloc_at2 _ _ _ (by simp)) ?c5 ?c6 ?_)
            | fail)
          case c5 => have := HPL.out; rw [List.length_map]; omega
          case c6 => have := HM2.out.lt; rw [World.size_alloc]; omega
          intro v9 w9 hown hgr hv9
          have HM3 := Lib.hid ((HM2.out.keep (below1 _ _)).app2 (z := p.ty) (by simpa using hown) hgr (by simpa using hv9))
          clear hown hgr hv9
          go_wp2_with fail
          refine ⟨⟨⟨?_, ?_, ?_, ?_, ?_, ?_, ?_, ?_⟩, j + 1, .slice A8 (vs.length + 1) c8, vs ++ [ndL p (clD p.lit) A5 q5 c5], ps ++ [p], v9, by omega, ?_, ?_, by rw [List.length_append, HVL.out]; rfl, by rw [List.length_append, HPL.out]; rfl, HF, Lib.hid (by rw [List.map_append]; exact HM3.out)⟩, ?_⟩
          all_goals first | rfl | skip
          show q - (intOf (.int .i64 _)).toNat < q - (intOf (.int .i64 _)).toNat
          simp [intOf] <;> omega)
        clear hK2
        go_region_law (first
          | (go_simp; go_at_call 27; (with_reducible refine HC.out.mono ?_); rintro e w5 ⟨hB5, A5, c5, q5, rfl, hN5⟩
             have HBY := Lib.hid ((Below.refl wr.heap.size wr).drew.trans hB5)
             have HBZ := Lib.hid (HBY.out.alloc HBY.out.size (.cells #[.int .i64 p.kind, .string p.op, .int .i64 (clD p.lit).k, .int .i64 (clD p.lit).n, .float .f64 (clD p.lit).f, .string (clD p.lit).s, .int .i64 p.pos, .bool p.neg, .int .i64 p.ty, .slice A5 q5 c5] 54))
             have HZB := Lib.hid HBY.out.size
             have HZR := Lib.hid (heap_alloc_new w5 (.cells #[.int .i64 p.kind, .string p.op, .int .i64 (clD p.lit).k, .int .i64 (clD p.lit).n, .float .f64 (clD p.lit).f, .string (clD p.lit).s, .int .i64 p.pos, .bool p.neg, .int .i64 p.ty, .slice A5 q5 c5] 54))
             have HNZ := Lib.hid ((hN5.mono (ok' := (wr.heap.size ≤ ·)) fun b hb _ => hb).keep (below1 w5 (.cells #[.int .i64 p.kind, .string p.op, .int .i64 (clD p.lit).k, .int .i64 (clD p.lit).n, .float .f64 (clD p.lit).f, .string (clD p.lit).s, .int .i64 p.pos, .bool p.neg, .int .i64 p.ty, .slice A5 q5 c5] 54)))
             clear hB5 hN5)
          | (go_simp; go_at_call 27; (with_reducible refine HCA.out.mono ?_); rintro e w5 ⟨hB5, A5, c5, q5, rfl, hN5⟩
             have HBX := Lib.hid ((BX.one wr (.cells #[.int .i64 0, .string ⟨#[]⟩, .int .i64 0, .int .i64 0, .float .f64 0, .string ⟨#[]⟩, .int .i64 0, .bool false, .int .i64 0, .slice none 0 0] 54)).drew.keep hB5)
             obtain ⟨z0, z1, z2, z3, z4, z5, z6, z7, z8, z9⟩ := row10 (HBX.out.row0 _ _ rfl)
             obtain ⟨zf0, zf1, zf2, zf3, zf4, zf5, zf6, zf7, zf8, zf9⟩ := free10 (HBX.out.row0 _ _ rfl)
             have zl := heap_lt (HBX.out.row0 _ _ rfl)
             have HAA := arm_a hB5 hN5
             have HBZ := Lib.hid HAA.1
             have HZB := Lib.hid (Nat.le_refl wr.heap.size)
             have HZR := Lib.hid HAA.2.1
             have HNZ := Lib.hid HAA.2.2
             clear HAA
             clear hB5 hN5)
          | fail)
        all_goals (refine HKQ.out _ _ ⟨⟨?_, ?_, ?_, ?_, ?_, ?_, ?_, ?_⟩, ?_, ?_, ?_, _, A5, c5, q5, ?_, HZB, HBZ, HZR, HNZ⟩ <;> rfl)
    · obtain rfl : j = q := by omega
      have hjn : ((j : Int) < (j : Int)) = False := eq_false (by omega)
      have HBF := HBA.out
      rw [List.take_of_length_le (by have := HQ.out; omega)] at HBF
      obtain ⟨B2, c2, rfl⟩ := own_slice HA.out.own2
      go_wp2_with fail
      refine HK.out _ _ (HN.out v1 vs ps B2 c2 _ _ HBF ⟨?_, ?_, ?_, ?_, ?_, ?_, ?_, ?_⟩ ?_ HA.out)
      all_goals rfl
set_option maxRecDepth 100000 in
set_option maxHeartbeats 16000000 in
theorem rb4 (n : Nat) (w : World) (k : Int) (op : ByteArray) (lk ln : Int) (lf : Nat) (ls tn nm : ByteArray) (ng : Bool) (xa : Option Addr) (q xc : Nat) (r : Except Int Nd)
    (HSEG : ∀ ob a W, T27 w q ob a → a.tmps.getD 10 undef = .slice none 0 0 → RL n w [.cells #[.slice none 0 0, .slice none 0 0, .slice none 0 0, .bool false] 92, .cells #[.int .i64 k, .string op, .int .i64 lk, .int .i64 ln, .float .f64 lf, .string ls, .string tn, .string nm, .bool ng, .slice xa q xc] 41, .cells #[.int .i64 0, .string ⟨#[]⟩, .int .i64 0, .int .i64 0, .float .f64 0, .string ⟨#[]⟩, .int .i64 0, .bool false, .int .i64 0, .slice none 0 0] 54, .cells #[.int .i64 0, .string ⟨#[]⟩, .int .i64 0, .int .i64 0, .float .f64 0, .string ⟨#[]⟩, .int .i64 0, .bool false, .int .i64 0, .slice none 0 0] 54] ob #[.int .i64 k, .string ⟨#[]⟩, .int .i64 0, .int .i64 0, .float .f64 0, .string ⟨#[]⟩, .int .i64 0, .bool false, .int .i64 0, (.slice none 0 0)] (.slice none 0 0) [] [] (.slice none 0 0) [] W → (rbC 7).wp Tryz.prog (bodyPost Tryz.prog Tryz.f27 (RBO (n + 1) w r)) a W)
    (a : Act) (W : World) (hS : S27 w q a) (hM : BX w [.cells #[.slice none 0 0, .slice none 0 0, .slice none 0 0, .bool false] 92, .cells #[.int .i64 k, .string op, .int .i64 lk, .int .i64 ln, .float .f64 lf, .string ls, .string tn, .string nm, .bool ng, .slice xa q xc] 41, .cells #[.int .i64 0, .string ⟨#[]⟩, .int .i64 0, .int .i64 0, .float .f64 0, .string ⟨#[]⟩, .int .i64 0, .bool false, .int .i64 0, .slice none 0 0] 54, .cells #[.int .i64 0, .string ⟨#[]⟩, .int .i64 0, .int .i64 0, .float .f64 0, .string ⟨#[]⟩, .int .i64 0, .bool false, .int .i64 0, .slice none 0 0] 54] W) (hz : w.heap.size + 4 ≤ W.heap.size) : (rbC 4).wp Tryz.prog (bodyPost Tryz.prog Tryz.f27 (RBO (n + 1) w r)) a W := by
  have HN := Lib.hid HSEG
  clear HSEG
  obtain ⟨as0, as1, as2, as3⟩ := row4 (hM.row0 _ _ rfl)
  obtain ⟨ax0, ax1, ax2, ax3, ax4, ax5, ax6, ax7, ax8, ax9⟩ := row10 (hM.row 1 _ _ rfl)
  have f3 := frozen_of_row _ _ 3 _ _ (hM.row0 _ _ rfl)
  have HM1 := Lib.hid (show BX w [.cells #[.slice none 0 0, .slice none 0 0, .slice none 0 0, .bool false] 92, .cells #[.int .i64 k, .string op, .int .i64 lk, .int .i64 ln, .float .f64 lf, .string ls, .string tn, .string nm, .bool ng, .slice xa q xc] 41, .cells #[.int .i64 0, .string ⟨#[]⟩, .int .i64 0, .int .i64 0, .float .f64 0, .string ⟨#[]⟩, .int .i64 0, .bool false, .int .i64 0, .slice none 0 0] 54, .cells #[.int .i64 0, .string ⟨#[]⟩, .int .i64 0, .int .i64 0, .float .f64 0, .string ⟨#[]⟩, .int .i64 0, .bool false, .int .i64 0, .slice none 0 0] 54] (W.setCell ⟨w.heap.size, 3, none⟩ (.bool false)) from hM.set (k := 0) rfl 3 (.bool false))
  have HZ := Lib.hid (show w.heap.size + 4 ≤ (W.setCell ⟨w.heap.size, 3, none⟩ (.bool false)).heap.size from by simpa using hz)
  clear hM hz
  obtain ⟨u, hu, hug⟩ := open138 hS.size
  have p2 := hS.s2; have p3 := hS.s3; have p4 := hS.s4; have p6 := hS.s6; have p7 := hS.s7
  have hdf := hS.df
  rw [hug _ (by omega)] at p2 p3 p4 p6 p7
  obtain ⟨tm, df⟩ := a
  dsimp only at hu hdf
  subst hu hdf
  clear hS hug
  rw [p2, p3, p4, p6, p7]
  clear p2 p3 p4 p6 p7
  have sf := store_float
  conv => arg 2; whnf
  refine wp_seq_k fun K0 hK0 => ?_
  have HK0 := Lib.hid hK0
  clear hK0
  go_wp2_with fail
  refine HK0.out _ _ ?_
  clear as0 as1 as2 as3 ax0 ax1 ax2 ax3 ax4 ax5 ax6 ax7 ax8 ax9 f3
  generalize W.setCell ⟨w.heap.size, 3, none⟩ (.bool false) = W1 at HM1 HZ ⊢
  obtain ⟨bs0, bs1, bs2, bs3⟩ := row4 (HM1.out.row0 _ _ rfl)
  obtain ⟨bx0, bx1, bx2, bx3, bx4, bx5, bx6, bx7, bx8, bx9⟩ := row10 (HM1.out.row 1 _ _ rfl)
  have HRL := Lib.hid (show RL n w [.cells #[.slice none 0 0, .slice none 0 0, .slice none 0 0, .bool false] 92, .cells #[.int .i64 k, .string op, .int .i64 lk, .int .i64 ln, .float .f64 lf, .string ls, .string tn, .string nm, .bool ng, .slice xa q xc] 41, .cells #[.int .i64 0, .string ⟨#[]⟩, .int .i64 0, .int .i64 0, .float .f64 0, .string ⟨#[]⟩, .int .i64 0, .bool false, .int .i64 0, .slice none 0 0] 54, .cells #[.int .i64 0, .string ⟨#[]⟩, .int .i64 0, .int .i64 0, .float .f64 0, .string ⟨#[]⟩, .int .i64 0, .bool false, .int .i64 0, .slice none 0 0] 54] W1.heap.size #[.int .i64 k, .string ⟨#[]⟩, .int .i64 0, .int .i64 0, .float .f64 0, .string ⟨#[]⟩, .int .i64 0, .bool false, .int .i64 0, (.slice none 0 0)] (.slice none 0 0) [] [] (.slice none 0 0) [] (W1.alloc (.cells #[.int .i64 k, .string ⟨#[]⟩, .int .i64 0, .int .i64 0, .float .f64 0, .string ⟨#[]⟩, .int .i64 0, .bool false, .int .i64 0, (.slice none 0 0)] 54)) from ⟨HM1.out.alloc _, heap_alloc_new W1 _, HZ.out, World.ownsRow_nil _ _ _ _, World.ownsRow_nil _ _ _ _, fun b h => (by cases h), ⟨rfl, fun i x q h => (by cases h)⟩, fun x h => (List.not_mem_nil h).elim⟩)
  refine wp_seq_k fun K1 hK1 => ?_
  have HK1 := Lib.hid hK1
  clear hK1
  go_wp2_with fail
  refine HK1.out _ _ ?_
  refine wp_seq_k fun K2 hK2 => ?_
  have HK2 := Lib.hid (show ∀ a w', (rbC 7).wp Tryz.prog (bodyPost Tryz.prog Tryz.f27 (RBO (n + 1) w r)) a w' → K2 a w' from hK2)
  clear hK2
  go_wp2_with fail
  refine HK2.out _ _ (HN.out W1.heap.size _ _ ⟨?_, ?_, ?_, ?_, ?_, ?_, ?_, ?_⟩ ?_ HRL.out)
  all_goals rfl
end Go.Proofs.YthdmfaepjemopaaGreatDoor
