/- The walk of Lex at the text of lives. -/
import Derived.Test.YtacodkmbefhicaaDoorSmall
import Derived.Maps.AppendAt
import Derived.OwnWalk
namespace Go.Proofs.YtacodkmbefhicaaDoor
open Go.RowKit

theorem own_kept {w w' : World} {base e size n B : Nat} {v : Value} {xs : List Value} (h : w.ownsRow base e size v n xs) (hB : Below B w w') (hw : w.heap.size ≤ B) : w'.ownsRow base e size v n xs := by
  obtain ⟨h1, h2⟩ := h
  refine ⟨h1, h2.imp id fun ⟨g, cap, cur, e1, e2, e3, e4⟩ => ⟨g, cap, cur, e1, e2, ?_, e4⟩⟩
  have hlt : g < w.heap.size := heap_lt e3
  exact (hB.block g (by omega)).trans e3
theorem info_parts {P : Program} {e : TypeId} {z : Value} {s b : Nat} (h : (P.info? e).map (fun i => (i.zero, i.size, i.bytes)) = some (some z, s, b)) : ∃ i, P.info? e = some i ∧ i.zero = some z ∧ i.size = s ∧ i.bytes = b := by
  cases hi : P.info? e with
  | none => rw [hi] at h; cases h
  | some i =>
    rw [hi] at h
    simp only [Option.map_some, Option.some.injEq, Prod.mk.injEq] at h
    exact ⟨i, rfl, h.1, h.2.1, h.2.2⟩
theorem info36 : (Tryd.prog.info? 36).map (fun i => (i.zero, i.size, i.bytes)) = some (some (.agg #[.int .i64 0, .string ⟨#[]⟩, .int .i64 0]), 3, 32) := by kernel_rfl
/-- one word behind a row of words of the call's own -/
theorem tok_app (w : World) (base : Nat) (ty : TypeId) (v : Value) (n : Nat) (xs : List Value) (hown : w.ownsRow base 36 3 v n xs) (ad : Addr) (c : Nat) (x y z : Value) (h1 : x.oneCell' = true) (h2 : y.oneCell' = true) (h3 : z.oneCell' = true)
    (q0 : w.cell? (ad.add 0) = some x) (q1 : w.cell? (ad.add 1) = some y) (q2 : w.cell? (ad.add 2) = some z) (hl : n ≤ 2000) (hbase : base ≤ w.heap.size) :
    ∃ v' w', (Builtin.append_ #[31, 31] ty #[v, .slice (some ad) 1 c]).run Tryd.prog w = .ok v' w' ∧ w'.ownsRow base 36 3 v' (n + 1) (xs ++ [x, y, z]) ∧ w.grownBy w' v.ownBlock := by
  obtain ⟨i0, hi0, hz0, hz1, hz2⟩ := info_parts info36
  obtain ⟨v', w', g1, g2, g3, _, g5⟩ := run_append_own_at (P := Tryd.prog) w base 31 ty 36 i0 (.agg #[.int .i64 0, .string ⟨#[]⟩, .int .i64 0]) 3 32 Tryd.underlying31 hi0 hz0 hz1 hz2 rfl (by omega) v n xs hown ad 1 c [x, y, z] rfl
    (fun j u hj => by
      match j, hj with
      | 0, hj => cases hj; exact q0
      | 1, hj => cases hj; exact q1
      | 2, hj => cases hj; exact q2
      | j + 3, hj => simp at hj)
    (fun u hu => by
      simp only [List.mem_cons, List.mem_nil_iff, or_false] at hu
      rcases hu with rfl | rfl | rfl <;> assumption)
    (by unfold maxLen; omega) (by omega) hbase
  exact ⟨v', w', g1, g2, g3⟩
theorem list_tok (w : World) {ops : Array Oper} {rest : List Oper} {o : Oper} {a : Act} {Q : Exit → Act → World → Prop} (hgd : o.guard = none) (s x : Operand)
    (ho : o.op = .call { callee := .builtin .append, args := #[s, x], argTypes := #[31, 31] }) (base : Nat) (v : Value) (n : Nat) (xs : List Value) (hv : a.eval s = v) (hown : w.ownsRow base 36 3 v n xs)
    (ad : Addr) (c : Nat) (k t e : Value) (hx : a.eval x = .slice (some ad) 1 c) (h1 : k.oneCell' = true) (h2 : t.oneCell' = true) (h3 : e.oneCell' = true)
    (q0 : w.cell? (ad.add 0) = some k) (q1 : w.cell? (ad.add 1) = some t) (q2 : w.cell? (ad.add 2) = some e) (hl : n ≤ 2000) (hbase : base ≤ w.heap.size)
    (h : ∀ v' w', w'.ownsRow base 36 3 v' (n + 1) (xs ++ [k, t, e]) → w.grownBy w' v.ownBlock → wpList Tryd.prog ops Q rest (a.put o.dst v') w') : wpList Tryd.prog ops Q (o :: rest) a w := by
  refine wpList_plain hgd fun K hK => ?_
  obtain ⟨v', w', hrun, g2, g3⟩ := tok_app w base o.type v n xs hown ad c k t e h1 h2 h3 q0 q1 q2 hl hbase
  unfold Oper.wp
  simp only [execOp, ho, resolve, invoke, builtin, Sem.run_bind, Sem.run_pure, Result.andThen_ok, List.map_toArray, List.map_cons, List.map_nil, hv, hx, hrun]
  exact hK _ _ (h v' w' g2 g3)
def tks : List (List Value) := [[.int .i64 1, .string ⟨#[97]⟩, .int .i64 0], [.int .i64 6, .string ⟨#[60, 61]⟩, .int .i64 1], [.int .i64 3, .string ⟨#[49]⟩, .int .i64 3], [.int .i64 0, .string ⟨#[]⟩, .int .i64 4]]
def LexP (w : World) (e : Ending) (w' : World) : Prop := ∃ v, e = .returned (.tuple #[v, .int .i64 0, .int .i64 0]) ∧ w'.ownsRow w.heap.size 36 3 v 4 tks.flatten ∧ Below w.heap.size w w'
def txt : ByteArray := ⟨#[97, 60, 61, 49]⟩
theorem next_a (m : Int) (w : World) (hm : w.cell? ⟨0, 0, none⟩ = some (.int .i64 m)) : Calls Tryd.prog 12 #[.string txt] w (RetV (nextV 1 ⟨#[97]⟩ 1 0) w) := by
  have h := next_letter txt m w hm (by decide) (by decide) (by decide)
  rw [show wordR txt.data.toList = nextV 1 ⟨#[97]⟩ 1 0 by unfold wordR; rw [show spanR namP txt.data.toList = 1 by decide]; dsimp only; rw [show kwR (txt.data.toList.take 1) = [] by decide +kernel]; rfl] at h
  exact h
def t1 : ByteArray := ⟨#[60, 61, 49]⟩
def t3 : ByteArray := ⟨#[49]⟩
def t4 : ByteArray := ⟨#[]⟩
theorem tok_cells (w : World) (O : Obj) (x y z : Value) : ((w.alloc O).alloc (.cells #[x, y, z] 36)).cell? ((⟨w.heap.size + 1, 0, none⟩ : Addr).add 0) = some x ∧ ((w.alloc O).alloc (.cells #[x, y, z] 36)).cell? ((⟨w.heap.size + 1, 0, none⟩ : Addr).add 1) = some y ∧ ((w.alloc O).alloc (.cells #[x, y, z] 36)).cell? ((⟨w.heap.size + 1, 0, none⟩ : Addr).add 2) = some z := by
  have hq := heap_alloc_new (w.alloc O) (.cells #[x, y, z] 36)
  rw [World.size_alloc] at hq
  exact ⟨cell_of_row _ _ 0 _ _ _ hq, cell_of_row _ _ 1 _ _ _ hq, cell_of_row _ _ 2 _ _ _ hq⟩
theorem tok_first {wo : World} {base n : Nat} {v k t e : Value} {xs : List Value} {O : Obj} (w w4 : World) (ho : wo.ownsRow base 36 3 v n xs) (hw : wo.heap.size ≤ w.heap.size) (hg : ((w.alloc (.cells #[k, t, e] 36)).alloc O).grownBy w4 v.ownBlock) : w4.cell? ⟨w.heap.size, 0, none⟩ = some k := by
  have hq := heap_alloc_new w (.cells #[k, t, e] 36)
  have hq2 := (heap_alloc_old (w.alloc (.cells #[k, t, e] 36)) O (r := w.heap.size) (by simp)).trans hq
  have hq3 := (hg.block w.heap.size (by simp; omega) (fun h => by have := (ho.lt _ h.symm).2; omega)).trans hq2
  exact cell_of_row _ _ 0 _ _ _ hq3
set_option maxRecDepth 100000 in
set_option maxHeartbeats 8000000 in
theorem lex_any (m : Int) (w : World) (hm : w.cell? ⟨0, 0, none⟩ = some (.int .i64 m)) : Calls Tryd.prog 8 #[.string txt, .int .i64 9] w (LexP w) := by
  have HM := Lib.hid hm
  clear hm
  have HB0 := Lib.hid (show ∀ W, Calls Tryd.prog 10 #[.string txt, .func (.func 11) #[] #[]] W (RetV (.int .i64 0) W) from fun W => by have h := bla_span txt (by decide) W; rw [show spanR blaP (txt : ByteArray).data.toList = 0 by decide] at h; exact h)
  have HN0 := Lib.hid (show ∀ W, W.cell? ⟨0, 0, none⟩ = some (.int .i64 m) → Calls Tryd.prog 12 #[.string txt] W (RetV (.tuple #[.agg #[.int .i64 1, .string ⟨#[97]⟩, .int .i64 0], .int .i64 1, .int .i64 0]) W) from fun W h => next_a m W h)
  have HB1 := Lib.hid (show ∀ W, Calls Tryd.prog 10 #[.string t1, .func (.func 11) #[] #[]] W (RetV (.int .i64 0) W) from fun W => by have h := bla_span t1 (by decide) W; rw [show spanR blaP (t1 : ByteArray).data.toList = 0 by decide] at h; exact h)
  have HN1 := Lib.hid (show ∀ W, W.cell? ⟨0, 0, none⟩ = some (.int .i64 m) → Calls Tryd.prog 12 #[.string t1] W (RetV (.tuple #[.agg #[.int .i64 6, .string ⟨#[60, 61]⟩, .int .i64 0], .int .i64 2, .int .i64 0]) W) from fun W _ => next_le W)
  have HB2 := Lib.hid (show ∀ W, Calls Tryd.prog 10 #[.string t3, .func (.func 11) #[] #[]] W (RetV (.int .i64 0) W) from fun W => by have h := bla_span t3 (by decide) W; rw [show spanR blaP (t3 : ByteArray).data.toList = 0 by decide] at h; exact h)
  have HN2 := Lib.hid (show ∀ W, W.cell? ⟨0, 0, none⟩ = some (.int .i64 m) → Calls Tryd.prog 12 #[.string t3] W (RetV (.tuple #[.agg #[.int .i64 3, .string ⟨#[49]⟩, .int .i64 0], .int .i64 1, .int .i64 0]) W) from fun W _ => next_1 W)
  have HB3 := Lib.hid (show ∀ W, Calls Tryd.prog 10 #[.string .empty, .func (.func 11) #[] #[]] W (RetV (.int .i64 0) W) from fun W => by have h := bla_span .empty (by decide) W; rw [show spanR blaP (.empty : ByteArray).data.toList = 0 by decide] at h; exact h)
  have HN3 := Lib.hid (show ∀ W, W.cell? ⟨0, 0, none⟩ = some (.int .i64 m) → Calls Tryd.prog 12 #[.string .empty] W (RetV (.tuple #[.agg #[.int .i64 0, .string ⟨#[]⟩, .int .i64 0], .int .i64 0, .int .i64 0]) W) from fun W _ => next_end W)
  have hsz : txt.size = 4 := rfl
  have ht0 : txt.extract 0 4 = txt := rfl
  have ht1 : txt.extract 1 4 = t1 := rfl
  have ht2 : txt.extract 3 4 = t3 := rfl
  have ht3 : txt.extract 4 4 = .empty := rfl
  go_enter Tryd.func8, Tryd.ntmps8
  go_wp2_with fail
  go_loopw [7, 8] (fun v i wr => ∃ k p : Nat, k ≤ 3 ∧ i = .int .i64 p ∧ p = [0, 1, 3, 4].getD k 0 ∧ wr.ownsRow w.heap.size 36 3 v k (tks.take k).flatten ∧ Below w.heap.size w wr) (fun _ i _ => 5 - (intOf i).toNat)
  case atStart => exact ⟨0, 0, by omega, rfl, rfl, World.ownsRow_nil _ _ _ _, Below.refl _ _⟩
  case round =>
    obtain ⟨k, p, hk, rfl, hp, ho, hB⟩ := hrel
    obtain ⟨wo, rfl⟩ : ∃ wo : World, wo = wr := ⟨_, rfl⟩
    have HB := Lib.hid hB
    have HO := Lib.hid ho
    clear hB ho
    have hk4 : k = 0 ∨ k = 1 ∨ k = 2 ∨ k = 3 := by omega
    rcases hk4 with rfl | rfl | rfl | rfl
    · obtain rfl : p = 0 := hp
      clear hk
      go_wp2_with (first
        | (go_at_call 10; (with_reducible refine (HB0.out _).mono ?_); rintro e w2 ⟨rfl, hB2⟩; have HW2 := Lib.hid (HB.out.trans (hB2.mono HB.out.size)); have HX2 := Lib.hid hB2; clear hB2)
        | (go_at_call 12; (with_reducible refine (HN0.out _ (cell_kept HM.out HW2.out)).mono ?_); rintro e w3 ⟨rfl, hB3⟩; have HW3 := Lib.hid (HW2.out.trans (hB3.mono HW2.out.size)); have HX3 := Lib.hid (HX2.out.trans (hB3.mono HX2.out.size)); clear hB3)
        | (at_builtin
           go_loud (refine list_tok _ (by rfl) (.tmp 36) (.tmp 38) (by rfl) w.heap.size u7 0 (tks.take 0).flatten (by rfl) (own_kept HO.out ((HX3.out.alloc HX3.out.size _).alloc (by have := HX3.out.size; simp; omega) _) (Nat.le_refl _)) ⟨w3.heap.size + 1, 0, none⟩ 1 (.int .i64 1) (.string ⟨#[97]⟩) (.int .i64 0) (by rfl) (by rfl) (by rfl) (by rfl) (tok_cells w3 _ _ _ _).1 (tok_cells w3 _ _ _ _).2.1 (tok_cells w3 _ _ _ _).2.2 (by omega) (by have := HW3.out.size; simp; omega) ?_)
           intro v4 w4 hown4 hg4
           have HO4 := Lib.hid hown4
           have HW4 := Lib.hid (((HW3.out.alloc HW3.out.size _).alloc (by have := HW3.out.size; simp; omega) _).grown hg4 (by have := HW3.out.size; simp; omega) (fun k hk => (HO.out.lt k hk).1))
           have r0 : w4.cell? ⟨w3.heap.size, 0, none⟩ = some (.int .i64 1) := tok_first w3 w4 HO.out HX3.out.size hg4
           clear hown4 hg4)
        | fail)
      go_roundw
      case rel => exact ⟨1, 1, by omega, rfl, rfl, HO4.out, HW4.out⟩
      case measure => simp [intOf]
    · obtain rfl : p = 1 := hp
      clear hk
      go_wp2_with (first
        | (go_at_call 10; (with_reducible refine (HB1.out _).mono ?_); rintro e w2 ⟨rfl, hB2⟩; have HW2 := Lib.hid (HB.out.trans (hB2.mono HB.out.size)); have HX2 := Lib.hid hB2; clear hB2)
        | (go_at_call 12; (with_reducible refine (HN1.out _ (cell_kept HM.out HW2.out)).mono ?_); rintro e w3 ⟨rfl, hB3⟩; have HW3 := Lib.hid (HW2.out.trans (hB3.mono HW2.out.size)); have HX3 := Lib.hid (HX2.out.trans (hB3.mono HX2.out.size)); clear hB3)
        | (at_builtin
           go_loud (refine list_tok _ (by rfl) (.tmp 36) (.tmp 38) (by rfl) w.heap.size u7 1 (tks.take 1).flatten (by rfl) (own_kept HO.out ((HX3.out.alloc HX3.out.size _).alloc (by have := HX3.out.size; simp; omega) _) (Nat.le_refl _)) ⟨w3.heap.size + 1, 0, none⟩ 1 (.int .i64 6) (.string ⟨#[60, 61]⟩) (.int .i64 1) (by rfl) (by rfl) (by rfl) (by rfl) (tok_cells w3 _ _ _ _).1 (tok_cells w3 _ _ _ _).2.1 (tok_cells w3 _ _ _ _).2.2 (by omega) (by have := HW3.out.size; simp; omega) ?_)
           intro v4 w4 hown4 hg4
           have HO4 := Lib.hid hown4
           have HW4 := Lib.hid (((HW3.out.alloc HW3.out.size _).alloc (by have := HW3.out.size; simp; omega) _).grown hg4 (by have := HW3.out.size; simp; omega) (fun k hk => (HO.out.lt k hk).1))
           have r0 : w4.cell? ⟨w3.heap.size, 0, none⟩ = some (.int .i64 6) := tok_first w3 w4 HO.out HX3.out.size hg4
           clear hown4 hg4)
        | fail)
      go_roundw
      case rel => exact ⟨2, 3, by omega, rfl, rfl, HO4.out, HW4.out⟩
      case measure => simp [intOf]
    · obtain rfl : p = 3 := hp
      clear hk
      go_wp2_with (first
        | (go_at_call 10; (with_reducible refine (HB2.out _).mono ?_); rintro e w2 ⟨rfl, hB2⟩; have HW2 := Lib.hid (HB.out.trans (hB2.mono HB.out.size)); have HX2 := Lib.hid hB2; clear hB2)
        | (go_at_call 12; (with_reducible refine (HN2.out _ (cell_kept HM.out HW2.out)).mono ?_); rintro e w3 ⟨rfl, hB3⟩; have HW3 := Lib.hid (HW2.out.trans (hB3.mono HW2.out.size)); have HX3 := Lib.hid (HX2.out.trans (hB3.mono HX2.out.size)); clear hB3)
        | (at_builtin
           go_loud (refine list_tok _ (by rfl) (.tmp 36) (.tmp 38) (by rfl) w.heap.size u7 2 (tks.take 2).flatten (by rfl) (own_kept HO.out ((HX3.out.alloc HX3.out.size _).alloc (by have := HX3.out.size; simp; omega) _) (Nat.le_refl _)) ⟨w3.heap.size + 1, 0, none⟩ 1 (.int .i64 3) (.string ⟨#[49]⟩) (.int .i64 3) (by rfl) (by rfl) (by rfl) (by rfl) (tok_cells w3 _ _ _ _).1 (tok_cells w3 _ _ _ _).2.1 (tok_cells w3 _ _ _ _).2.2 (by omega) (by have := HW3.out.size; simp; omega) ?_)
           intro v4 w4 hown4 hg4
           have HO4 := Lib.hid hown4
           have HW4 := Lib.hid (((HW3.out.alloc HW3.out.size _).alloc (by have := HW3.out.size; simp; omega) _).grown hg4 (by have := HW3.out.size; simp; omega) (fun k hk => (HO.out.lt k hk).1))
           have r0 : w4.cell? ⟨w3.heap.size, 0, none⟩ = some (.int .i64 3) := tok_first w3 w4 HO.out HX3.out.size hg4
           clear hown4 hg4)
        | fail)
      go_roundw
      case rel => exact ⟨3, 4, by omega, rfl, rfl, HO4.out, HW4.out⟩
      case measure => simp [intOf]
    · obtain rfl : p = 4 := hp
      clear hk
      go_wp2_with (first
        | (go_at_call 10; (with_reducible refine (HB3.out _).mono ?_); rintro e w2 ⟨rfl, hB2⟩; have HW2 := Lib.hid (HB.out.trans (hB2.mono HB.out.size)); have HX2 := Lib.hid hB2; clear hB2)
        | (go_at_call 12; (with_reducible refine (HN3.out _ (cell_kept HM.out HW2.out)).mono ?_); rintro e w3 ⟨rfl, hB3⟩; have HW3 := Lib.hid (HW2.out.trans (hB3.mono HW2.out.size)); have HX3 := Lib.hid (HX2.out.trans (hB3.mono HX2.out.size)); clear hB3)
        | (at_builtin
           go_loud (refine list_tok _ (by rfl) (.tmp 36) (.tmp 38) (by rfl) w.heap.size u7 3 (tks.take 3).flatten (by rfl) (own_kept HO.out ((HX3.out.alloc HX3.out.size _).alloc (by have := HX3.out.size; simp; omega) _) (Nat.le_refl _)) ⟨w3.heap.size + 1, 0, none⟩ 1 (.int .i64 0) (.string ⟨#[]⟩) (.int .i64 4) (by rfl) (by rfl) (by rfl) (by rfl) (tok_cells w3 _ _ _ _).1 (tok_cells w3 _ _ _ _).2.1 (tok_cells w3 _ _ _ _).2.2 (by omega) (by have := HW3.out.size; simp; omega) ?_)
           intro v4 w4 hown4 hg4
           have HO4 := Lib.hid hown4
           have HW4 := Lib.hid (((HW3.out.alloc HW3.out.size _).alloc (by have := HW3.out.size; simp; omega) _).grown hg4 (by have := HW3.out.size; simp; omega) (fun k hk => (HO.out.lt k hk).1))
           have r0 : w4.cell? ⟨w3.heap.size, 0, none⟩ = some (.int .i64 0) := tok_first w3 w4 HO.out HX3.out.size hg4
           clear hown4 hg4)
        | fail)
      exact bodyPost_ret (v := .tuple #[v4, .int .i64 0, .int .i64 0]) (by simp [results, Tryd.results8, go_sem]) rfl ⟨v4, rfl, HO4.out, HW4.out⟩
end Go.Proofs.YtacodkmbefhicaaDoor
