/- The walks of the document's Put where it answers an error. -/
import Derived.Test.YtcgpflkaejbkhaaGreatDoorQAO
import Derived.Deep.RegionLaw
import Derived.Deep.RegionHeld3
import Derived.Test.YtcgpflkaejbkhaaGreatDoorQAN
import Derived.BigQuiet
import Derived.IntWalk
namespace Go.Proofs.YtcgpflkaejbkhaaGreatDoor
open Go.RowKit

theorem rput_bad (m : Int) (gt : Nat → Nat) (ht : ∀ j, j < 23 → finD (Ieee.double.read (gt j)) = true) (A : Option Addr) (c : Nat) (l : List Tab) (ia : Option Addr) (il ic : Nat) (t : Tab) (w : World) (hG : Glob m gt w) (hD : TabsAt w A l) (hbad : tabBad t = true) :
   Calls Tryz.prog 29 #[.agg #[.slice A l.length c, .slice ia il ic], .agg #[.string t.name, .slice t.ca t.cn t.cc, .int .i64 t.root, .int .i64 t.next, .int .i64 t.rows]] w (ErrP 7 w) := by
 have HST := Lib.hid (PutL.start w A l.length c ia il ic t)
 have HTA := Lib.hid (show ∀ W, Below w.heap.size w W → Calls Tryz.prog 13 #[.agg #[.slice A l.length c, .slice ia il ic], .string t.name] W (FirstP (nameAt l t.name) l.length W) from fun W hB => rtable_any A c l ia il ic t.name W (CellsAt.keep hB hD))
 obtain ⟨b, hb⟩ : ∃ b, b = nameB t.name.data.toList := ⟨_, rfl⟩
 have HNA := Lib.hid (show ∀ W, Below w.heap.size w W → Calls Tryz.prog 47 #[.string t.name] W (RetV (.bool b) W) from fun W hB => by rw [hb]; exact rname_any m gt ht t.name W (hG.keep hB))
 have hor := tabBad_ways hb hbad
 generalize l.length = n at HST HTA ⊢
 clear hG hD hbad ht hb
 obtain ⟨tn, ta, tl, tc, tr, tx, tw⟩ := t
 dsimp only at HST HTA HNA hor ⊢
 rcases hor with rfl | ⟨rfl, r1⟩ | ⟨rfl, r1, r2⟩ | ⟨rfl, r1, r2, r3⟩ | ⟨rfl, r1, r2, r3, r4⟩
 all_goals
   go_enter Tryz.func29, Tryz.ntmps29
   go_wp2_with (first
     | (go_at_call 13; (with_reducible refine (HTA.out _ HST.out.below).mono ?_); rintro e w3 ⟨r, rfl, hr, hB3⟩
        have HK3 := Lib.hid (HST.out.keep hB3)
        have k0 := cell_of_row _ _ 0 _ _ _ HK3.out.tab
        have k1 := cell_of_row _ _ 1 _ _ _ HK3.out.tab
        have k2 := cell_of_row _ _ 2 _ _ _ HK3.out.tab
        have k3 := cell_of_row _ _ 3 _ _ _ HK3.out.tab
        have k4 := cell_of_row _ _ 4 _ _ _ HK3.out.tab
        have s0 := cell_of_row _ _ 0 _ _ _ HK3.out.sch
        have s1 := cell_of_row _ _ 1 _ _ _ HK3.out.sch
        have a0 := cell_of_row _ _ 0 _ _ _ HK3.out.ans
        have a1 := cell_of_row _ _ 1 _ _ _ HK3.out.ans
        have f0 := frozen_of_row _ _ 0 _ _ HK3.out.ans
        have f1 := frozen_of_row _ _ 1 _ _ HK3.out.ans
        clear hB3 hr)
     | (go_at_call 47; (with_reducible refine (HNA.out _ HK3.out.below).mono ?_); rintro e w5 ⟨rfl, hB5⟩
        have HK5 := Lib.hid (HK3.out.keep hB5)
        clear k0 k1 k2 k3 k4 s0 s1 a0 a1 f0 f1
        have k0 := cell_of_row _ _ 0 _ _ _ HK5.out.tab
        have k1 := cell_of_row _ _ 1 _ _ _ HK5.out.tab
        have k2 := cell_of_row _ _ 2 _ _ _ HK5.out.tab
        have k3 := cell_of_row _ _ 3 _ _ _ HK5.out.tab
        have k4 := cell_of_row _ _ 4 _ _ _ HK5.out.tab
        have s0 := cell_of_row _ _ 0 _ _ _ HK5.out.sch
        have s1 := cell_of_row _ _ 1 _ _ _ HK5.out.sch
        have a0 := cell_of_row _ _ 0 _ _ _ HK5.out.ans
        have a1 := cell_of_row _ _ 1 _ _ _ HK5.out.ans
        have f0 := frozen_of_row _ _ 0 _ _ HK5.out.ans
        have f1 := frozen_of_row _ _ 1 _ _ HK5.out.ans
        clear hB5)
     | fail)
   exact bodyPost_ret (v := .tuple #[.agg #[.slice none 0 0, .slice none 0 0], .int .i64 7]) (by simp [results, Tryz.results29, go_sem, a0, a1]) rfl ⟨rfl, HK5.out.done _ _⟩
theorem rput_many (m : Int) (gt : Nat → Nat) (ht : ∀ j, j < 23 → finD (Ieee.double.read (gt j)) = true) (A : Option Addr) (c : Nat) (l : List Tab) (ia : Option Addr) (il ic : Nat) (t : Tab) (w : World) (hG : Glob m gt w) (hD : TabsAt w A l) (hbad : tabBad t = false) (hnew : ∀ p ∈ l, sameN p.name t.name = false) (h8 : 8 ≤ l.length) :
   Calls Tryz.prog 29 #[.agg #[.slice A l.length c, .slice ia il ic], .agg #[.string t.name, .slice t.ca t.cn t.cc, .int .i64 t.root, .int .i64 t.next, .int .i64 t.rows]] w (ErrP 11 w) := by
 have HST := Lib.hid (PutL.start w A l.length c ia il ic t)
 have HTA := Lib.hid (show ∀ W, Below w.heap.size w W → Calls Tryz.prog 13 #[.agg #[.slice A l.length c, .slice ia il ic], .string t.name] W (RetV (.int .i64 (-1)) W) from fun W hB => (rtable_any A c l ia il ic t.name W (CellsAt.keep hB hD)).mono (fun e w' ⟨r, h1, h2, h3⟩ => by rw [first_none hnew h2] at h1; exact ⟨h1, h3⟩))
 obtain ⟨hn, r1, r2, r3, r4⟩ := tabBad_no hbad
 have HNA := Lib.hid (show ∀ W, Below w.heap.size w W → Calls Tryz.prog 47 #[.string t.name] W (RetV (.bool true) W) from fun W hB => by have h := rname_any m gt ht t.name W (hG.keep hB); rwa [hn] at h)
 have r5 : ((8 : Int) ≤ (l.length : Int)) = True := eq_true (by omega)
 generalize l.length = n at HST HTA r5 ⊢
 clear hG hD hbad ht hn hnew h8
 obtain ⟨tn, ta, tl, tc, tr, tx, tw⟩ := t
 dsimp only at HST HTA HNA r1 r2 r3 r4 ⊢
 go_enter Tryz.func29, Tryz.ntmps29
 go_wp2_with (first
   | (go_at_call 13; (with_reducible refine (HTA.out _ HST.out.below).mono ?_); rintro e w3 ⟨rfl, hB3⟩
      have HK3 := Lib.hid (HST.out.keep hB3)
      have k0 := cell_of_row _ _ 0 _ _ _ HK3.out.tab
      have k1 := cell_of_row _ _ 1 _ _ _ HK3.out.tab
      have k2 := cell_of_row _ _ 2 _ _ _ HK3.out.tab
      have k3 := cell_of_row _ _ 3 _ _ _ HK3.out.tab
      have k4 := cell_of_row _ _ 4 _ _ _ HK3.out.tab
      have s0 := cell_of_row _ _ 0 _ _ _ HK3.out.sch
      have s1 := cell_of_row _ _ 1 _ _ _ HK3.out.sch
      have a0 := cell_of_row _ _ 0 _ _ _ HK3.out.ans
      have a1 := cell_of_row _ _ 1 _ _ _ HK3.out.ans
      have f0 := frozen_of_row _ _ 0 _ _ HK3.out.ans
      have f1 := frozen_of_row _ _ 1 _ _ HK3.out.ans
      clear hB3)
   | (go_at_call 47; (with_reducible refine (HNA.out _ HK3.out.below).mono ?_); rintro e w5 ⟨rfl, hB5⟩
      have HK5 := Lib.hid (HK3.out.keep hB5)
      clear k0 k1 k2 k3 k4 s0 s1 a0 a1 f0 f1
      have k0 := cell_of_row _ _ 0 _ _ _ HK5.out.tab
      have k1 := cell_of_row _ _ 1 _ _ _ HK5.out.tab
      have k2 := cell_of_row _ _ 2 _ _ _ HK5.out.tab
      have k3 := cell_of_row _ _ 3 _ _ _ HK5.out.tab
      have k4 := cell_of_row _ _ 4 _ _ _ HK5.out.tab
      have s0 := cell_of_row _ _ 0 _ _ _ HK5.out.sch
      have s1 := cell_of_row _ _ 1 _ _ _ HK5.out.sch
      have a0 := cell_of_row _ _ 0 _ _ _ HK5.out.ans
      have a1 := cell_of_row _ _ 1 _ _ _ HK5.out.ans
      have f0 := frozen_of_row _ _ 0 _ _ HK5.out.ans
      have f1 := frozen_of_row _ _ 1 _ _ HK5.out.ans
      clear hB5)
   | fail)
 exact bodyPost_ret (v := .tuple #[.agg #[.slice none 0 0, .slice none 0 0], .int .i64 11]) (by simp [results, Tryz.results29, go_sem, a0, a1]) rfl ⟨rfl, HK5.out.done _ _⟩
theorem rput_cols (m : Int) (gt : Nat → Nat) (ht : ∀ j, j < 23 → finD (Ieee.double.read (gt j)) = true) (A : Option Addr) (c : Nat) (l : List Tab) (ia : Option Addr) (il ic : Nat) (t : Tab) (cl : List Col) (w : World) (hG : Glob m gt w) (hD : TabsAt w A l) (hcol : ColsAt w t.ca cl) (hcn : t.cn = cl.length) (_hcc : cl.length ≤ t.cc) (hbad : tabBad t = false) (hmany : (∃ p ∈ l, sameN p.name t.name = true) ∨ l.length < 8) (hcr : colsR cl ≠ 0) :
   Calls Tryz.prog 29 #[.agg #[.slice A l.length c, .slice ia il ic], .agg #[.string t.name, .slice t.ca t.cn t.cc, .int .i64 t.root, .int .i64 t.next, .int .i64 t.rows]] w (ErrP (colsR cl) w) := by
 have HST := Lib.hid (PutL.start w A l.length c ia il ic t)
 have HTA := Lib.hid (show ∀ W, Below w.heap.size w W → Calls Tryz.prog 13 #[.agg #[.slice A l.length c, .slice ia il ic], .string t.name] W fun e w' => ∃ r : Int, e = .returned (.int .i64 r) ∧ ((r < 0) = False ∨ ((8 : Int) ≤ (l.length : Int)) = False) ∧ Below W.heap.size W w' from fun W hB => (rtable_any A c l ia il ic t.name W (CellsAt.keep hB hD)).mono (fun e w' ⟨r, h1, h2, h3⟩ => ⟨r, h1, by
   rcases hmany with ⟨p, hp, hs⟩ | h8
   · left
     rcases h2 with ⟨k, hk, rfl, _, _⟩ | ⟨rfl, hq⟩
     · exact eq_false (by omega)
     · exfalso
       obtain ⟨k, hk, rfl⟩ := List.mem_iff_getElem.1 hp
       have := hq k hk
       unfold nameAt at this
       rw [List.getElem?_eq_getElem hk] at this
       rw [show sameN l[k].name t.name = false from this] at hs
       cases hs
   · right; exact eq_false (by omega), h3⟩))
 obtain ⟨hn, r1, r2, r3, r4⟩ := tabBad_no hbad
 have HNA := Lib.hid (show ∀ W, Below w.heap.size w W → Calls Tryz.prog 47 #[.string t.name] W (RetV (.bool true) W) from fun W hB => by have h := rname_any m gt ht t.name W (hG.keep hB); rwa [hn] at h)
 have HCO := Lib.hid (show ∀ W, Below w.heap.size w W → Calls Tryz.prog 21 #[.slice t.ca t.cn t.cc] W (RetV (.int .i64 (colsR cl)) W) from fun W hB => by
   have h := rcolumns_any m gt ht t.ca t.cc cl W (hG.keep hB) (CellsAt.keep hB hcol)
   rw [← hcn] at h
   exact h)
 have r6 : (colsR cl == 0) = false := beq_eq_false_iff_ne.2 hcr
 generalize colsR cl = ce at HCO r6 ⊢
 generalize l.length = n at HST HTA ⊢
 clear hG hD hbad ht hn hmany hcol hcn _hcc hcr
 obtain ⟨tn, ta, tl, tc, tr, tx, tw⟩ := t
 dsimp only at HST HTA HNA HCO r1 r2 r3 r4 ⊢
 go_enter Tryz.func29, Tryz.ntmps29
 go_wp2_with (first
   | (go_at_call 13; (with_reducible refine (HTA.out _ HST.out.below).mono ?_); rintro e w3 ⟨r, rfl, hr, hB3⟩
      have HK3 := Lib.hid (HST.out.keep hB3)
      have k0 := cell_of_row _ _ 0 _ _ _ HK3.out.tab
      have k1 := cell_of_row _ _ 1 _ _ _ HK3.out.tab
      have k2 := cell_of_row _ _ 2 _ _ _ HK3.out.tab
      have k3 := cell_of_row _ _ 3 _ _ _ HK3.out.tab
      have k4 := cell_of_row _ _ 4 _ _ _ HK3.out.tab
      have s0 := cell_of_row _ _ 0 _ _ _ HK3.out.sch
      have s1 := cell_of_row _ _ 1 _ _ _ HK3.out.sch
      have a0 := cell_of_row _ _ 0 _ _ _ HK3.out.ans
      have a1 := cell_of_row _ _ 1 _ _ _ HK3.out.ans
      have f0 := frozen_of_row _ _ 0 _ _ HK3.out.ans
      have f1 := frozen_of_row _ _ 1 _ _ HK3.out.ans
      clear hB3
      rcases hr with hr | hr)
   | (go_at_call 47; (with_reducible refine (HNA.out _ HK3.out.below).mono ?_); rintro e w5 ⟨rfl, hB5⟩
      have HK5 := Lib.hid (HK3.out.keep hB5)
      clear k0 k1 k2 k3 k4 s0 s1 a0 a1 f0 f1
      have k0 := cell_of_row _ _ 0 _ _ _ HK5.out.tab
      have k1 := cell_of_row _ _ 1 _ _ _ HK5.out.tab
      have k2 := cell_of_row _ _ 2 _ _ _ HK5.out.tab
      have k3 := cell_of_row _ _ 3 _ _ _ HK5.out.tab
      have k4 := cell_of_row _ _ 4 _ _ _ HK5.out.tab
      have s0 := cell_of_row _ _ 0 _ _ _ HK5.out.sch
      have s1 := cell_of_row _ _ 1 _ _ _ HK5.out.sch
      have a0 := cell_of_row _ _ 0 _ _ _ HK5.out.ans
      have a1 := cell_of_row _ _ 1 _ _ _ HK5.out.ans
      have f0 := frozen_of_row _ _ 0 _ _ HK5.out.ans
      have f1 := frozen_of_row _ _ 1 _ _ HK5.out.ans
      clear hB5)
   | (go_at_call 21; (with_reducible refine (HCO.out _ HK5.out.below).mono ?_); rintro e w6 ⟨rfl, hB6⟩
      have HK6 := Lib.hid (HK5.out.keep hB6)
      clear k0 k1 k2 k3 k4 s0 s1 a0 a1 f0 f1
      have k0 := cell_of_row _ _ 0 _ _ _ HK6.out.tab
      have k1 := cell_of_row _ _ 1 _ _ _ HK6.out.tab
      have k2 := cell_of_row _ _ 2 _ _ _ HK6.out.tab
      have k3 := cell_of_row _ _ 3 _ _ _ HK6.out.tab
      have k4 := cell_of_row _ _ 4 _ _ _ HK6.out.tab
      have s0 := cell_of_row _ _ 0 _ _ _ HK6.out.sch
      have s1 := cell_of_row _ _ 1 _ _ _ HK6.out.sch
      have a0 := cell_of_row _ _ 0 _ _ _ HK6.out.ans
      have a1 := cell_of_row _ _ 1 _ _ _ HK6.out.ans
      have f0 := frozen_of_row _ _ 0 _ _ HK6.out.ans
      have f1 := frozen_of_row _ _ 1 _ _ HK6.out.ans
      clear hB6)
   | fail)
 all_goals exact bodyPost_ret (v := .tuple #[.agg #[.slice none 0 0, .slice none 0 0], .int .i64 ce]) (by simp [results, Tryz.results29, go_sem, a0, a1]) rfl ⟨rfl, HK6.out.done _ _⟩
end Go.Proofs.YtcgpflkaejbkhaaGreatDoor
namespace Go.Proofs.YtcgpflkaejbkhaaGreatDoor
open Go.RowKit

theorem idxs_one' (l : List Idx) : ∀ u ∈ (l.map idxL).flatten, u.oneCell' = true := by
 intro u hu
 obtain ⟨x, hx, hu⟩ := List.mem_flatten.1 hu
 obtain ⟨c, _, rfl⟩ := List.mem_map.1 hx
 exact idx_one c u hu
theorem idxs_len' (l : List Idx) : (l.map idxL).flatten.length = l.length * 6 := by rw [flat_len (idx_len l), List.length_map]
theorem run_idxs (w : World) (ty : TypeId) (base : Nat) (v : Value) (n : Nat) (xs : List Value) (hown : w.ownsRow base 28 6 v n xs) (ad : Addr) (m c : Nat) (ls : List Idx) (hm : m = ls.length) (hc : ∀ j u, ((ls.map idxL).flatten)[j]? = some u → w.cell? (ad.add j) = some u) (hl : n + m ≤ 2000) (hbase : base ≤ w.heap.size) :
   ∃ v' w', (Builtin.append_ #[34, 34] ty #[v, .slice (some ad) m c]).run Tryz.prog w = .ok v' w' ∧ w'.ownsRow base 28 6 v' (n + m) (xs ++ (ls.map idxL).flatten) ∧ w.grownBy w' v.ownBlock ∧ (v'.ownBlock = v.ownBlock ∨ v'.ownBlock = some w.heap.size) := by
 obtain ⟨i0, hi0, hz0, hz1, hz2⟩ := info_parts info28
 obtain ⟨v', w', hrun, g2, g3, _, g5⟩ := run_append_own_at (P := Tryz.prog) w base 34 ty 28 i0 _ 6 80 Tryz.underlying34 hi0 hz0 hz1 hz2 rfl (by omega) v n xs hown ad m c (ls.map idxL).flatten (by rw [idxs_len', hm]) hc (idxs_one' ls) (by unfold maxLen; omega) (by omega) hbase
 exact ⟨v', w', hrun, g2, g3, g5⟩
theorem list_idxs (w : World) {ops : Array Oper} {rest : List Oper} {o : Oper} {a : Act} {Q : Exit → Act → World → Prop} (hgd : o.guard = none) (s x : Operand)
   (ho : o.op = .call { callee := .builtin .append, args := #[s, x], argTypes := #[34, 34] }) (base : Nat) (v : Value) (n : Nat) (xs : List Value) (hv : a.eval s = v) (hown : w.ownsRow base 28 6 v n xs)
   (ad : Addr) (m c : Nat) (ls : List Idx) (hx : a.eval x = .slice (some ad) m c) (hm : m = ls.length) (hc : ∀ j u, ((ls.map idxL).flatten)[j]? = some u → w.cell? (ad.add j) = some u) (hl : n + m ≤ 2000) (hbase : base ≤ w.heap.size)
   (h : ∀ v' w', w'.ownsRow base 28 6 v' (n + m) (xs ++ (ls.map idxL).flatten) → w.grownBy w' v.ownBlock → (v'.ownBlock = v.ownBlock ∨ v'.ownBlock = some w.heap.size) → wpList Tryz.prog ops Q rest (a.put o.dst v') w') : wpList Tryz.prog ops Q (o :: rest) a w := by
 refine wpList_plain hgd fun K hK => ?_
 obtain ⟨v', w', hrun, g2, g3, g5⟩ := run_idxs w o.type base v n xs hown ad m c ls hm hc hl hbase
 unfold Oper.wp
 simp only [execOp, ho, resolve, invoke, builtin, Sem.run_bind, Sem.run_pure, Result.andThen_ok, List.map_toArray, List.map_cons, List.map_nil, hv, hx, hrun]
 exact hK _ _ (h v' w' g2 g3 g5)
theorem step_idxs (w : World) {ops : Array Oper} {o : Oper} {a : Act} {K : Act → World → Prop} {Q : Exit → Act → World → Prop} {E : Prop} (hgd : o.guard = none) (s x : Operand)
   (ho : o.op = .call { callee := .builtin .append, args := #[s, x], argTypes := #[34, 34] }) (base : Nat) (v : Value) (n : Nat) (xs : List Value) (hv : a.eval s = v) (hown : w.ownsRow base 28 6 v n xs)
   (ad : Addr) (m c : Nat) (ls : List Idx) (hx : a.eval x = .slice (some ad) m c) (hm : m = ls.length) (hc : ∀ j u, ((ls.map idxL).flatten)[j]? = some u → w.cell? (ad.add j) = some u) (hl : n + m ≤ 2000) (hbase : base ≤ w.heap.size)
   (h : ∀ v' w', w'.ownsRow base 28 6 v' (n + m) (xs ++ (ls.map idxL).flatten) → w.grownBy w' v.ownBlock → (v'.ownBlock = v.ownBlock ∨ v'.ownBlock = some w.heap.size) → K (a.put o.dst v') w') :
   if Region.wanted o (yielded ops a.tmps) = true then Oper.wp Tryz.prog o a w K Q else E := by
 have hw : Region.wanted o (yielded ops a.tmps) = true := by simp [Region.wanted, hgd]
 rw [if_pos hw]
 obtain ⟨v', w', hrun, g2, g3, g5⟩ := run_idxs w o.type base v n xs hown ad m c ls hm hc hl hbase
 unfold Oper.wp
 simp only [execOp, ho, resolve, invoke, builtin, Sem.run_bind, Sem.run_pure, Result.andThen_ok, List.map_toArray, List.map_cons, List.map_nil, hv, hx, hrun]
 exact h v' w' g2 g3 g5
theorem run_idxs_nil (w : World) (ty : TypeId) (g n cap c : Nat) (hn : n ≤ cap) : (Builtin.append_ #[34, 34] ty #[.slice (some ⟨g, 0, none⟩) n cap, .slice none 0 c]).run Tryz.prog w = .ok (.slice (some ⟨g, 0, none⟩) n cap) w := by
 obtain ⟨i0, hi0, hz0, hz1, hz2⟩ := info_parts info28
 simp [Builtin.append_, run_underlying Tryz.underlying34, sizeOf, typeInfo, hi0, Builtin.lenOf, hn, run_firstCells_none, storeCells]
theorem own_partX {w : World} {base g n cap : Nat} {ls : List Idx} (h : w.ownsRow base 28 6 (.slice (some ⟨g, 0, none⟩) n cap) n (ls.map idxL).flatten) (j _q : Nat) (ls2 : List Idx) (hls : ∃ p r, ls = p ++ ls2 ++ r ∧ p.length = j) : ∀ i u, ((ls2.map idxL).flatten)[i]? = some u → w.cell? ((⟨g, j * 6, none⟩ : Addr).add i) = some u := by
 intro i u hu
 obtain ⟨p, r, rfl, rfl⟩ := hls
 have hi := (List.getElem?_eq_some_iff.1 hu).1
 have e := h.cells rfl (p.length * 6 + i) u (by
   rw [List.map_append, List.map_append, List.flatten_append, List.flatten_append, List.append_assoc, List.getElem?_append_right (by rw [idxs_len']; omega), idxs_len', Nat.add_sub_cancel_left, List.getElem?_append_left hi]
   exact hu)
 rw [Addr.add_lit] at e ⊢
 rwa [Nat.zero_add] at e
set_option maxRecDepth 100000 in
set_option maxHeartbeats 16000000 in
theorem rindexes_any (A : Option Addr) (c : Nat) (l : List Idx) (w : World) (h : IdxsAt w A l) (hl : l.length ≤ 900) : Calls Tryz.prog 63 #[.slice A l.length c] w fun e w' => ∃ v, e = .returned v ∧ Below w.heap.size w w' ∧ w'.ownsRow w.heap.size 28 6 v l.length ((sortG Idx.name l).map idxL).flatten := by
 have H := Lib.hid h
 obtain ⟨R, hR⟩ : ∃ R, R = sortG Idx.name l := ⟨_, rfl⟩
 have HR0 := Lib.hid (show R = (l.drop 0).foldl (insG Idx.name) [] by rw [hR, sortG_fold]; rfl)
 rw [← hR]
 obtain ⟨n, hn⟩ : ∃ n, n = l.length := ⟨_, rfl⟩
 have HN := Lib.hid hn
 rw [← hn] at hl ⊢
 clear h hn hR
 go_enter Tryz.func63, Tryz.ntmps63
 go_wp2_with fail
 go_loopw [3, 4] (fun v i wr => ∃ (k : Nat) (outs : List Idx), k ≤ n ∧ i = .int .i64 k ∧ (k = 0 → v = .slice none 0 0) ∧ Hid (Below w.heap.size w wr) ∧ Hid (wr.ownsRow w.heap.size 28 6 v k (outs.map idxL).flatten) ∧ Hid (outs.length = k) ∧ Hid (R = (l.drop k).foldl (insG Idx.name) outs)) (fun _ i _ => n - (intOf i).toNat)
 case atStart => exact ⟨0, [], Nat.zero_le _, rfl, fun _ => rfl, Lib.hid (Below.refl _ _), Lib.hid (World.ownsRow_nil _ _ _ _), Lib.hid rfl, HR0⟩
 case round =>
   obtain ⟨k, outs, hk, rfl, hv0, HB, HO, HL, HR⟩ := hrel
   obtain ⟨wo, rfl⟩ : ∃ wo : World, wo = wr := ⟨_, rfl⟩
   by_cases hlt : k < n
   · obtain ⟨x, hx⟩ : ∃ x, l[k]? = some x := ⟨_, List.getElem?_eq_getElem (by have := HN.out; omega)⟩
     have HRN := Lib.hid (show R = (l.drop (k + 1)).foldl (insG Idx.name) (insG Idx.name outs x) by
       obtain ⟨h1, h2⟩ := List.getElem?_eq_some_iff.1 hx
       rw [HR.out, List.drop_eq_getElem_cons h1, List.foldl_cons, h2])
     obtain ⟨b, off, rfl, hbl, HC⟩ : ∃ b off, A = some ⟨b, off, none⟩ ∧ b < w.heap.size ∧ Hid (∀ W, Below w.heap.size w W → ∀ (i : Nat) (u : Value), (idxL x)[i]? = some u → W.cell? ⟨b, off + k * 6 + i, none⟩ = some u) := by
       rcases H.out.2 with h0 | ⟨b, off, h1, h2, h3⟩
       · exfalso
         have := List.map_eq_nil_iff.1 h0
         subst this
         simp at hx
       · refine ⟨b, off, h1, h2, fun W hB i u hi => (hB.cell (p := ⟨b, off + k * 6 + i, none⟩) h2).trans ((h3 k (idxL x) ?_).2 i u hi)⟩
         rw [List.getElem?_map, hx]
         rfl
     have hkn : ((k : Int) < (n : Int)) = True := eq_true (by omega)
     have HX1 := Lib.hid (show ∀ W : World, w.heap.size ≤ W.heap.size → (W.alloc (.cells (idxL x).toArray 28)).ownsRow w.heap.size 28 6 (.slice (some ⟨W.heap.size, 0, none⟩) 1 1) 1 (idxL x) from fun W hW => by
       have := World.ownsRow_lit (base := w.heap.size) (e := 28) (size := 6) W (idxL x).toArray 1 hW (by unfold maxLen; omega) (by simp [idxL])
       simpa using this)
     have HX0 := Lib.hid (show ∀ W : World, w.heap.size ≤ W.heap.size → (W.alloc (.cells #[] 28)).ownsRow w.heap.size 28 6 (.slice (some ⟨W.heap.size, 0, none⟩) 0 0) 0 [] from fun W hW => World.ownsRow_made W #[] 0 hW (Nat.zero_le _) (by simp))
     clear hx
     obtain ⟨xn, xt, xa, xl, xc, xr, xx, xs⟩ := x
     dsimp only [idxL] at HX1
     have HF := Lib.hid (show ∀ (wz W : World) (v : Value) (m : Nat) (ys : List Value), Below w.heap.size w wz → wz.ownsRow w.heap.size 28 6 v m ys → (W = wz.drew.alloc (.cells #[.string xn, .string xt, .slice xa xl xc, .int .i64 xr, .int .i64 xx, .int .i64 xs] 28) ∨ W = (wz.alloc (.cells #[.string xn, .string xt, .slice xa xl xc, .int .i64 xr, .int .i64 xx, .int .i64 xs] 28)).drew) → W.heap.size = wz.heap.size + 1 ∧ Below w.heap.size w W ∧ W.ownsRow w.heap.size 28 6 (.slice (some ⟨wz.heap.size, 0, none⟩) 1 1) 1 [.string xn, .string xt, .slice xa xl xc, .int .i64 xr, .int .i64 xx, .int .i64 xs] ∧ W.ownsRow w.heap.size 28 6 v m ys ∧ W.heap[wz.heap.size]? = some (.cells #[.string xn, .string xt, .slice xa xl xc, .int .i64 xr, .int .i64 xx, .int .i64 xs] 28) from fun wz W v m ys hB hO hW => by
       have h1 : (wz.alloc (.cells #[.string xn, .string xt, .slice xa xl xc, .int .i64 xr, .int .i64 xx, .int .i64 xs] 28)).heap.size = wz.heap.size + 1 := World.size_alloc _ _
       have h2 : Below w.heap.size w (wz.alloc (.cells #[.string xn, .string xt, .slice xa xl xc, .int .i64 xr, .int .i64 xx, .int .i64 xs] 28)) := hB.alloc hB.size _
       have h3 := HX1.out wz hB.size
       have h4 := own_kept hO (below1 wz (.cells #[.string xn, .string xt, .slice xa xl xc, .int .i64 xr, .int .i64 xx, .int .i64 xs] 28)) (Nat.le_refl _)
       have h5 := heap_alloc_new wz (.cells #[.string xn, .string xt, .slice xa xl xc, .int .i64 xr, .int .i64 xx, .int .i64 xs] 28)
       rcases hW with rfl | rfl
       · exact ⟨h1, hB.drew.alloc hB.size _, h3, h4, h5⟩
       · exact ⟨h1, h2.drew, h3, h4, h5⟩)
     by_cases hk0 : k = 0
     · subst hk0
       obtain rfl := hv0 rfl
       obtain rfl : outs = [] := List.length_eq_zero_iff.1 HL.out
       have hnil : ∀ (W : World) (ty : TypeId) (g a : Nat), (Builtin.append_ #[34, 34] ty #[.slice (some ⟨g, 0, none⟩) a a, .slice none 0 0]).run Tryz.prog W = .ok (.slice (some ⟨g, 0, none⟩) a a) W := fun W ty g a => run_idxs_nil W ty g a a 0 (Nat.le_refl _)
       go_wp2_with fail
       go_loopw [5] (fun i wr => i = .int .i64 0 ∧ Hid (Below wo.heap.size wo wr)) (fun _ _ => 0)
       case atStart => exact ⟨by go_num, Lib.hid (Below.refl _ _)⟩
       case round =>
         obtain ⟨rfl, HBI⟩ := hrel
         obtain ⟨wi, rfl⟩ : ∃ wi : World, wi = wr := ⟨_, rfl⟩
         go_wp2_with fail
         go_quiet ((fail))
         go_wp2_with fail
         obtain ⟨wz, hwz⟩ : ∃ wz, wz = wi.drewN nq := ⟨_, rfl⟩
         have HBZ := Lib.hid (show Below w.heap.size w wz from by rw [hwz]; exact HB.out.trans ((HBI.out.trans ((below_drewN (Below.refl _ _) nq).mono HBI.out.size)).mono HB.out.size))
         rw [← hwz]
         clear hwz
         have k0 : wz.drew.cell? ⟨b, off, none⟩ = some (.string xn) := by simpa using HC.out _ HBZ.out.drew 0 _ rfl
         have k1 : wz.drew.cell? ⟨b, off + 1, none⟩ = some (.string xt) := by simpa using HC.out _ HBZ.out.drew 1 _ rfl
         have k2 : wz.drew.cell? ⟨b, off + 2, none⟩ = some (.slice xa xl xc) := by simpa using HC.out _ HBZ.out.drew 2 _ rfl
         have k3 : wz.drew.cell? ⟨b, off + 3, none⟩ = some (.int .i64 xr) := by simpa using HC.out _ HBZ.out.drew 3 _ rfl
         have k4 : wz.drew.cell? ⟨b, off + 4, none⟩ = some (.int .i64 xx) := by simpa using HC.out _ HBZ.out.drew 4 _ rfl
         have k5 : wz.drew.cell? ⟨b, off + 5, none⟩ = some (.int .i64 xs) := by simpa using HC.out _ HBZ.out.drew 5 _ rfl
         have HFa := Lib.hid (HF.out wz _ (.slice none 0 0) 0 [] HBZ.out (World.ownsRow_nil _ _ _ _) (Or.inl rfl))
         have HFb := Lib.hid (HF.out wz _ (.slice none 0 0) 0 [] HBZ.out (World.ownsRow_nil _ _ _ _) (Or.inr rfl))
         go_region_law (first
           | fail)
         all_goals
           first
           | (obtain ⟨w1, hw1⟩ : ∃ w1, w1 = wz.drew.alloc (.cells #[.string xn, .string xt, .slice xa xl xc, .int .i64 xr, .int .i64 xx, .int .i64 xs] 28) := ⟨_, rfl⟩
              rw [← hw1]
              have HF1 := HFa
              rw [← hw1] at HF1
              clear hw1)
           | (obtain ⟨w1, hw1⟩ : ∃ w1, w1 = (wz.alloc (.cells #[.string xn, .string xt, .slice xa xl xc, .int .i64 xr, .int .i64 xx, .int .i64 xs] 28)).drew := ⟨_, rfl⟩
              rw [← hw1]
              have HF1 := HFb
              rw [← hw1] at HF1
              clear hw1)
           clear k0 k1 k2 k3 k4 k5 HFa HFb
           have HOW := Lib.hid (HX0.out w1 HF1.out.2.1.size)
           go_wp2_with (at_builtin; refine list_idxs _ (by rfl) (.tmp 46) (.tmp 47) (by rfl) w.heap.size (.slice (some ⟨w1.heap.size, 0, none⟩) 0 0) 0 [] (by rfl) HOW.out ⟨wz.heap.size, 0, none⟩ 1 1 [⟨xn, xt, xa, xl, xc, xr, xx, xs⟩] (by rfl) rfl ?qc (by omega) ?qb ?_)
           trace_state
           case qc =>
             intro j u hj
             rw [Addr.add_lit, Nat.zero_add]
             refine (cell_of_row _ wz.heap.size j _ _ _ ((heap_alloc_old _ _ (by rw [HF1.out.1]; omega)).trans HF1.out.2.2.2.2)).trans ?_
             simpa [idxL] using hj
           case qb => have := HF1.out.2.1.size; simp; omega
           intro v8 w8 hown hgr hat
           have HOW8 := Lib.hid (show w8.ownsRow w.heap.size 28 6 v8 (0 + 1) (([⟨xn, xt, xa, xl, xc, xr, xx, xs⟩] : List Idx).map idxL).flatten from by simpa using hown)
           have HB8 := Lib.hid (show Below w.heap.size w w8 from (HF1.out.2.1.alloc HF1.out.2.1.size _).grown hgr (by have := HF1.out.2.1.size; simp; omega) (fun q hq => by have h1 : w1.heap.size = q := Option.some.inj hq; have := HF1.out.2.1.size; omega))
           clear hown hgr hat
           go_wp2
           go_roundw
           case rel => exact ⟨1, [⟨xn, xt, xa, xl, xc, xr, xx, xs⟩], by omega, by go_num, (fun h => by omega), HB8, HOW8, Lib.hid rfl, HRN⟩
           case measure => simp [intOf] <;> omega
     · obtain ⟨g, cap, rfl⟩ := own_slice' hk0 HO.out
       have hkc : k ≤ cap := by
         rcases HO.out.2 with ⟨e1, _⟩ | ⟨g', cap', cur, e1, _, _, h5, _⟩
         · cases e1
         · cases e1; exact h5
       have hcm : cap ≤ maxLen := by
         rcases HO.out.2 with ⟨e1, _⟩ | ⟨g', cap', cur, e1, _, _, _, h5, _⟩
         · cases e1
         · cases e1; exact h5
       unfold maxLen at hcm
       obtain ⟨O, hO⟩ : ∃ O, O = insG Idx.name outs ⟨xn, xt, xa, xl, xc, xr, xx, xs⟩ := ⟨_, rfl⟩
       rw [← hO] at HRN
       have HSK := Lib.hid (show O = sinkG Idx.name (k) (outs.take (k) ++ ⟨xn, xt, xa, xl, xc, xr, xx, xs⟩ :: outs.drop (k)) from by
         have h1 := HL.out
         rw [hO, ← h1, List.take_length, List.drop_length]
         rfl)
       clear hv0 hO
       go_wp2_with fail
       go_loopw [5] (fun i wr => ∃ j : Nat, j ≤ k ∧ i = .int .i64 j ∧ Hid (Below wo.heap.size wo wr) ∧ Hid (O = sinkG Idx.name j (outs.take j ++ ⟨xn, xt, xa, xl, xc, xr, xx, xs⟩ :: outs.drop j))) (fun i _ => (intOf i).toNat)
       case atStart => exact ⟨k, Nat.le_refl _, by go_num, Lib.hid (Below.refl _ _), HSK⟩
       case round =>
         obtain ⟨j, hj, rfl, HBI, HSJ⟩ := hrel
         obtain ⟨wi, rfl⟩ : ∃ wi : World, wi = wr := ⟨_, rfl⟩
         have HBW := Lib.hid (show Below w.heap.size w wi from HB.out.trans (HBI.out.mono HB.out.size))
         have HOI := Lib.hid (own_kept HO.out HBI.out (Nat.le_refl _))
         have hways : (∃ (j' : Nat) (y : Idx), j = j' + 1 ∧ outs[j']? = some y ∧ Op.bytesLess xn.toList y.name.toList = true ∧ Hid (O = sinkG Idx.name j' (outs.take j' ++ ⟨xn, xt, xa, xl, xc, xr, xx, xs⟩ :: outs.drop j'))) ∨ (Hid (O = outs.take j ++ ⟨xn, xt, xa, xl, xc, xr, xx, xs⟩ :: outs.drop j) ∧ (j = 0 ∨ ∃ (j' : Nat) (y : Idx), j = j' + 1 ∧ outs[j']? = some y ∧ Op.bytesLess xn.toList y.name.toList = false)) := by
           cases j with
           | zero => exact Or.inr ⟨Lib.hid HSJ.out, Or.inl rfl⟩
           | succ j' =>
             have hl0 := HL.out
             have hjl : j' < outs.length := by omega
             have e1 := HSJ.out
             have e2 : outs.take (j' + 1) = outs.take j' ++ [outs[j']] := List.take_succ_eq_append_getElem hjl
             have e3 : outs.drop j' = outs[j'] :: outs.drop (j' + 1) := List.drop_eq_getElem_cons hjl
             have e4 : (outs.take j').length = j' := by rw [List.length_take]; omega
             rw [e2, List.append_assoc] at e1
             have e5 := sinkG_step Idx.name (outs.take j') outs[j'] (⟨xn, xt, xa, xl, xc, xr, xx, xs⟩ : Idx) (outs.drop (j' + 1))
             rw [e4] at e5
             have e6 := e1.trans e5
             cases hq : Op.bytesLess xn.toList outs[j'].name.toList with
             | true =>
               refine Or.inl ⟨j', outs[j'], rfl, List.getElem?_eq_getElem hjl, hq, Lib.hid ?_⟩
               rw [e6, e3]
               exact if_pos hq
             | false =>
               refine Or.inr ⟨Lib.hid ?_, Or.inr ⟨j', outs[j'], rfl, List.getElem?_eq_getElem hjl, hq⟩⟩
               rw [e6, e2, List.append_assoc]
               exact if_neg (by show ¬ (Op.bytesLess xn.toList outs[j'].name.toList = true); rw [hq]; decide)
         have kk0 := HC.out _ HBW.out 0 _ rfl
         rw [Nat.add_zero] at kk0
         rcases hways with ⟨j', y, rfl, hy, hless, HNX⟩ | ⟨HFIN, hstop⟩
         · have hcy : wi.cell? ⟨g, j' * 6, none⟩ = some (.string y.name) := by
             have h1 := HOI.out.cells rfl (j' * 6 + 0) (.string y.name) (flat_get (idx_len outs) (by rw [List.getElem?_map, hy]; rfl) rfl)
             rw [Addr.add_lit, Nat.zero_add] at h1
             exact h1
           have hkk : ((j' : Int) + 1).toNat = j' + 1 := by omega
           have hjk : (j' : Int) < (k : Int) := by omega
           have hjk2 : j' < k := by omega
           have hj0 : ((0 : Int) < (j' : Int) + 1) = True := eq_true (by omega)
           have hw1 : IntKind.i64.wrap (j' : Int) = (j' : Int) := IntWalk.i64_in _ (by omega)
           clear hy
           go_wp2_with fail
           go_quiet ((fail))
           go_wp2_with fail
           go_roundw
           case rel => exact ⟨j', by omega, by go_num, Lib.hid (HBI.out.trans (below_drewN ((Below.refl _ _).mono HBI.out.size) nq)), HNX⟩
           case measure => simp [intOf] <;> omega
         · obtain ⟨A, hA, HSRC⟩ : ∃ A : Addr, (if cap = j then (some ⟨g, 0, none⟩ : Option Addr) else some ⟨g, j * 6, none⟩) = some A ∧ Hid (∀ W : World, W.ownsRow w.heap.size 28 6 (.slice (some ⟨g, 0, none⟩) k cap) k (outs.map idxL).flatten → ∀ i u, ((outs.drop j).map idxL).flatten[i]? = some u → W.cell? (A.add i) = some u) := by
             by_cases h : cap = j
             · refine ⟨⟨g, 0, none⟩, by simp [h], fun W hW i u hu => ?_⟩
               have h0 : (outs.drop j).length = 0 := by rw [List.length_drop, HL.out]; omega
               rw [List.length_eq_zero_iff.1 h0] at hu
               simp at hu
             · exact ⟨⟨g, j * 6, none⟩, by simp [h], fun W hW i u hu => own_partX hW j 0 (outs.drop j) ⟨outs.take j, [], by rw [List.append_nil, List.take_append_drop], by rw [List.length_take, HL.out]; omega⟩ i u hu⟩
           have hjk : ((j : Int) < (k : Int)) ∨ j = k := by omega
           have hjc : j ≤ cap := by omega
           have HLD := Lib.hid (show k - j = (outs.drop j).length by rw [List.length_drop, HL.out])
           have HLT := Lib.hid (show j = (outs.take j).length by rw [List.length_take, HL.out]; omega)
           have HSRT := Lib.hid (show ∀ W : World, W.ownsRow w.heap.size 28 6 (.slice (some ⟨g, 0, none⟩) k cap) k (outs.map idxL).flatten → ∀ i u, ((outs.take j).map idxL).flatten[i]? = some u → W.cell? ((⟨g, 0, none⟩ : Addr).add i) = some u from fun W hW i u hu => by
             have := own_partX hW 0 0 (outs.take j) ⟨[], outs.drop j, by rw [List.nil_append, List.take_append_drop], rfl⟩ i u hu
             simpa using this)
           have hg0 : ∀ (j' : Nat) (y : Idx), outs[j']? = some y → wi.cell? ⟨g, j' * 6, none⟩ = some (.string y.name) := fun j' y hy => by
             have h1 := HOI.out.cells rfl (j' * 6 + 0) (.string y.name) (flat_get (idx_len outs) (by rw [List.getElem?_map, hy]; rfl) rfl)
             rw [Addr.add_lit, Nat.zero_add] at h1
             exact h1
           obtain ⟨jz, hjz⟩ : ∃ jz, jz = j := ⟨_, rfl⟩
           have HJZ := Lib.hid hjz
           have hpre : (decide (0 < j) = false) ∨ ∃ (yn : ByteArray), (decide (0 < j) = true ∧ 0 < j ∧ 1 ≤ j ∧ ((1 : Int) ≤ (j : Int)) = True ∧ ((j : Int) - 1).toNat = j - 1 ∧ ((j : Int) - 1) < (k : Int) ∧ j - 1 < k ∧ ((0 : Int) < (j : Int)) = True ∧ ((0 : Int) ≤ (j : Int) - 1) = True ∧ IntKind.i64.wrap ((j : Int) - 1) = (j : Int) - 1 ∧ wi.cell? ⟨g, (j - 1) * 6, none⟩ = some (.string yn) ∧ Op.bytesLess xn.toList yn.toList = false) := by
             rcases hstop with h | ⟨j', y, h1, h2, h3⟩
             · exact Or.inl (decide_eq_false (by omega))
             · refine Or.inr ⟨y.name, decide_eq_true (by omega), by omega, by omega, eq_true (by omega), by omega, by omega, by omega, eq_true (by omega), eq_true (by omega), IntWalk.i64_in _ (by omega), hg0 (j - 1) y (by rw [h1, Nat.add_sub_cancel]; exact h2), h3⟩
           clear hstop hg0 hjk hjz
           rcases hpre with hj00 | ⟨yn, hj00, f1, f2, f3, f4, f5, f6, f8, f9, f10, f7, f11⟩
           all_goals
             go_wp2_with fail
             go_quiet ((fail))
             go_wp2_with fail
             obtain ⟨wz, hwz⟩ : ∃ wz, wz = wi.drewN nq := ⟨_, rfl⟩
             have HBZ := Lib.hid (show Below w.heap.size w wz from by rw [hwz]; exact below_drewN HBW.out nq)
             have HOZ := Lib.hid (show wz.ownsRow w.heap.size 28 6 (.slice (some ⟨g, 0, none⟩) k cap) k (outs.map idxL).flatten from by rw [hwz]; exact own_kept HOI.out (below_drewN (Below.refl _ _) nq) (Nat.le_refl _))
             rw [← hwz]
             clear hwz kk0
             (try clear f7)
             have k0 : wz.drew.cell? ⟨b, off + k * 6, none⟩ = some (.string xn) := HC.out _ HBZ.out.drew 0 _ rfl
             have k1 : wz.drew.cell? ⟨b, off + k * 6 + 1, none⟩ = some (.string xt) := HC.out _ HBZ.out.drew 1 _ rfl
             have k2 : wz.drew.cell? ⟨b, off + k * 6 + 2, none⟩ = some (.slice xa xl xc) := HC.out _ HBZ.out.drew 2 _ rfl
             have k3 : wz.drew.cell? ⟨b, off + k * 6 + 3, none⟩ = some (.int .i64 xr) := HC.out _ HBZ.out.drew 3 _ rfl
             have k4 : wz.drew.cell? ⟨b, off + k * 6 + 4, none⟩ = some (.int .i64 xx) := HC.out _ HBZ.out.drew 4 _ rfl
             have k5 : wz.drew.cell? ⟨b, off + k * 6 + 5, none⟩ = some (.int .i64 xs) := HC.out _ HBZ.out.drew 5 _ rfl
             have HF' := Lib.hid (fun W h => HF.out wz W _ _ _ HBZ.out HOZ.out h)
             go_region_law (first
               | (have HF1 := Lib.hid (HF'.out _ (by first | exact Or.inl rfl | exact Or.inr rfl))
                  refine step_idxs _ (by rfl) (.tmp 37) (.tmp 40) (by rfl) w.heap.size (.slice (some ⟨wz.heap.size, 0, none⟩) 1 1) 1 (idxL ⟨xn, xt, xa, xl, xc, xr, xx, xs⟩) (by rfl) HF1.out.2.2.1 A (k - j) (cap - j) (outs.drop j) (by simp [Act.eval]) HLD.out (fun i u hu => HSRC.out _ HF1.out.2.2.2.1 i u hu) (by omega) HF1.out.2.1.size ?_
                  intro v6 w6 hown hgr hat
                  rw [Nat.add_comm] at hown
                  obtain ⟨g6, cap6, rfl⟩ := own_slice hown
                  have HV6 := Lib.hid hown
                  have HO6 := Lib.hid (show w6.ownsRow w.heap.size 28 6 (.slice (some ⟨g, 0, none⟩) k cap) k (outs.map idxL).flatten from World.ownsRow.kept HF1.out.2.2.2.1 hgr (Or.inr (fun e => by have h1 := (HOZ.out.lt g rfl).2; have h2 : g = wz.heap.size := Option.some.inj e; omega)))
                  have HB6 := Lib.hid (show Below w.heap.size w w6 from HF1.out.2.1.grown hgr HF1.out.2.1.size (fun q hq => by have h1 : wz.heap.size = q := Option.some.inj hq; have := HBZ.out.size; omega))
                  have H6L := Lib.hid (show g6 < w6.heap.size ∧ g < w6.heap.size ∧ g6 ≠ g from ⟨(hown.lt g6 rfl).2, (HO6.out.lt g rfl).2, fun e => by
                    have h1 := (HOZ.out.lt g rfl).2
                    rcases hat with h2 | h2
                    · have h3 : g6 = wz.heap.size := Option.some.inj h2
                      omega
                    · have h3 : g6 = wz.heap.size + 1 := (Option.some.inj h2).trans HF1.out.1
                      omega⟩)
                  clear hown hgr hat)
               | fail)
             all_goals
               clear k0 k1 k2 k3 k4 k5
               have HOW := Lib.hid (HX0.out w6 HB6.out.size)
               have HB7 := Lib.hid (HB6.out.alloc HB6.out.size (.cells #[] 28))
               have HO7 := Lib.hid (own_kept HO6.out (below1 w6 (.cells #[] 28)) (Nat.le_refl _))
               have HV7 := Lib.hid (own_kept HV6.out (below1 w6 (.cells #[] 28)) (Nat.le_refl _))
               go_wp2_with (at_builtin; refine list_idxs _ (by rfl) (.tmp 42) (.tmp 45) (by rfl) w.heap.size (.slice (some ⟨w6.heap.size, 0, none⟩) 0 0) 0 [] (by rfl) HOW.out ⟨g, 0, none⟩ j cap (outs.take j) (by rfl) HLT.out (fun i u hu => HSRT.out _ HO7.out i u hu) (by omega) ?qb ?_)
               case qb => have := HB6.out.size; simp; omega
               intro v8 w8 hown hgr hat
               have HOW8 := Lib.hid (show w8.ownsRow w.heap.size 28 6 v8 j (((outs.take j).map idxL).flatten) from by simpa using hown)
               have HV8 := Lib.hid (show w8.ownsRow w.heap.size 28 6 (.slice (some ⟨g6, 0, none⟩) (k - j + 1) cap6) (k - j + 1) (idxL ⟨xn, xt, xa, xl, xc, xr, xx, xs⟩ ++ ((outs.drop j).map idxL).flatten) from World.ownsRow.kept HV7.out hgr (Or.inr (fun e => by have h1 := H6L.out.1; have h2 : g6 = w6.heap.size := Option.some.inj e; omega)))
               have HB8 := Lib.hid (show Below w.heap.size w w8 from HB7.out.grown hgr HB7.out.size (fun q hq => by have h1 : w6.heap.size = q := Option.some.inj hq; have := HB6.out.size; omega))
               have HBK := Lib.hid (show ∀ q, v8.ownBlock = some q → w.heap.size ≤ q from fun q hq => (HOW8.out.lt q hq).1)
               clear hown hgr hat
               go_wp2_with (at_builtin; refine list_idxs _ (by rfl) (.tmp 46) (.tmp 47) (by rfl) w.heap.size v8 j ((outs.take j).map idxL).flatten (by rfl) HOW8.out ⟨g6, 0, none⟩ (k - j + 1) cap6 (⟨xn, xt, xa, xl, xc, xr, xx, xs⟩ :: outs.drop j) (by rfl) ?qm ?qc (by omega) ?qb ?_)
               case qm => rw [List.length_cons, ← HLD.out]
               case qc =>
                 intro i u hu
                 exact HV8.out.cells rfl i u (by simpa using hu)
               case qb => exact HB8.out.size
               intro v9 w9 hown hgr hat
               have HE9 := Lib.hid (show j + (k - j + 1) = k + 1 by omega)
               have HOW9 := Lib.hid (show w9.ownsRow w.heap.size 28 6 v9 (k + 1) (O.map idxL).flatten from by
                 have h := hown
                 rw [HE9.out] at h
                 rw [HFIN.out]
                 simpa using h)
               have HB9 := Lib.hid (show Below w.heap.size w w9 from HB8.out.grown hgr HB8.out.size (fun q hq => HBK.out q hq))
               have HL9 := Lib.hid (show O.length = k + 1 by rw [HFIN.out, List.length_append, List.length_cons, ← HLD.out, ← HLT.out]; omega)
               clear hown hgr hat
               go_wp2
               go_roundw
               case rel => exact ⟨k + 1, O, by omega, by go_num, (fun h => by omega), HB9, HOW9, HL9, HRN⟩
               case measure => simp [intOf] <;> omega
   · obtain rfl : k = n := by omega
     have HE := Lib.hid (show R = outs by rw [HR.out, HN.out, List.drop_length]; rfl)
     have hkn : ((k : Int) < (k : Int)) = False := eq_false (by omega)
     go_wp2_with fail
     go_ret
     exact ⟨_, rfl, HB.out, by rw [HE.out]; exact HO.out⟩
end Go.Proofs.YtcgpflkaejbkhaaGreatDoor
