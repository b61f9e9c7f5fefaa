/- The walks of the document's Put where it answers a schema. -/
import Derived.Test.YtcgpflkaejbkhaaGreatDoorQAO
import Derived.Test.YtcgpflkaejbkhaaGreatDoorQAN
import Derived.Test.YtcgpflkaejbkhaaGreatDoorQAT
import Derived.Deep.RegionLaw
import Derived.Deep.RegionHeld3
namespace Go.Proofs.YtcgpflkaejbkhaaGreatDoor
open Go.RowKit

theorem run_tabsA (w : World) (ty : TypeId) (base g cap n : Nat) (xs : List Value) (hown : w.ownsRow base 25 5 (.slice (some ⟨g, 0, none⟩) n cap) n xs) (A : Option Addr) (m c : Nat) (ls : List Tab) (hm : m = ls.length) (h : TabsAt w A ls) (hA : A = none → ls = []) (hl : n + m ≤ 2000) (hbase : base ≤ w.heap.size) :
   ∃ v' w', (Builtin.append_ #[33, 33] ty #[.slice (some ⟨g, 0, none⟩) n cap, .slice A m c]).run Tryz.prog w = .ok v' w' ∧ w'.ownsRow base 25 5 v' (n + m) (xs ++ (ls.map tabL).flatten) ∧ w.grownBy w' (some g) ∧ (v'.ownBlock = some g ∨ v'.ownBlock = some w.heap.size) := by
 cases A with
 | none =>
   obtain rfl := hA rfl
   subst hm
   have hnc : n ≤ cap := by
     rcases hown.2 with ⟨e1, _⟩ | ⟨g', cap', cur, e1, _, _, h5, _⟩
     · cases e1
     · cases e1; exact h5
   exact ⟨_, w, run_tabs_nil w ty g n cap c hnc, by simpa using hown, World.grownBy.refl _ _, Or.inl rfl⟩
 | some ad =>
   refine run_tabs w ty base _ n xs hown ad m c ls hm (fun j u hu => ?_) hl hbase
   obtain ⟨x, hx, hxu⟩ := flat_some (by decide : 0 < 5) (tab_len ls) hu
   rcases h.2 with h0 | ⟨b, off, h1, h2, h3⟩
   · rw [h0] at hx; simp at hx
   · cases h1
     have e := (h3 _ x hx).2 _ u hxu
     rw [show off + j / 5 * 5 + j % 5 = off + j by omega] at e
     rw [Addr.add_lit]
     exact e
theorem list_tabsA (w : World) {ops : Array Oper} {rest : List Oper} {o : Oper} {a : Act} {Q : Exit → Act → World → Prop} (hgd : o.guard = none) (s x : Operand)
   (ho : o.op = .call { callee := .builtin .append, args := #[s, x], argTypes := #[33, 33] }) (base g cap n : Nat) (xs : List Value) (hv : a.eval s = .slice (some ⟨g, 0, none⟩) n cap) (hown : w.ownsRow base 25 5 (.slice (some ⟨g, 0, none⟩) n cap) n xs)
   (A : Option Addr) (m c : Nat) (ls : List Tab) (hx : a.eval x = .slice A m c) (hm : m = ls.length) (h : TabsAt w A ls) (hA : A = none → ls = []) (hl : n + m ≤ 2000) (hbase : base ≤ w.heap.size)
   (hh : ∀ v' w', w'.ownsRow base 25 5 v' (n + m) (xs ++ (ls.map tabL).flatten) → w.grownBy w' (some g) → (v'.ownBlock = some g ∨ v'.ownBlock = some w.heap.size) → wpList Tryz.prog ops Q rest (a.put o.dst v') w') : wpList Tryz.prog ops Q (o :: rest) a w := by
 refine wpList_plain hgd fun K hK => ?_
 obtain ⟨v', w', hrun, g2, g3, g5⟩ := run_tabsA w o.type base g cap n xs hown A m c ls hm h hA hl hbase
 unfold Oper.wp
 simp only [execOp, ho, resolve, invoke, builtin, Sem.run_bind, Sem.run_pure, Result.andThen_ok, List.map_toArray, List.map_cons, List.map_nil, hv, hx, hrun]
 exact hK _ _ (hh v' w' g2 g3 g5)
def DocP (w : World) (er : Int) (T : List PT) (X : List PX) (e : Ending) (w' : World) : Prop := Below w.heap.size w w' ∧
 ((er = 0 ∧ ∃ (A ia : Option Addr) (c ic : Nat) (ts : List (Tab × List Col)) (xs : List (Idx × List Int)), e = .returned (.tuple #[.agg #[.slice A ts.length c, .slice ia xs.length ic], .int .i64 0]) ∧ DeepAt w' A ts ∧ DeepIx w' ia xs ∧ (A = none → ts = []) ∧ (ia = none → xs = []) ∧ (∀ p ∈ ts, p.2.length ≤ 1000) ∧ (∀ p ∈ xs, p.2.length ≤ 1000) ∧ ts.map ptOf = T ∧ xs.map pxOf = X) ∨
  (er ≠ 0 ∧ e = .returned (.tuple #[.agg #[.slice none 0 0, .slice none 0 0], .int .i64 er])))
theorem ErrP.doc {w : World} {er : Int} {T : List PT} {X : List PX} {e : Ending} {w' : World} (h : ErrP er w e w') (hr : er ≠ 0) : DocP w er T X e w' := ⟨h.2, Or.inr ⟨hr, h.1⟩⟩
def ReadT (w : World) (p : Tab × List Col) : Prop := ColsAt w p.1.ca p.2 ∧ p.1.cn = p.2.length ∧ p.2.length ≤ p.1.cc ∧ (p.1.ca = none → p.1.cc = 0)
def ReadX (w : World) (p : Idx × List Int) : Prop := IntsAt w p.1.pa p.2 ∧ p.1.pn = p.2.length ∧ p.2.length ≤ p.1.pc ∧ (p.1.pa = none → p.1.pc = 0)
theorem doc_t {w W : World} {base n c : Nat} {A : Option Addr} {ts : List (Tab × List Col)} (hB : Below w.heap.size w W) (hrow : RowsAt W base 25 n (.slice A n c) ((ts.map Prod.fst).map tabL).flatten) (hn : ts.length ≤ 1000) (hd : ∀ p ∈ ts, ReadT w p) : DeepAt W A ts ∧ (A = none → ts = []) := by
 obtain ⟨h1, h2, h3⟩ := RowsAt.cells hrow (by omega) (tab_len _) (by rw [List.length_map, List.length_map]; exact hn)
 exact ⟨⟨h1, fun p hp => ⟨CellsAt.keep hB (hd p hp).1, (hd p hp).2⟩⟩, fun h => by
   have := (h3 h).1
   rw [List.map_eq_nil_iff, List.map_eq_nil_iff] at this
   exact this⟩
theorem doc_x {w W : World} {base n c : Nat} {A : Option Addr} {xs : List (Idx × List Int)} (hB : Below w.heap.size w W) (hrow : RowsAt W base 28 n (.slice A n c) ((xs.map Prod.fst).map idxL).flatten) (hn : xs.length ≤ 1000) (hd : ∀ p ∈ xs, ReadX w p) : DeepIx W A xs ∧ (A = none → xs = []) := by
 obtain ⟨h1, h2, h3⟩ := RowsAt.cells hrow (by omega) (idx_len _) (by rw [List.length_map, List.length_map]; exact hn)
 exact ⟨⟨h1, fun p hp => ⟨IntsAt.keep hB (hd p hp).1, (hd p hp).2⟩⟩, fun h => by
   have := (h3 h).1
   rw [List.map_eq_nil_iff, List.map_eq_nil_iff] at this
   exact this⟩
theorem RowsAt.box {W : World} {base e n : Nat} {v : Value} {xs : List Value} (h : RowsAt W base e n v xs) (b j : Nat) (x : Value) (hb : b < base) : RowsAt (W.setCell ⟨b, j, none⟩ x) base e n v xs :=
 h.grown (grown_set W b j x) (fun k hk e => by have h1 := (h.block hk).1; have h2 : b = k := Option.some.inj e; omega)
set_option maxRecDepth 100000 in
set_option maxHeartbeats 16000000 in
theorem rput_fresh (m : Int) (gt : Nat → Nat) (ht : ∀ j, j < 23 → finD (Ieee.double.read (gt j)) = true) (A : Option Addr) (c : Nat) (ts : List (Tab × List Col)) (ia : Option Addr) (ic : Nat) (xs : List (Idx × List Int)) (t : Tab) (cl : List Col) (w : World) (hG : Glob m gt w)
   (hD : DeepAt w A ts) (hX : DeepIx w ia xs) (hA0 : A = none → ts = []) (hX0 : ia = none → xs = []) (hn : ts.length ≤ 7) (hnew : findN PT.name (ts.map ptOf) t.name = none) (hl : ∀ p ∈ ts, p.2.length ≤ 1000) (hlx : ∀ p ∈ xs, p.2.length ≤ 1000) (hcol : ColsAt w t.ca cl) (hcn : t.cn = cl.length) (hcc : cl.length ≤ t.cc) (hnone : t.ca = none → t.cc = 0)
   (hbad : tabBad t = false) (hcr : colsR cl = 0) (hcl : cl.length ≤ 1000) :
   Calls Tryz.prog 29 #[.agg #[.slice A ts.length c, .slice ia xs.length ic], .agg #[.string t.name, .slice t.ca t.cn t.cc, .int .i64 t.root, .int .i64 t.next, .int .i64 t.rows]] w (DocP w 0 (sortG PT.name (ts.map ptOf ++ [ptOf (t, cl)])) (xs.map pxOf)) := by
 have HST := Lib.hid (PutL.start w A ts.length c ia xs.length ic t)
 have HTA := Lib.hid (show ∀ W, Below w.heap.size w W → Calls Tryz.prog 13 #[.agg #[.slice A ts.length c, .slice ia xs.length ic], .string t.name] W (RetV (.int .i64 (placeI (findN PT.name (ts.map ptOf) t.name))) W) from fun W hB => rtable_at A c ts ia xs.length ic t.name W (DeepAt.keep hB hD))
 rw [hnew] at HTA
 simp only [placeI] at HTA
 have r5 : ((8 : Int) ≤ (ts.length : Int)) = False := eq_false (by omega)
 obtain ⟨hname, r1, r2, r3, r4⟩ := tabBad_no hbad
 have HNA := Lib.hid (show ∀ W, Below w.heap.size w W → Calls Tryz.prog 47 #[.string t.name] W (RetV (.bool true) W) from fun W hB => by
   have h := rname_any m gt ht t.name W (hG.keep hB)
   rwa [hname] at h)
 have HCO := Lib.hid (show ∀ W, Below w.heap.size w W → Calls Tryz.prog 21 #[.slice t.ca t.cn t.cc] W (RetV (.int .i64 0) W) from fun W hB => by
   have h := rcolumns_any m gt ht t.ca t.cc cl W (hG.keep hB) (CellsAt.keep hB hcol)
   rw [hcr, ← hcn] at h
   exact h)
 have HRT := Lib.hid (show ∀ p, p ∈ ts ∨ p = (t, cl) → ReadT w p from fun p hp => by
   rcases hp with hp | rfl
   · exact hD.2 p hp
   · exact ⟨hcol, hcn, hcc, hnone⟩)
 have HLT := Lib.hid (show ∀ p, p ∈ ts ∨ p = (t, cl) → p.2.length ≤ 1000 from fun p hp => by
   rcases hp with hp | rfl
   · exact hl p hp
   · exact hcl)
 have HDX := Lib.hid (show ∀ W, Below w.heap.size w W → DeepIx W ia xs ∧ (ia = none → xs = []) ∧ (∀ p ∈ xs, p.2.length ≤ 1000) from fun W hB => ⟨hX.keep hB, hX0, hlx⟩)
 have HTS := Lib.hid (show ∀ W, Below w.heap.size w W → TabsAt W A (ts.map Prod.fst) from fun W hB => CellsAt.keep hB hD.1)
 have HA0 := Lib.hid (show A = none → ts.map Prod.fst = [] from fun h => by rw [hA0 h]; rfl)
 have HX0 := Lib.hid (show ∀ W : World, w.heap.size + 3 ≤ W.heap.size → (W.alloc (.cells #[] 25)).ownsRow (w.heap.size + 3) 25 5 (.slice (some ⟨W.heap.size, 0, none⟩) 0 0) 0 [] from fun W hW => World.ownsRow_made W #[] 0 hW (Nat.zero_le _) (by simp))
 have HSO := Lib.hid (show ∀ A c l W, TabsAt W A l → l.length ≤ 900 → Calls Tryz.prog 60 #[.slice A l.length c] W fun e w' => ∃ v, e = .returned v ∧ Below W.heap.size W w' ∧ w'.ownsRow W.heap.size 25 5 v l.length ((sortG Tab.name l).map tabL).flatten from fun A c l W h hl => rtables_any A c l W h hl)
 obtain ⟨X, hXX⟩ : ∃ X, X = xs.map pxOf := ⟨_, rfl⟩
 have HXX := Lib.hid hXX
 rw [← hXX]
 obtain ⟨n, hnn⟩ : ∃ n, n = ts.length := ⟨_, rfl⟩
 obtain ⟨mx, hmm⟩ : ∃ mx, mx = xs.length := ⟨_, rfl⟩
 have HN := Lib.hid hnn
 have HM := Lib.hid hmm
 rw [← hnn] at HST HTA hn r5
 rw [← hmm] at HST HTA
 obtain ⟨tn, ta, tl, tc, tr, tx, tw⟩ := t
 dsimp only at HST HTA HNA HCO r1 r2 r3 r4 ⊢
 rw [← hnn, ← hmm]
 clear hG hD hX hl hlx hcol hcn hcc hnone hname hbad hcr hcl ht hnn hmm hXX hA0 hX0 hnew
 go_enter Tryz.func29, Tryz.ntmps29
 go_wp2_with (first
   | (go_at_call 13; (with_reducible refine (HTA.out _ HST.out.below).mono ?_); rintro e w3 ⟨rfl, hB3⟩
      have HK3 := Lib.hid (HST.out.keep hB3)
      have k0 := cell_of_row _ _ 0 _ _ _ HK3.out.tab
      have k1 := cell_of_row _ _ 1 _ _ _ HK3.out.tab
      have k2 := cell_of_row _ _ 2 _ _ _ HK3.out.tab
      have k3 := cell_of_row _ _ 3 _ _ _ HK3.out.tab
      have k4 := cell_of_row _ _ 4 _ _ _ HK3.out.tab
      have s0 := cell_of_row _ _ 0 _ _ _ HK3.out.sch
      have s1 := cell_of_row _ _ 1 _ _ _ HK3.out.sch
      have a0 := cell_of_row _ _ 0 _ _ _ HK3.out.ans
      have a1 := cell_of_row _ _ 1 _ _ _ HK3.out.ans
      have f0 := frozen_of_row _ _ 0 _ _ HK3.out.ans
      have f1 := frozen_of_row _ _ 1 _ _ HK3.out.ans
      clear hB3)
   | (go_at_call 47; (with_reducible refine (HNA.out _ HK3.out.below).mono ?_); rintro e w5 ⟨rfl, hB5⟩
      have HK5 := Lib.hid (HK3.out.keep hB5)
      clear k0 k1 k2 k3 k4 s0 s1 a0 a1 f0 f1
      have k0 := cell_of_row _ _ 0 _ _ _ HK5.out.tab
      have k1 := cell_of_row _ _ 1 _ _ _ HK5.out.tab
      have k2 := cell_of_row _ _ 2 _ _ _ HK5.out.tab
      have k3 := cell_of_row _ _ 3 _ _ _ HK5.out.tab
      have k4 := cell_of_row _ _ 4 _ _ _ HK5.out.tab
      have s0 := cell_of_row _ _ 0 _ _ _ HK5.out.sch
      have s1 := cell_of_row _ _ 1 _ _ _ HK5.out.sch
      have a0 := cell_of_row _ _ 0 _ _ _ HK5.out.ans
      have a1 := cell_of_row _ _ 1 _ _ _ HK5.out.ans
      have f0 := frozen_of_row _ _ 0 _ _ HK5.out.ans
      have f1 := frozen_of_row _ _ 1 _ _ HK5.out.ans
      clear hB5)
   | (go_at_call 21; (with_reducible refine (HCO.out _ HK5.out.below).mono ?_); rintro e w6 ⟨rfl, hB6⟩
      have HK6 := Lib.hid (HK5.out.keep hB6)
      have HS6 := Lib.hid (show w.heap.size + 3 ≤ w6.heap.size from by have := heap_lt HK6.out.ans; omega)
      have HOW := Lib.hid (HX0.out w6 HS6.out)
      have HB7 := Lib.hid (show Below w.heap.size w (w6.alloc (.cells #[] 25)) from HK6.out.below.alloc HK6.out.below.size _)
      clear k0 k1 k2 k3 k4 s0 s1 a0 a1 f0 f1
      have k0 := cell_of_row _ _ 0 _ _ _ HK6.out.tab
      have k1 := cell_of_row _ _ 1 _ _ _ HK6.out.tab
      have k2 := cell_of_row _ _ 2 _ _ _ HK6.out.tab
      have k3 := cell_of_row _ _ 3 _ _ _ HK6.out.tab
      have k4 := cell_of_row _ _ 4 _ _ _ HK6.out.tab
      have s0 := cell_of_row _ _ 0 _ _ _ HK6.out.sch
      have s1 := cell_of_row _ _ 1 _ _ _ HK6.out.sch
      have a0 := cell_of_row _ _ 0 _ _ _ HK6.out.ans
      have a1 := cell_of_row _ _ 1 _ _ _ HK6.out.ans
      have f0 := frozen_of_row _ _ 0 _ _ HK6.out.ans
      have f1 := frozen_of_row _ _ 1 _ _ HK6.out.ans
      have sb0 : ∀ O, (w6.alloc O).cell? ⟨w.heap.size, 0, none⟩ = some (.slice A n c) := fun O => cell_kept s0 (below1 w6 O)
      clear hB6)
   | (at_builtin; refine list_tabsA _ (by rfl) (.tmp 54) (.tmp 56) (by rfl) (w.heap.size + 3) w6.heap.size 0 0 [] (by rfl) HOW.out A n c (ts.map Prod.fst) (by rfl) (by rw [List.length_map]; exact HN.out) (HTS.out _ HB7.out) HA0.out (by omega) (by have := HS6.out; simp; omega) ?_
      intro v8 w8 hown hgr hat
      rw [Nat.zero_add, List.nil_append] at hown
      have HV8 := Lib.hid hown
      have HK8 := Lib.hid (show PutL w A n c ia mx ic ⟨tn, ta, tl, tc, tr, tx, tw⟩ w8 from by
        have h0 := HK6.out.keep (below1 w6 (.cells #[] 25))
        have h1 := heap_lt HK6.out.sch
        have h2 := heap_lt HK6.out.tab
        have h3 := heap_lt HK6.out.ans
        refine ⟨h0.below.grown hgr h0.below.size (fun q hq => by have h1 : w6.heap.size = q := Option.some.inj hq; have := HS6.out; omega), ?_, ?_, ?_⟩
        · exact (hgr.block _ (heap_lt h0.sch) (fun e => by have := Option.some.inj e; omega)).trans h0.sch
        · exact (hgr.block _ (heap_lt h0.tab) (fun e => by have := Option.some.inj e; omega)).trans h0.tab
        · exact (hgr.block _ (heap_lt h0.ans) (fun e => by have := Option.some.inj e; omega)).trans h0.ans)
      clear sb0
      clear k0 k1 k2 k3 k4 s0 s1 a0 a1 f0 f1
      have k0 := cell_of_row _ _ 0 _ _ _ HK8.out.tab
      have k1 := cell_of_row _ _ 1 _ _ _ HK8.out.tab
      have k2 := cell_of_row _ _ 2 _ _ _ HK8.out.tab
      have k3 := cell_of_row _ _ 3 _ _ _ HK8.out.tab
      have k4 := cell_of_row _ _ 4 _ _ _ HK8.out.tab
      have s0 := cell_of_row _ _ 0 _ _ _ HK8.out.sch
      have s1 := cell_of_row _ _ 1 _ _ _ HK8.out.sch
      have a0 := cell_of_row _ _ 0 _ _ _ HK8.out.ans
      have a1 := cell_of_row _ _ 1 _ _ _ HK8.out.ans
      have f0 := frozen_of_row _ _ 0 _ _ HK8.out.ans
      have f1 := frozen_of_row _ _ 1 _ _ HK8.out.ans
      clear hown hgr hat)
   | (at_builtin; refine list_tab _ (by rfl) (.tmp 68) (.tmp 70) (by rfl) (w.heap.size + 3) v8 n ((ts.map Prod.fst).map tabL).flatten (by rfl) (own_kept HV8.out (below1 w8 _) (Nat.le_refl _)) w8.heap.size 1 ⟨tn, ta, tl, tc, tr, tx, tw⟩ (by rfl) (heap_alloc_new w8 _) (by omega) (by have := heap_lt HK8.out.ans; simp; omega) ?_
      intro v9 w9 hown hgr hat
      obtain ⟨g, cap, rfl⟩ := own_slice hown
      have HV9 := Lib.hid (show w9.ownsRow (w.heap.size + 3) 25 5 (.slice (some ⟨g, 0, none⟩) (n + 1) cap) (n + 1) ((((ts ++ [((⟨tn, ta, tl, tc, tr, tx, tw⟩ : Tab), cl)]).map Prod.fst).map tabL).flatten) from by simpa using hown)
      have HK9 := Lib.hid (show PutL w A n c ia mx ic ⟨tn, ta, tl, tc, tr, tx, tw⟩ w9 from by
        have h0 := HK8.out.keep (below1 w8 (.cells #[.string tn, .slice ta tl tc, .int .i64 tr, .int .i64 tx, .int .i64 tw] 25))
        refine ⟨h0.below.grown hgr h0.below.size (fun q hq => by have := (HV8.out.lt q hq).1; omega), ?_, ?_, ?_⟩
        · exact (hgr.block _ (heap_lt h0.sch) (fun e => by have := (HV8.out.lt _ e.symm).1; omega)).trans h0.sch
        · exact (hgr.block _ (heap_lt h0.tab) (fun e => by have := (HV8.out.lt _ e.symm).1; omega)).trans h0.tab
        · exact (hgr.block _ (heap_lt h0.ans) (fun e => by have := (HV8.out.lt _ e.symm).1; omega)).trans h0.ans)
      clear hown hgr hat)
   | fail)
 have HK9d := Lib.hid (show PutL w A n c ia mx ic ⟨tn, ta, tl, tc, tr, tx, tw⟩ w9.drew from HK9.out.keep ((Below.refl _ _).drew))
 clear k0 k1 k2 k3 k4 s0 s1 a0 a1 f0 f1
 have k0 := cell_of_row w9.drew _ 0 _ _ _ HK9d.out.tab
 have k1 := cell_of_row w9.drew _ 1 _ _ _ HK9d.out.tab
 have k2 := cell_of_row w9.drew _ 2 _ _ _ HK9d.out.tab
 have k3 := cell_of_row w9.drew _ 3 _ _ _ HK9d.out.tab
 have k4 := cell_of_row w9.drew _ 4 _ _ _ HK9d.out.tab
 have s0 := cell_of_row w9.drew _ 0 _ _ _ HK9d.out.sch
 have s1 := cell_of_row w9.drew _ 1 _ _ _ HK9d.out.sch
 have a0 := cell_of_row w9.drew _ 0 _ _ _ HK9d.out.ans
 have a1 := cell_of_row w9.drew _ 1 _ _ _ HK9d.out.ans
 have f0 := frozen_of_row w9.drew _ 0 _ _ HK9d.out.ans
 have f1 := frozen_of_row w9.drew _ 1 _ _ HK9d.out.ans
 have HLN := Lib.hid (show ((ts ++ [((⟨tn, ta, tl, tc, tr, tx, tw⟩ : Tab), cl)]).map Prod.fst).length = n + 1 by rw [List.length_map, List.length_append, ← HN.out]; rfl)
 have HTB := Lib.hid (show TabsAt w9.drew (some ⟨g, 0, none⟩) ((ts ++ [((⟨tn, ta, tl, tc, tr, tx, tw⟩ : Tab), cl)]).map Prod.fst) from (RowsAt.cells (RowsAt.of_own HV9.out) (by omega) (tab_len _) (by rw [List.length_map, HLN.out]; omega)).1)
 have HSC := Lib.hid (show Calls Tryz.prog 60 #[.slice (some ⟨g, 0, none⟩) (n + 1) cap] w9.drew fun e w' => ∃ v, e = .returned v ∧ Below w9.drew.heap.size w9.drew w' ∧ w'.ownsRow w9.drew.heap.size 25 5 v (n + 1) ((sortG Tab.name ((ts ++ [((⟨tn, ta, tl, tc, tr, tx, tw⟩ : Tab), cl)]).map Prod.fst)).map tabL).flatten from by
   have h := HSO.out (some ⟨g, 0, none⟩) cap _ w9.drew HTB.out (by rw [HLN.out]; omega)
   rw [HLN.out] at h
   exact h)
 go_region_law (first
   | (go_simp; go_at_call 60; (with_reducible refine HSC.out.mono ?_); rintro e wA ⟨v, rfl, hBA, hown⟩
      have HBA := Lib.hid hBA
      obtain ⟨g2, cap2, rfl⟩ := own_slice hown
      have HVA := Lib.hid hown
      have HKA := Lib.hid (HK9d.out.keep hBA)
      clear k0 k1 k2 k3 k4 s0 s1 a0 a1 f0 f1
      have k0 := cell_of_row _ _ 0 _ _ _ HKA.out.tab
      have k1 := cell_of_row _ _ 1 _ _ _ HKA.out.tab
      have k2 := cell_of_row _ _ 2 _ _ _ HKA.out.tab
      have k3 := cell_of_row _ _ 3 _ _ _ HKA.out.tab
      have k4 := cell_of_row _ _ 4 _ _ _ HKA.out.tab
      have s0 := cell_of_row _ _ 0 _ _ _ HKA.out.sch
      have s1 := cell_of_row _ _ 1 _ _ _ HKA.out.sch
      have a0 := cell_of_row _ _ 0 _ _ _ HKA.out.ans
      have a1 := cell_of_row _ _ 1 _ _ _ HKA.out.ans
      have f0 := frozen_of_row _ _ 0 _ _ HKA.out.ans
      have f1 := frozen_of_row _ _ 1 _ _ HKA.out.ans
      clear hBA hown)
   | fail)
 all_goals
   go_wp2_with fail
   refine bodyPost_ret (v := .tuple #[.agg #[.slice (some ⟨g2, 0, none⟩) (n + 1) cap2, .slice ia mx ic], .int .i64 0]) (by simp [results, Tryz.results29, go_sem, a0, a1]) rfl ?_
   have hBF := HKA.out.done (.slice (some ⟨g2, 0, none⟩) (n + 1) cap2) (.slice ia mx ic)
   have h9 := heap_lt HK9.out.ans
   have hs : w.heap.size + 3 ≤ w9.drew.heap.size := by show w.heap.size + 3 ≤ w9.heap.size; omega
   obtain ⟨ts2, hts2⟩ : ∃ ts2, ts2 = sortG (fun p : Tab × List Col => p.1.name) (ts ++ [((⟨tn, ta, tl, tc, tr, tx, tw⟩ : Tab), cl)]) := ⟨_, rfl⟩
   have e1 : ts2.map Prod.fst = sortG Tab.name ((ts ++ [((⟨tn, ta, tl, tc, tr, tx, tw⟩ : Tab), cl)]).map Prod.fst) := by
     rw [hts2]
     exact sortG_map (fun p : Tab × List Col => p.1.name) Tab.name Prod.fst (fun _ => rfl) _
   have e2 : ts2.length = n + 1 := by rw [hts2, sortG_len, ← HLN.out, List.length_map]
   have hmem : ∀ p ∈ ts2, p ∈ ts ∨ p = ((⟨tn, ta, tl, tc, tr, tx, tw⟩ : Tab), cl) := fun p hp => by
     rw [hts2] at hp
     rcases List.mem_append.1 (sortG_mem _ hp) with h | h
     · exact Or.inl h
     · exact Or.inr (List.mem_singleton.1 h)
   have hrow := ((RowsAt.of_own HVA.out).le hs)
   rw [← e1] at hrow
   obtain ⟨hd1, hd2⟩ := doc_t (ts := ts2) hBF ((hrow.box (w.heap.size + 1 + 1) 0 (.slice (some ⟨g2, 0, none⟩) (n + 1) cap2) (by omega)).box (w.heap.size + 1 + 1) 1 (.slice ia mx ic) (by omega)) (by omega) (fun p hp => HRT.out p (hmem p hp))
   obtain ⟨hx1, hx2, hx3⟩ := HDX.out _ hBF
   refine ⟨hBF, Or.inl ⟨rfl, some ⟨g2, 0, none⟩, ia, cap2, ic, ts2, xs, by rw [e2, ← HM.out], hd1, hx1, hd2, hx2, fun p hp => HLT.out p (hmem p hp), hx3, ?_, HXX.out.symm⟩⟩
   rw [hts2, sortG_map (fun p : Tab × List Col => p.1.name) PT.name ptOf (fun _ => rfl), List.map_append]
   rfl
set_option maxRecDepth 100000 in
set_option maxHeartbeats 16000000 in
theorem rput_again (m : Int) (gt : Nat → Nat) (ht : ∀ j, j < 23 → finD (Ieee.double.read (gt j)) = true) (A : Option Addr) (c : Nat) (ts : List (Tab × List Col)) (ia : Option Addr) (ic : Nat) (xs : List (Idx × List Int)) (t : Tab) (cl : List Col) (w : World) (hG : Glob m gt w)
   (hD : DeepAt w A ts) (hX : DeepIx w ia xs) (hA0 : A = none → ts = []) (hX0 : ia = none → xs = []) (hn : ts.length ≤ 1000) (k : Nat) (hk : findN PT.name (ts.map ptOf) t.name = some k) (hl : ∀ p ∈ ts, p.2.length ≤ 1000) (hlx : ∀ p ∈ xs, p.2.length ≤ 1000) (hcol : ColsAt w t.ca cl) (hcn : t.cn = cl.length) (hcc : cl.length ≤ t.cc) (hnone : t.ca = none → t.cc = 0)
   (hbad : tabBad t = false) (hcr : colsR cl = 0) (hcl : cl.length ≤ 1000) :
   Calls Tryz.prog 29 #[.agg #[.slice A ts.length c, .slice ia xs.length ic], .agg #[.string t.name, .slice t.ca t.cn t.cc, .int .i64 t.root, .int .i64 t.next, .int .i64 t.rows]] w (DocP w 0 ((ts.map ptOf).set k (ptOf (t, cl))) (xs.map pxOf)) := by
 have HST := Lib.hid (PutL.start w A ts.length c ia xs.length ic t)
 have HTA := Lib.hid (show ∀ W, Below w.heap.size w W → Calls Tryz.prog 13 #[.agg #[.slice A ts.length c, .slice ia xs.length ic], .string t.name] W (RetV (.int .i64 (placeI (findN PT.name (ts.map ptOf) t.name))) W) from fun W hB => rtable_at A c ts ia xs.length ic t.name W (DeepAt.keep hB hD))
 rw [hk] at HTA
 simp only [placeI] at HTA
 have hkl : k < ts.length := by have := findN_lt hk; rwa [List.length_map] at this
 have r5 : ((k : Int) < 0) = False := eq_false (by omega)
 have r6 : ((0 : Int) ≤ (k : Int)) = True := eq_true (by omega)
 have r7 : ((k : Int) < (ts.length : Int)) = True := eq_true (by omega)
 have HKL := Lib.hid hkl
 obtain ⟨hname, r1, r2, r3, r4⟩ := tabBad_no hbad
 have HNA := Lib.hid (show ∀ W, Below w.heap.size w W → Calls Tryz.prog 47 #[.string t.name] W (RetV (.bool true) W) from fun W hB => by
   have h := rname_any m gt ht t.name W (hG.keep hB)
   rwa [hname] at h)
 have HCO := Lib.hid (show ∀ W, Below w.heap.size w W → Calls Tryz.prog 21 #[.slice t.ca t.cn t.cc] W (RetV (.int .i64 0) W) from fun W hB => by
   have h := rcolumns_any m gt ht t.ca t.cc cl W (hG.keep hB) (CellsAt.keep hB hcol)
   rw [hcr, ← hcn] at h
   exact h)
 have HRT := Lib.hid (show ∀ p, p ∈ ts ∨ p = (t, cl) → ReadT w p from fun p hp => by
   rcases hp with hp | rfl
   · exact hD.2 p hp
   · exact ⟨hcol, hcn, hcc, hnone⟩)
 have HLT := Lib.hid (show ∀ p, p ∈ ts ∨ p = (t, cl) → p.2.length ≤ 1000 from fun p hp => by
   rcases hp with hp | rfl
   · exact hl p hp
   · exact hcl)
 have HDX := Lib.hid (show ∀ W, Below w.heap.size w W → DeepIx W ia xs ∧ (ia = none → xs = []) ∧ (∀ p ∈ xs, p.2.length ≤ 1000) from fun W hB => ⟨hX.keep hB, hX0, hlx⟩)
 have HTS := Lib.hid (show ∀ W, Below w.heap.size w W → TabsAt W A (ts.map Prod.fst) from fun W hB => CellsAt.keep hB hD.1)
 have HA0 := Lib.hid (show A = none → ts.map Prod.fst = [] from fun h => by rw [hA0 h]; rfl)
 have HX0 := Lib.hid (show ∀ W : World, w.heap.size + 3 ≤ W.heap.size → (W.alloc (.cells #[] 25)).ownsRow (w.heap.size + 3) 25 5 (.slice (some ⟨W.heap.size, 0, none⟩) 0 0) 0 [] from fun W hW => World.ownsRow_made W #[] 0 hW (Nat.zero_le _) (by simp))
 obtain ⟨X, hXX⟩ : ∃ X, X = xs.map pxOf := ⟨_, rfl⟩
 have HXX := Lib.hid hXX
 rw [← hXX]
 obtain ⟨n, hnn⟩ : ∃ n, n = ts.length := ⟨_, rfl⟩
 obtain ⟨mx, hmm⟩ : ∃ mx, mx = xs.length := ⟨_, rfl⟩
 have HN := Lib.hid hnn
 have HM := Lib.hid hmm
 rw [← hnn] at HST HTA hn HKL r7
 rw [← hmm] at HST HTA
 obtain ⟨tn, ta, tl, tc, tr, tx, tw⟩ := t
 dsimp only at HST HTA HNA HCO r1 r2 r3 r4 ⊢
 rw [← hnn, ← hmm]
 clear hG hD hX hl hlx hcol hcn hcc hnone hname hbad hcr hcl ht hnn hmm hXX hA0 hX0 hk hkl
 go_enter Tryz.func29, Tryz.ntmps29
 go_wp2_with (first
   | (go_at_call 13; (with_reducible refine (HTA.out _ HST.out.below).mono ?_); rintro e w3 ⟨rfl, hB3⟩
      have HK3 := Lib.hid (HST.out.keep hB3)
      have k0 := cell_of_row _ _ 0 _ _ _ HK3.out.tab
      have k1 := cell_of_row _ _ 1 _ _ _ HK3.out.tab
      have k2 := cell_of_row _ _ 2 _ _ _ HK3.out.tab
      have k3 := cell_of_row _ _ 3 _ _ _ HK3.out.tab
      have k4 := cell_of_row _ _ 4 _ _ _ HK3.out.tab
      have s0 := cell_of_row _ _ 0 _ _ _ HK3.out.sch
      have s1 := cell_of_row _ _ 1 _ _ _ HK3.out.sch
      have a0 := cell_of_row _ _ 0 _ _ _ HK3.out.ans
      have a1 := cell_of_row _ _ 1 _ _ _ HK3.out.ans
      have f0 := frozen_of_row _ _ 0 _ _ HK3.out.ans
      have f1 := frozen_of_row _ _ 1 _ _ HK3.out.ans
      clear hB3)
   | (go_at_call 47; (with_reducible refine (HNA.out _ HK3.out.below).mono ?_); rintro e w5 ⟨rfl, hB5⟩
      have HK5 := Lib.hid (HK3.out.keep hB5)
      clear k0 k1 k2 k3 k4 s0 s1 a0 a1 f0 f1
      have k0 := cell_of_row _ _ 0 _ _ _ HK5.out.tab
      have k1 := cell_of_row _ _ 1 _ _ _ HK5.out.tab
      have k2 := cell_of_row _ _ 2 _ _ _ HK5.out.tab
      have k3 := cell_of_row _ _ 3 _ _ _ HK5.out.tab
      have k4 := cell_of_row _ _ 4 _ _ _ HK5.out.tab
      have s0 := cell_of_row _ _ 0 _ _ _ HK5.out.sch
      have s1 := cell_of_row _ _ 1 _ _ _ HK5.out.sch
      have a0 := cell_of_row _ _ 0 _ _ _ HK5.out.ans
      have a1 := cell_of_row _ _ 1 _ _ _ HK5.out.ans
      have f0 := frozen_of_row _ _ 0 _ _ HK5.out.ans
      have f1 := frozen_of_row _ _ 1 _ _ HK5.out.ans
      clear hB5)
   | (go_at_call 21; (with_reducible refine (HCO.out _ HK5.out.below).mono ?_); rintro e w6 ⟨rfl, hB6⟩
      have HK6 := Lib.hid (HK5.out.keep hB6)
      have HS6 := Lib.hid (show w.heap.size + 3 ≤ w6.heap.size from by have := heap_lt HK6.out.ans; omega)
      have HOW := Lib.hid (HX0.out w6 HS6.out)
      have HB7 := Lib.hid (show Below w.heap.size w (w6.alloc (.cells #[] 25)) from HK6.out.below.alloc HK6.out.below.size _)
      clear k0 k1 k2 k3 k4 s0 s1 a0 a1 f0 f1
      have k0 := cell_of_row _ _ 0 _ _ _ HK6.out.tab
      have k1 := cell_of_row _ _ 1 _ _ _ HK6.out.tab
      have k2 := cell_of_row _ _ 2 _ _ _ HK6.out.tab
      have k3 := cell_of_row _ _ 3 _ _ _ HK6.out.tab
      have k4 := cell_of_row _ _ 4 _ _ _ HK6.out.tab
      have s0 := cell_of_row _ _ 0 _ _ _ HK6.out.sch
      have s1 := cell_of_row _ _ 1 _ _ _ HK6.out.sch
      have a0 := cell_of_row _ _ 0 _ _ _ HK6.out.ans
      have a1 := cell_of_row _ _ 1 _ _ _ HK6.out.ans
      have f0 := frozen_of_row _ _ 0 _ _ HK6.out.ans
      have f1 := frozen_of_row _ _ 1 _ _ HK6.out.ans
      have sb0 : ∀ O, (w6.alloc O).cell? ⟨w.heap.size, 0, none⟩ = some (.slice A n c) := fun O => cell_kept s0 (below1 w6 O)
      clear hB6)
   | (at_builtin; refine list_tabsA _ (by rfl) (.tmp 54) (.tmp 56) (by rfl) (w.heap.size + 3) w6.heap.size 0 0 [] (by rfl) HOW.out A n c (ts.map Prod.fst) (by rfl) (by rw [List.length_map]; exact HN.out) (HTS.out _ HB7.out) HA0.out (by omega) (by have := HS6.out; simp; omega) ?_
      intro v8 w8 hown hgr hat
      rw [Nat.zero_add, List.nil_append] at hown
      have HV8 := Lib.hid hown
      have HK8 := Lib.hid (show PutL w A n c ia mx ic ⟨tn, ta, tl, tc, tr, tx, tw⟩ w8 from by
        have h0 := HK6.out.keep (below1 w6 (.cells #[] 25))
        have h1 := heap_lt HK6.out.sch
        have h2 := heap_lt HK6.out.tab
        have h3 := heap_lt HK6.out.ans
        refine ⟨h0.below.grown hgr h0.below.size (fun q hq => by have h1 : w6.heap.size = q := Option.some.inj hq; have := HS6.out; omega), ?_, ?_, ?_⟩
        · exact (hgr.block _ (heap_lt h0.sch) (fun e => by have := Option.some.inj e; omega)).trans h0.sch
        · exact (hgr.block _ (heap_lt h0.tab) (fun e => by have := Option.some.inj e; omega)).trans h0.tab
        · exact (hgr.block _ (heap_lt h0.ans) (fun e => by have := Option.some.inj e; omega)).trans h0.ans)
      clear sb0
      clear k0 k1 k2 k3 k4 s0 s1 a0 a1 f0 f1
      have k0 := cell_of_row _ _ 0 _ _ _ HK8.out.tab
      have k1 := cell_of_row _ _ 1 _ _ _ HK8.out.tab
      have k2 := cell_of_row _ _ 2 _ _ _ HK8.out.tab
      have k3 := cell_of_row _ _ 3 _ _ _ HK8.out.tab
      have k4 := cell_of_row _ _ 4 _ _ _ HK8.out.tab
      have s0 := cell_of_row _ _ 0 _ _ _ HK8.out.sch
      have s1 := cell_of_row _ _ 1 _ _ _ HK8.out.sch
      have a0 := cell_of_row _ _ 0 _ _ _ HK8.out.ans
      have a1 := cell_of_row _ _ 1 _ _ _ HK8.out.ans
      have f0 := frozen_of_row _ _ 0 _ _ HK8.out.ans
      have f1 := frozen_of_row _ _ 1 _ _ HK8.out.ans
      clear hown hgr hat
      rcases HV8.out.2 with ⟨_, h0⟩ | ⟨g, cap, cur, rfl, _⟩
      · exfalso; have := HKL.out; omega
      have HRW := Lib.hid (show RowT w8 g (ts.map Prod.fst) ∧ n ≤ cap ∧ w.heap.size + 3 ≤ g from (RowsAt.of_own HV8.out).row_t)
      have HTL := Lib.hid (show (ts.map Prod.fst).length = n by rw [List.length_map]; exact HN.out.symm)
      have hkx : ∃ t0, (ts.map Prod.fst)[k]? = some t0 := ⟨_, List.getElem?_eq_getElem (by rw [HTL.out]; exact HKL.out)⟩
      obtain ⟨t0, hk0⟩ := hkx
      have z0 := HRW.out.1.free (k * 5)
      have z1 := HRW.out.1.free (k * 5 + 1)
      have z2 := HRW.out.1.free (k * 5 + 2)
      have z3 := HRW.out.1.free (k * 5 + 3)
      have z4 := HRW.out.1.free (k * 5 + 4)
      have y0 : w8.cell? ⟨g, k * 5, none⟩ = some (.string t0.name) := HRW.out.1.cell hk0 (i := 0) rfl
      have y1 : w8.cell? ⟨g, k * 5 + 1, none⟩ = some (.slice t0.ca t0.cn t0.cc) := HRW.out.1.cell hk0 (i := 1) rfl
      have y2 : w8.cell? ⟨g, k * 5 + 2, none⟩ = some (.int .i64 t0.root) := HRW.out.1.cell hk0 (i := 2) rfl
      have y3 : w8.cell? ⟨g, k * 5 + 3, none⟩ = some (.int .i64 t0.next) := HRW.out.1.cell hk0 (i := 3) rfl
      have y4 : w8.cell? ⟨g, k * 5 + 4, none⟩ = some (.int .i64 t0.rows) := HRW.out.1.cell hk0 (i := 4) rfl
      have HFI := Lib.hid (show PutL w A n c ia mx ic ⟨tn, ta, tl, tc, tr, tx, tw⟩ (setTab w8 g (k * 5) ⟨tn, ta, tl, tc, tr, tx, tw⟩) ∧ RowT (setTab w8 g (k * 5) ⟨tn, ta, tl, tc, tr, tx, tw⟩) g ((ts.map Prod.fst).set k ⟨tn, ta, tl, tc, tr, tx, tw⟩) from by
        have hg := setTab_grown w8 g (k * 5) ⟨tn, ta, tl, tc, tr, tx, tw⟩
        have h3 := HRW.out.2.2
        refine ⟨⟨HK8.out.below.grown hg HK8.out.below.size (fun q hq => by have h1 : g = q := Option.some.inj hq; omega), ?_, ?_, ?_⟩, HRW.out.1.set (by rw [HTL.out]; exact HKL.out) _⟩
        · exact (hg.block _ (heap_lt HK8.out.sch) (fun e => by have := Option.some.inj e; omega)).trans HK8.out.sch
        · exact (hg.block _ (heap_lt HK8.out.tab) (fun e => by have := Option.some.inj e; omega)).trans HK8.out.tab
        · exact (hg.block _ (heap_lt HK8.out.ans) (fun e => by have := Option.some.inj e; omega)).trans HK8.out.ans)
      have u0 := cell_of_row _ _ 0 _ _ _ HFI.out.1.sch
      have u1 := cell_of_row _ _ 1 _ _ _ HFI.out.1.sch
      have q0 := cell_of_row _ _ 0 _ _ _ HFI.out.1.ans
      have q1 := cell_of_row _ _ 1 _ _ _ HFI.out.1.ans
      have e0 := frozen_of_row _ _ 0 _ _ HFI.out.1.ans
      have e1 := frozen_of_row _ _ 1 _ _ HFI.out.1.ans
      dsimp only [setTab] at u0 u1 q0 q1 e0 e1
      have r8 := HKL.out)
   | fail)
 refine bodyPost_ret (v := .tuple #[.agg #[.slice (some ⟨g, 0, none⟩) n cap, .slice ia mx ic], .int .i64 0]) (by simp [results, Tryz.results29, go_sem, q0, q1]) rfl ?_
 have hBF := HFI.out.1.done (.slice (some ⟨g, 0, none⟩) n cap) (.slice ia mx ic)
 have h3 := HRW.out.2.2
 have hrow := HFI.out.2.at h3 HRW.out.2.1
 have hset : (ts.map Prod.fst).set k (⟨tn, ta, tl, tc, tr, tx, tw⟩ : Tab) = (ts.set k ((⟨tn, ta, tl, tc, tr, tx, tw⟩ : Tab), cl)).map Prod.fst := by rw [List.map_set]
 rw [hset] at hrow
 have hmem : ∀ p ∈ ts.set k ((⟨tn, ta, tl, tc, tr, tx, tw⟩ : Tab), cl), p ∈ ts ∨ p = ((⟨tn, ta, tl, tc, tr, tx, tw⟩ : Tab), cl) := fun p hp => List.mem_or_eq_of_mem_set hp
 obtain ⟨hd1, hd2⟩ := doc_t (ts := ts.set k ((⟨tn, ta, tl, tc, tr, tx, tw⟩ : Tab), cl)) hBF ((hrow.box (w.heap.size + 1 + 1) 0 (.slice (some ⟨g, 0, none⟩) n cap) (by omega)).box (w.heap.size + 1 + 1) 1 (.slice ia mx ic) (by omega)) (by rw [List.length_set, ← HN.out]; exact hn) (fun p hp => HRT.out p (hmem p hp))
 obtain ⟨hx1, hx2, hx3⟩ := HDX.out _ hBF
 exact ⟨hBF, Or.inl ⟨rfl, some ⟨g, 0, none⟩, ia, cap, ic, _, xs, by rw [List.length_set, ← HN.out, ← HM.out], hd1, hx1, hd2, hx2, fun p hp => HLT.out p (hmem p hp), hx3, by rw [List.map_set], HXX.out.symm⟩⟩
end Go.Proofs.YtcgpflkaejbkhaaGreatDoor
namespace Go.Proofs.YtcgpflkaejbkhaaGreatDoor
open Go.RowKit

theorem RowX.set' {W : World} {g k : Nat} {l : List Idx} (h : RowX W g l) (hk : k < l.length) (y : Idx) : RowX (setIdx W g (k * 6) y) g (l.set k y) := by
 obtain ⟨rest, hr⟩ := h
 have e : l = l.take k ++ l[k] :: l.drop (k + 1) := by rw [← List.drop_eq_getElem_cons hk, List.take_append_drop]
 have e1 : (l.map idxL).flatten ++ rest = ((l.take k).map idxL).flatten ++ idxL l[k] ++ (((l.drop (k + 1)).map idxL).flatten ++ rest) := by
   conv => lhs; rw [e]
   rw [List.map_append, List.map_cons, List.flatten_append, List.flatten_cons]
   simp only [List.append_assoc]
 have e2 : l.set k y = l.take k ++ y :: l.drop (k + 1) := by
   rw [List.set_eq_take_append_cons_drop, if_pos hk]
 rw [e1] at hr
 have h2 := setIdx_list y hr
 rw [flat_takeX l k (by omega)] at h2
 refine ⟨rest, ?_⟩
 rw [h2, e2]
 simp
end Go.Proofs.YtcgpflkaejbkhaaGreatDoor
