/- The walks of the document's PutIndex where it answers a schema. -/
import Derived.Test.YtcgpflkaejbkhaaGreatDoorQAO
import Derived.Test.YtcgpflkaejbkhaaGreatDoorQAS
import Derived.Test.YtcgpflkaejbkhaaGreatDoorQAU
import Derived.Deep.RegionLaw
import Derived.Deep.RegionHeld3
namespace Go.Proofs.YtcgpflkaejbkhaaGreatDoor
open Go.RowKit

theorem run_idxsA (w : World) (ty : TypeId) (base g cap n : Nat) (xs : List Value) (hown : w.ownsRow base 28 6 (.slice (some ⟨g, 0, none⟩) n cap) n xs) (A : Option Addr) (m c : Nat) (ls : List Idx) (hm : m = ls.length) (h : IdxsAt w A ls) (hA : A = none → ls = []) (hl : n + m ≤ 2000) (hbase : base ≤ w.heap.size) :
   ∃ v' w', (Builtin.append_ #[34, 34] ty #[.slice (some ⟨g, 0, none⟩) n cap, .slice A m c]).run Tryz.prog w = .ok v' w' ∧ w'.ownsRow base 28 6 v' (n + m) (xs ++ (ls.map idxL).flatten) ∧ w.grownBy w' (some g) ∧ (v'.ownBlock = some g ∨ v'.ownBlock = some w.heap.size) := by
 cases A with
 | none =>
   obtain rfl := hA rfl
   subst hm
   have hnc : n ≤ cap := by
     rcases hown.2 with ⟨e1, _⟩ | ⟨g', cap', cur, e1, _, _, h5, _⟩
     · cases e1
     · cases e1; exact h5
   exact ⟨_, w, run_idxs_nil w ty g n cap c hnc, by simpa using hown, World.grownBy.refl _ _, Or.inl rfl⟩
 | some ad =>
   refine run_idxs w ty base _ n xs hown ad m c ls hm (fun j u hu => ?_) hl hbase
   obtain ⟨x, hx, hxu⟩ := flat_some (by decide : 0 < 6) (idx_len ls) hu
   rcases h.2 with h0 | ⟨b, off, h1, h2, h3⟩
   · rw [h0] at hx; simp at hx
   · cases h1
     have e := (h3 _ x hx).2 _ u hxu
     rw [show off + j / 6 * 6 + j % 6 = off + j by omega] at e
     rw [Addr.add_lit]
     exact e
theorem list_idxsA (w : World) {ops : Array Oper} {rest : List Oper} {o : Oper} {a : Act} {Q : Exit → Act → World → Prop} (hgd : o.guard = none) (s x : Operand)
   (ho : o.op = .call { callee := .builtin .append, args := #[s, x], argTypes := #[34, 34] }) (base g cap n : Nat) (xs : List Value) (hv : a.eval s = .slice (some ⟨g, 0, none⟩) n cap) (hown : w.ownsRow base 28 6 (.slice (some ⟨g, 0, none⟩) n cap) n xs)
   (A : Option Addr) (m c : Nat) (ls : List Idx) (hx : a.eval x = .slice A m c) (hm : m = ls.length) (h : IdxsAt w A ls) (hA : A = none → ls = []) (hl : n + m ≤ 2000) (hbase : base ≤ w.heap.size)
   (hh : ∀ v' w', w'.ownsRow base 28 6 v' (n + m) (xs ++ (ls.map idxL).flatten) → w.grownBy w' (some g) → (v'.ownBlock = some g ∨ v'.ownBlock = some w.heap.size) → wpList Tryz.prog ops Q rest (a.put o.dst v') w') : wpList Tryz.prog ops Q (o :: rest) a w := by
 refine wpList_plain hgd fun K hK => ?_
 obtain ⟨v', w', hrun, g2, g3, g5⟩ := run_idxsA w o.type base g cap n xs hown A m c ls hm h hA hl hbase
 unfold Oper.wp
 simp only [execOp, ho, resolve, invoke, builtin, Sem.run_bind, Sem.run_pure, Result.andThen_ok, List.map_toArray, List.map_cons, List.map_nil, hv, hx, hrun]
 exact hK _ _ (hh v' w' g2 g3 g5)
theorem list_idx (w : World) {ops : Array Oper} {rest : List Oper} {o : Oper} {a : Act} {Q : Exit → Act → World → Prop} (hgd : o.guard = none) (s x : Operand)
   (ho : o.op = .call { callee := .builtin .append, args := #[s, x], argTypes := #[34, 34] }) (base : Nat) (v : Value) (n : Nat) (xs : List Value) (hv : a.eval s = v) (hown : w.ownsRow base 28 6 v n xs)
   (b c : Nat) (t : Idx) (hx : a.eval x = .slice (some ⟨b, 0, none⟩) 1 c) (hq : w.heap[b]? = some (.cells (idxL t).toArray 28)) (hl : n ≤ 1999) (hbase : base ≤ w.heap.size)
   (h : ∀ v' w', w'.ownsRow base 28 6 v' (n + 1) (xs ++ idxL t) → w.grownBy w' v.ownBlock → (v'.ownBlock = v.ownBlock ∨ v'.ownBlock = some w.heap.size) → wpList Tryz.prog ops Q rest (a.put o.dst v') w') : wpList Tryz.prog ops Q (o :: rest) a w := by
 refine list_idxs w hgd s x ho base v n xs hv hown ⟨b, 0, none⟩ 1 c [t] hx rfl (fun j u hj => ?_) (by omega) hbase (fun v' w' h1 h2 h3 => h v' w' (by simpa using h1) h2 h3)
 rw [Addr.add_lit, Nat.zero_add]
 refine (cell_of_row _ b j _ _ _ hq).trans ?_
 simpa using hj
set_option maxRecDepth 100000 in
set_option maxHeartbeats 16000000 in
theorem rputx_fresh (m : Int) (gt : Nat → Nat) (ht : ∀ j, j < 23 → finD (Ieee.double.read (gt j)) = true) (A : Option Addr) (c : Nat) (ts : List (Tab × List Col)) (ia : Option Addr) (ic : Nat) (xs : List (Idx × List Int)) (t : Idx) (w : World) (hG : Glob m gt w) (hD : DeepAt w A ts) (hX : DeepIx w ia xs) (hbad : idxBad t = false) (kt : Nat) (t0 : Tab) (l0 : List Col) (hof : findN PT.name (ts.map ptOf) t.table = some kt) (ht0 : ts[kt]? = some (t0, l0)) (cl : List Int) (hcol : IntsAt w t.pa cl) (hcn : t.pn = cl.length) (hcc : cl.length ≤ t.pc) (hA0 : A = none → ts = []) (hX0 : ia = none → xs = []) (hnone : t.pa = none → t.pc = 0) (hcr : placesR l0.length cl = 0) (hcl : cl.length ≤ 1000) (hn : ts.length ≤ 1000) (hl : ∀ p ∈ ts, p.2.length ≤ 1000) (hlx : ∀ p ∈ xs, p.2.length ≤ 1000) (hm : xs.length ≤ 11) (hat : findN PX.name (xs.map pxOf) t.name = none) :
   Calls Tryz.prog 31 #[.agg #[.slice A ts.length c, .slice ia xs.length ic], .agg #[.string t.name, .string t.table, .slice t.pa t.pn t.pc, .int .i64 t.state, .int .i64 t.root, .int .i64 t.cursor]] w (DocP w 0 (ts.map ptOf) (sortG PX.name (xs.map pxOf ++ [pxOf (t, cl)]))) := by
 have HST := Lib.hid (PutXL.start w A ts.length c ia xs.length ic t)
 have HTI := Lib.hid (show ∀ W, Below w.heap.size w W → Calls Tryz.prog 15 #[.agg #[.slice A ts.length c, .slice ia xs.length ic], .string t.name] W (RetV (.int .i64 (placeI (findN PX.name (xs.map pxOf) t.name))) W) from fun W hB => rindex_at ia ic xs A ts.length c t.name W (DeepIx.keep hB hX))
 have HTT := Lib.hid (show ∀ W, Below w.heap.size w W → Calls Tryz.prog 13 #[.agg #[.slice A ts.length c, .slice ia xs.length ic], .string t.table] W (RetV (.int .i64 (placeI (findN PT.name (ts.map ptOf) t.table))) W) from fun W hB => rtable_at A c ts ia xs.length ic t.table W (DeepAt.keep hB hD))
 obtain ⟨hname, r1, r2, r3, r4, r5⟩ := idxBad_no hbad
 have HNA := Lib.hid (show ∀ W, Below w.heap.size w W → Calls Tryz.prog 47 #[.string t.name] W (RetV (.bool true) W) from fun W hB => by have h := rname_any m gt ht t.name W (hG.keep hB); rwa [hname] at h)
 rw [hof] at HTT
 simp only [placeI] at HTT
 have r6 : ((kt : Int) < 0) = False := eq_false (by omega)
 rw [hat] at HTI
 simp only [placeI] at HTI
 have r7 : ((12 : Int) ≤ (xs.length : Int)) = False := eq_false (by omega)
 have hkt : kt < ts.length := (List.getElem?_eq_some_iff.1 ht0).1
 have HKT := Lib.hid hkt
 obtain ⟨b, off, rfl, HTC⟩ : ∃ b off, A = some ⟨b, off, none⟩ ∧ Hid (∀ W, Below w.heap.size w W → ∀ (i : Nat) (u : Value), (tabL t0)[i]? = some u → W.cell? ⟨b, off + kt * 5 + i, none⟩ = some u) := by
   rcases hD.1.2 with h0 | ⟨b, off, h1, h2, h3⟩
   · exfalso
     rw [List.map_eq_nil_iff, List.map_eq_nil_iff] at h0
     subst h0
     simp at hkt
   · refine ⟨b, off, h1, fun W hB i u hi => (hB.cell (p := ⟨b, off + kt * 5 + i, none⟩) h2).trans ((h3 kt (tabL t0) ?_).2 i u hi)⟩
     rw [List.getElem?_map, List.getElem?_map, ht0]
     rfl
 have hcn0 : t0.cn = l0.length := (hD.2 (t0, l0) (List.mem_of_getElem? ht0)).2.1
 have HPL := Lib.hid (show ∀ W, Below w.heap.size w W → Calls Tryz.prog 23 #[.agg #[.string t0.name, .slice t0.ca t0.cn t0.cc, .int .i64 t0.root, .int .i64 t0.next, .int .i64 t0.rows], .slice t.pa t.pn t.pc] W (RetV (.int .i64 0) W) from fun W hB => by
   have h := rplaces_any t0.name t0.ca t0.cn t0.cc t0.root t0.next t0.rows t.pa t.pc cl W (IntsAt.keep hB hcol)
   rw [show (t0.cn : Int) = (l0.length : Int) by rw [hcn0], hcr, ← hcn] at h
   exact h)
 have r9 : ((kt : Int) < (ts.length : Int)) = True := eq_true (by omega)
 have HRT := Lib.hid (show ∀ p, p ∈ xs ∨ p = (t, cl) → ReadX w p from fun p hp => by
   rcases hp with hp | rfl
   · exact hX.2 p hp
   · exact ⟨hcol, hcn, hcc, hnone⟩)
 have HLT := Lib.hid (show ∀ p, p ∈ xs ∨ p = (t, cl) → p.2.length ≤ 1000 from fun p hp => by
   rcases hp with hp | rfl
   · exact hlx p hp
   · exact hcl)
 have HDT := Lib.hid (show ∀ W, Below w.heap.size w W → DeepAt W (some ⟨b, off, none⟩) ts ∧ ((some ⟨b, off, none⟩ : Option Addr) = none → ts = []) ∧ (∀ p ∈ ts, p.2.length ≤ 1000) from fun W hB => ⟨hD.keep hB, (fun h => by cases h), hl⟩)
 have HTS := Lib.hid (show ∀ W, Below w.heap.size w W → IdxsAt W ia (xs.map Prod.fst) from fun W hB => CellsAt.keep hB hX.1)
 have HA0 := Lib.hid (show ia = none → xs.map Prod.fst = [] from fun h => by rw [hX0 h]; rfl)
 have HX0 := Lib.hid (show ∀ W : World, w.heap.size + 3 ≤ W.heap.size → (W.alloc (.cells #[] 28)).ownsRow (w.heap.size + 3) 28 6 (.slice (some ⟨W.heap.size, 0, none⟩) 0 0) 0 [] from fun W hW => World.ownsRow_made W #[] 0 hW (Nat.zero_le _) (by simp))
 have HSO := Lib.hid (show ∀ A c l W, IdxsAt W A l → l.length ≤ 900 → Calls Tryz.prog 63 #[.slice A l.length c] W fun e w' => ∃ v, e = .returned v ∧ Below W.heap.size W w' ∧ w'.ownsRow W.heap.size 28 6 v l.length ((sortG Idx.name l).map idxL).flatten from fun A c l W h hl => rindexes_any A c l W h hl)
 have HCLL := Lib.hid hcl
 obtain ⟨T, hT⟩ : ∃ T, T = ts.map ptOf := ⟨_, rfl⟩
 obtain ⟨X, hXX⟩ : ∃ X, X = xs.map pxOf := ⟨_, rfl⟩
 have HT := Lib.hid hT
 have HXX := Lib.hid hXX
 rw [← hT, ← hXX]
 obtain ⟨n, hnn⟩ : ∃ n, n = ts.length := ⟨_, rfl⟩
 obtain ⟨mx, hmm⟩ : ∃ mx, mx = xs.length := ⟨_, rfl⟩
 have HN := Lib.hid hnn
 have HM := Lib.hid hmm
 rw [← hnn] at HST HTI HTT r9 HKT  hn
 rw [← hmm] at HST HTI HTT r7  hm
 obtain ⟨tn, tt, ta, tl, tc, tr, tx, tw⟩ := t
 dsimp only at HST HTI HTT HNA r1 r2 r3 r4 r5 HPL ⊢
 rw [← hnn, ← hmm]
 clear hG hD hX ht hnn hmm hbad hname hof hat hcr hcol hcn hcc ht0 hcn0 hkt hnone hcl hl hlx hT hXX hA0 hX0
 obtain ⟨t0n, t0a, t0l, t0c, t0r, t0x, t0w⟩ := t0
 dsimp only at HPL HTC
 go_enter Tryz.func31, Tryz.ntmps31
 go_wp2_with fail
 obtain ⟨w0, hw0⟩ : ∃ w0, w0 = (((w.alloc (.cells #[.slice (some ⟨b, off, none⟩) n c, .slice ia mx ic] 36)).alloc (.cells #[.string tn, .string tt, .slice ta tl tc, .int .i64 tr, .int .i64 tx, .int .i64 tw] 28)).alloc (.cells #[.slice none 0 0, .slice none 0 0] 36)) := ⟨_, rfl⟩
 rw [← hw0] at HST ⊢
 have HKS := Lib.hid (show PutXL w (some ⟨b, off, none⟩) n c ia mx ic ⟨tn, tt, ta, tl, tc, tr, tx, tw⟩ w0.drew from HST.out.keep ((Below.refl _ _).drew))
 have k0 := cell_of_row w0.drew _ 0 _ _ _ HKS.out.tab
 have k1 := cell_of_row w0.drew _ 1 _ _ _ HKS.out.tab
 have k2 := cell_of_row w0.drew _ 2 _ _ _ HKS.out.tab
 have k3 := cell_of_row w0.drew _ 3 _ _ _ HKS.out.tab
 have k4 := cell_of_row w0.drew _ 4 _ _ _ HKS.out.tab
 have k5 := cell_of_row w0.drew _ 5 _ _ _ HKS.out.tab
 have s0 := cell_of_row w0.drew _ 0 _ _ _ HKS.out.sch
 have s1 := cell_of_row w0.drew _ 1 _ _ _ HKS.out.sch
 have a0 := cell_of_row w0.drew _ 0 _ _ _ HKS.out.ans
 have a1 := cell_of_row w0.drew _ 1 _ _ _ HKS.out.ans
 have f0 := frozen_of_row w0.drew _ 0 _ _ HKS.out.ans
 have f1 := frozen_of_row w0.drew _ 1 _ _ HKS.out.ans
 clear hw0
 have HSX := Lib.hid (show ∀ wx, PutXL w (some ⟨b, off, none⟩) n c ia mx ic ⟨tn, tt, ta, tl, tc, tr, tx, tw⟩ wx → PutXL w (some ⟨b, off, none⟩) n c ia mx ic ⟨tn, tt, ta, tl, tc, tr, tx, tw⟩ wx ∧ wx.cell? ⟨w.heap.size, 0, none⟩ = some (.slice (some ⟨b, off, none⟩) n c) ∧ wx.cell? ⟨w.heap.size, 1, none⟩ = some (.slice ia mx ic) ∧ wx.cell? ⟨w.heap.size + 1, 0, none⟩ = some (.string tn) ∧ wx.cell? ⟨w.heap.size + 1, 1, none⟩ = some (.string tt) from fun wx h => ⟨h, cell_of_row _ _ 0 _ _ _ h.sch, cell_of_row _ _ 1 _ _ _ h.sch, cell_of_row _ _ 0 _ _ _ h.tab, cell_of_row _ _ 1 _ _ _ h.tab⟩)
 refine wp_region_held_drew (S := (fun wx => PutXL w (some ⟨b, off, none⟩) n c ia mx ic ⟨tn, tt, ta, tl, tc, tr, tx, tw⟩ wx ∧ wx.cell? ⟨w.heap.size, 0, none⟩ = some (.slice (some ⟨b, off, none⟩) n c) ∧ wx.cell? ⟨w.heap.size, 1, none⟩ = some (.slice ia mx ic) ∧ wx.cell? ⟨w.heap.size + 1, 0, none⟩ = some (.string tn) ∧ wx.cell? ⟨w.heap.size + 1, 1, none⟩ = some (.string tt))) (by kernel_rfl) (HSX.out _ HKS.out) (fun hHeld => ?_)
 (try dsimp only at hHeld)
 refine wpAnyH_take (i := 0) (v := ?_) (List.getElem?_toArray.trans rfl) (by kernel_rfl) (by kernel_rfl) (by kernel_rfl) (fun _ _ _ h => h) (Or.inl ⟨by rfl, ?_⟩) hHeld ?_
 rotate_left
 · intro wx hSw
   (try dsimp only at hSw)
   obtain ⟨_, e0, e1, e2, e3⟩ := hSw
   go_simp
   (try with_reducible rfl)
 (try simp only [Act.put, List.setIfInBounds_toArray, List.set_cons_zero, List.set_cons_succ])
 refine wpAnyH_take (i := 1) (v := ?_) (List.getElem?_toArray.trans rfl) (by kernel_rfl) (by kernel_rfl) (by kernel_rfl) (fun _ _ _ h => h) (Or.inl ⟨by rfl, ?_⟩) hHeld ?_
 rotate_left
 · intro wx hSw
   (try dsimp only at hSw)
   obtain ⟨_, e0, e1, e2, e3⟩ := hSw
   go_simp
   (try with_reducible rfl)
 (try simp only [Act.put, List.setIfInBounds_toArray, List.set_cons_zero, List.set_cons_succ])
 refine wpAnyH_take (i := 2) (v := ?_) (List.getElem?_toArray.trans rfl) (by kernel_rfl) (by kernel_rfl) (by kernel_rfl) (fun _ _ _ h => h) (Or.inl ⟨by rfl, ?_⟩) hHeld ?_
 rotate_left
 · intro wx hSw
   (try dsimp only at hSw)
   obtain ⟨_, e0, e1, e2, e3⟩ := hSw
   go_simp
   (try with_reducible rfl)
 (try simp only [Act.put, List.setIfInBounds_toArray, List.set_cons_zero, List.set_cons_succ])
 refine wpAnyH_take (i := 4) (v := ?_) (List.getElem?_toArray.trans rfl) (by kernel_rfl) (by kernel_rfl) (by kernel_rfl) (fun _ _ _ h => h) (Or.inl ⟨by rfl, ?_⟩) hHeld ?_
 rotate_left
 · intro wx hSw
   (try dsimp only at hSw)
   obtain ⟨_, e0, e1, e2, e3⟩ := hSw
   go_simp
   (try with_reducible rfl)
 (try simp only [Act.put, List.setIfInBounds_toArray, List.set_cons_zero, List.set_cons_succ])
 refine wpAnyH_take (i := 5) (v := ?_) (List.getElem?_toArray.trans rfl) (by kernel_rfl) (by kernel_rfl) (by kernel_rfl) (fun _ _ _ h => h) (Or.inl ⟨by rfl, ?_⟩) hHeld ?_
 rotate_left
 · intro wx hSw
   (try dsimp only at hSw)
   obtain ⟨_, e0, e1, e2, e3⟩ := hSw
   go_simp
   (try with_reducible rfl)
 (try simp only [Act.put, List.setIfInBounds_toArray, List.set_cons_zero, List.set_cons_succ])
 refine wpAnyH_take (i := 6) (v := ?_) (List.getElem?_toArray.trans rfl) (by kernel_rfl) (by kernel_rfl) (by kernel_rfl) (fun _ _ _ h => h) (Or.inl ⟨by rfl, ?_⟩) hHeld ?_
 rotate_left
 · intro wx hSw
   (try dsimp only at hSw)
   obtain ⟨_, e0, e1, e2, e3⟩ := hSw
   go_simp
   (try with_reducible rfl)
 (try simp only [Act.put, List.setIfInBounds_toArray, List.set_cons_zero, List.set_cons_succ])
 refine wpAnyH_ready (rs := [3]) (by kernel_rfl) (by simp) ?_
 refine AllReadyH.cons (List.getElem?_toArray.trans rfl) (fun K hK => ?_) AllReadyH.nil
 go_simp
 go_at_call 15
 with_reducible refine Calls.mono (HTI.out _ hHeld.1.below) ?_
 rintro e w2 ⟨rfl, hB5⟩
 have hHeld2 := HSX.out _ (hHeld.1.keep hB5)
 refine hK.out _ _ hHeld2 (fun _ => ?_)
 clear hK K hHeld hB5
 have hHeld := hHeld2
 clear hHeld2
 (try simp only [Act.put, List.setIfInBounds_toArray, List.set_cons_zero, List.set_cons_succ])
 refine wpAnyH_ready (rs := [7]) (by kernel_rfl) (by simp) ?_
 refine AllReadyH.cons (List.getElem?_toArray.trans rfl) (fun K hK => ?_) AllReadyH.nil
 go_simp
 go_at_call 13
 with_reducible refine Calls.mono (HTT.out _ hHeld.1.below) ?_
 rintro e w3 ⟨rfl, hB5⟩
 have hHeld2 := HSX.out _ (hHeld.1.keep hB5)
 refine hK.out _ _ hHeld2 (fun _ => ?_)
 clear hK K hHeld hB5
 have hHeld := hHeld2
 clear hHeld2
 (try simp only [Act.put, List.setIfInBounds_toArray, List.set_cons_zero, List.set_cons_succ])
 refine wpAnyH_take (i := 8) (v := ?_) (List.getElem?_toArray.trans rfl) (by kernel_rfl) (by kernel_rfl) (by kernel_rfl) (fun _ _ _ h => h) (Or.inl ⟨by rfl, ?_⟩) hHeld ?_
 rotate_left
 · intro wx hSw
   (try dsimp only at hSw)
   obtain ⟨_, e0, e1, e2, e3⟩ := hSw
   go_simp
   (try with_reducible rfl)
 (try simp only [Act.put, List.setIfInBounds_toArray, List.set_cons_zero, List.set_cons_succ])
 refine wpAnyH_take (i := 9) (v := ?_) (List.getElem?_toArray.trans rfl) (by kernel_rfl) (by kernel_rfl) (by kernel_rfl) (fun _ _ _ h => h) (Or.inl ⟨by rfl, ?_⟩) hHeld ?_
 rotate_left
 · intro wx hSw
   (try dsimp only at hSw)
   obtain ⟨_, e0, e1, e2, e3⟩ := hSw
   go_simp
   (try with_reducible rfl)
 (try simp only [Act.put, List.setIfInBounds_toArray, List.set_cons_zero, List.set_cons_succ])
 refine wpAnyH_done (by kernel_rfl) ?_ _
 have HK3 := Lib.hid hHeld.1
 clear hHeld HSX
 all_goals
   clear k0 k1 k2 k3 k4 k5 s0 s1 a0 a1 f0 f1
   have k0 := cell_of_row _ _ 0 _ _ _ HK3.out.tab
   have k1 := cell_of_row _ _ 1 _ _ _ HK3.out.tab
   have k2 := cell_of_row _ _ 2 _ _ _ HK3.out.tab
   have k3 := cell_of_row _ _ 3 _ _ _ HK3.out.tab
   have k4 := cell_of_row _ _ 4 _ _ _ HK3.out.tab
   have k5 := cell_of_row _ _ 5 _ _ _ HK3.out.tab
   have s0 := cell_of_row _ _ 0 _ _ _ HK3.out.sch
   have s1 := cell_of_row _ _ 1 _ _ _ HK3.out.sch
   have a0 := cell_of_row _ _ 0 _ _ _ HK3.out.ans
   have a1 := cell_of_row _ _ 1 _ _ _ HK3.out.ans
   have f0 := frozen_of_row _ _ 0 _ _ HK3.out.ans
   have f1 := frozen_of_row _ _ 1 _ _ HK3.out.ans
   clear HKS HST
   go_wp2_with (first
     | (go_at_call 47; (with_reducible refine (HNA.out _ HK3.out.below).mono ?_); rintro e w5 ⟨rfl, hB5⟩
        have HK5 := Lib.hid (HK3.out.keep hB5)
        clear k0 k1 k2 k3 k4 k5 s0 s1 a0 a1 f0 f1
        have k0 := cell_of_row _ _ 0 _ _ _ HK5.out.tab
        have k1 := cell_of_row _ _ 1 _ _ _ HK5.out.tab
        have k2 := cell_of_row _ _ 2 _ _ _ HK5.out.tab
        have k3 := cell_of_row _ _ 3 _ _ _ HK5.out.tab
        have k4 := cell_of_row _ _ 4 _ _ _ HK5.out.tab
        have k5 := cell_of_row _ _ 5 _ _ _ HK5.out.tab
        have s0 := cell_of_row _ _ 0 _ _ _ HK5.out.sch
        have s1 := cell_of_row _ _ 1 _ _ _ HK5.out.sch
        have a0 := cell_of_row _ _ 0 _ _ _ HK5.out.ans
        have a1 := cell_of_row _ _ 1 _ _ _ HK5.out.ans
        have f0 := frozen_of_row _ _ 0 _ _ HK5.out.ans
        have f1 := frozen_of_row _ _ 1 _ _ HK5.out.ans
        clear hB5)
     | fail)
   have HK5d := Lib.hid (show PutXL w (some ⟨b, off, none⟩) n c ia mx ic ⟨tn, tt, ta, tl, tc, tr, tx, tw⟩ w5.drew from HK5.out.keep ((Below.refl _ _).drew))
   clear k0 k1 k2 k3 k4 k5 s0 s1 a0 a1 f0 f1
   have k0 := cell_of_row w5.drew _ 0 _ _ _ HK5d.out.tab
   have k1 := cell_of_row w5.drew _ 1 _ _ _ HK5d.out.tab
   have k2 := cell_of_row w5.drew _ 2 _ _ _ HK5d.out.tab
   have k3 := cell_of_row w5.drew _ 3 _ _ _ HK5d.out.tab
   have k4 := cell_of_row w5.drew _ 4 _ _ _ HK5d.out.tab
   have k5 := cell_of_row w5.drew _ 5 _ _ _ HK5d.out.tab
   have s0 := cell_of_row w5.drew _ 0 _ _ _ HK5d.out.sch
   have s1 := cell_of_row w5.drew _ 1 _ _ _ HK5d.out.sch
   have a0 := cell_of_row w5.drew _ 0 _ _ _ HK5d.out.ans
   have a1 := cell_of_row w5.drew _ 1 _ _ _ HK5d.out.ans
   have f0 := frozen_of_row w5.drew _ 0 _ _ HK5d.out.ans
   have f1 := frozen_of_row w5.drew _ 1 _ _ HK5d.out.ans
   have j0 : w5.drew.cell? ⟨b, off + kt * 5, none⟩ = some (.string t0n) := HTC.out _ HK5d.out.below 0 _ rfl
   have j1 : w5.drew.cell? ⟨b, off + kt * 5 + 1, none⟩ = some (.slice t0a t0l t0c) := HTC.out _ HK5d.out.below 1 _ rfl
   have j2 : w5.drew.cell? ⟨b, off + kt * 5 + 2, none⟩ = some (.int .i64 t0r) := HTC.out _ HK5d.out.below 2 _ rfl
   have j3 : w5.drew.cell? ⟨b, off + kt * 5 + 3, none⟩ = some (.int .i64 t0x) := HTC.out _ HK5d.out.below 3 _ rfl
   have j4 : w5.drew.cell? ⟨b, off + kt * 5 + 4, none⟩ = some (.int .i64 t0w) := HTC.out _ HK5d.out.below 4 _ rfl
   go_region_law (first
     | (go_simp; go_at_call 23; (with_reducible refine (HPL.out _ HK5d.out.below).mono ?_); rintro e w6 ⟨rfl, hB6⟩
        have HK6 := Lib.hid (HK5d.out.keep hB6)
        clear k0 k1 k2 k3 k4 k5 s0 s1 a0 a1 f0 f1
        have k0 := cell_of_row _ _ 0 _ _ _ HK6.out.tab
        have k1 := cell_of_row _ _ 1 _ _ _ HK6.out.tab
        have k2 := cell_of_row _ _ 2 _ _ _ HK6.out.tab
        have k3 := cell_of_row _ _ 3 _ _ _ HK6.out.tab
        have k4 := cell_of_row _ _ 4 _ _ _ HK6.out.tab
        have k5 := cell_of_row _ _ 5 _ _ _ HK6.out.tab
        have s0 := cell_of_row _ _ 0 _ _ _ HK6.out.sch
        have s1 := cell_of_row _ _ 1 _ _ _ HK6.out.sch
        have a0 := cell_of_row _ _ 0 _ _ _ HK6.out.ans
        have a1 := cell_of_row _ _ 1 _ _ _ HK6.out.ans
        have f0 := frozen_of_row _ _ 0 _ _ HK6.out.ans
        have f1 := frozen_of_row _ _ 1 _ _ HK6.out.ans
        clear hB6 j0 j1 j2 j3 j4)
     | fail)
   all_goals
     have HS6 := Lib.hid (show w.heap.size + 3 ≤ w6.heap.size from by have := heap_lt HK6.out.ans; omega)
     have HOW := Lib.hid (HX0.out w6 HS6.out)
     have HB7 := Lib.hid (show Below w.heap.size w (w6.alloc (.cells #[] 28)) from HK6.out.below.alloc HK6.out.below.size _)
     have sb0 : ∀ O, (w6.alloc O).cell? ⟨w.heap.size, 1, none⟩ = some (.slice ia mx ic) := fun O => cell_kept s1 (below1 w6 O)
     go_wp2_with (first
       | (at_builtin; refine list_idxsA _ (by rfl) (.tmp 72) (.tmp 74) (by rfl) (w.heap.size + 3) w6.heap.size 0 0 [] (by rfl) HOW.out ia mx ic (xs.map Prod.fst) (by rfl) (by rw [List.length_map]; exact HM.out) (HTS.out _ HB7.out) HA0.out (by omega) (by have := HS6.out; simp; omega) ?_
          intro v8 w8 hown hgr hat
          rw [Nat.zero_add, List.nil_append] at hown
          have HV8 := Lib.hid hown
          have HK8 := Lib.hid (show PutXL w (some ⟨b, off, none⟩) n c ia mx ic ⟨tn, tt, ta, tl, tc, tr, tx, tw⟩ w8 from by
            have h0 := HK6.out.keep (below1 w6 (.cells #[] 28))
            have h1 := heap_lt HK6.out.sch
            have h2 := heap_lt HK6.out.tab
            have h3 := heap_lt HK6.out.ans
            refine ⟨h0.below.grown hgr h0.below.size (fun q hq => by have h1 : w6.heap.size = q := Option.some.inj hq; have := HS6.out; omega), ?_, ?_, ?_⟩
            · exact (hgr.block _ (heap_lt h0.sch) (fun e => by have := Option.some.inj e; omega)).trans h0.sch
            · exact (hgr.block _ (heap_lt h0.tab) (fun e => by have := Option.some.inj e; omega)).trans h0.tab
            · exact (hgr.block _ (heap_lt h0.ans) (fun e => by have := Option.some.inj e; omega)).trans h0.ans)
          clear sb0
          clear k0 k1 k2 k3 k4 k5 s0 s1 a0 a1 f0 f1
          have k0 := cell_of_row _ _ 0 _ _ _ HK8.out.tab
          have k1 := cell_of_row _ _ 1 _ _ _ HK8.out.tab
          have k2 := cell_of_row _ _ 2 _ _ _ HK8.out.tab
          have k3 := cell_of_row _ _ 3 _ _ _ HK8.out.tab
          have k4 := cell_of_row _ _ 4 _ _ _ HK8.out.tab
          have k5 := cell_of_row _ _ 5 _ _ _ HK8.out.tab
          have s0 := cell_of_row _ _ 0 _ _ _ HK8.out.sch
          have s1 := cell_of_row _ _ 1 _ _ _ HK8.out.sch
          have a0 := cell_of_row _ _ 0 _ _ _ HK8.out.ans
          have a1 := cell_of_row _ _ 1 _ _ _ HK8.out.ans
          have f0 := frozen_of_row _ _ 0 _ _ HK8.out.ans
          have f1 := frozen_of_row _ _ 1 _ _ HK8.out.ans
          clear hown hgr hat)
       | (at_builtin; refine list_idx _ (by rfl) (.tmp 86) (.tmp 88) (by rfl) (w.heap.size + 3) v8 mx ((xs.map Prod.fst).map idxL).flatten (by rfl) (own_kept HV8.out (below1 w8 _) (Nat.le_refl _)) w8.heap.size 1 ⟨tn, tt, ta, tl, tc, tr, tx, tw⟩ (by rfl) (heap_alloc_new w8 _) (by omega) (by have := heap_lt HK8.out.ans; simp; omega) ?_
          intro v9 w9 hown hgr hat
          obtain ⟨g, cap, rfl⟩ := own_slice hown
          have HV9 := Lib.hid (show w9.ownsRow (w.heap.size + 3) 28 6 (.slice (some ⟨g, 0, none⟩) (mx + 1) cap) (mx + 1) ((((xs ++ [((⟨tn, tt, ta, tl, tc, tr, tx, tw⟩ : Idx), cl)]).map Prod.fst).map idxL).flatten) from by simpa using hown)
          have HK9 := Lib.hid (show PutXL w (some ⟨b, off, none⟩) n c ia mx ic ⟨tn, tt, ta, tl, tc, tr, tx, tw⟩ w9 from by
            have h0 := HK8.out.keep (below1 w8 (.cells #[.string tn, .string tt, .slice ta tl tc, .int .i64 tr, .int .i64 tx, .int .i64 tw] 28))
            refine ⟨h0.below.grown hgr h0.below.size (fun q hq => by have := (HV8.out.lt q hq).1; omega), ?_, ?_, ?_⟩
            · exact (hgr.block _ (heap_lt h0.sch) (fun e => by have := (HV8.out.lt _ e.symm).1; omega)).trans h0.sch
            · exact (hgr.block _ (heap_lt h0.tab) (fun e => by have := (HV8.out.lt _ e.symm).1; omega)).trans h0.tab
            · exact (hgr.block _ (heap_lt h0.ans) (fun e => by have := (HV8.out.lt _ e.symm).1; omega)).trans h0.ans)
          clear hown hgr hat)
       | fail)
     have HK9d := Lib.hid (show PutXL w (some ⟨b, off, none⟩) n c ia mx ic ⟨tn, tt, ta, tl, tc, tr, tx, tw⟩ w9.drew from HK9.out.keep ((Below.refl _ _).drew))
     clear k0 k1 k2 k3 k4 k5 s0 s1 a0 a1 f0 f1
     have k0 := cell_of_row w9.drew _ 0 _ _ _ HK9d.out.tab
     have k1 := cell_of_row w9.drew _ 1 _ _ _ HK9d.out.tab
     have k2 := cell_of_row w9.drew _ 2 _ _ _ HK9d.out.tab
     have k3 := cell_of_row w9.drew _ 3 _ _ _ HK9d.out.tab
     have k4 := cell_of_row w9.drew _ 4 _ _ _ HK9d.out.tab
     have k5 := cell_of_row w9.drew _ 5 _ _ _ HK9d.out.tab
     have s0 := cell_of_row w9.drew _ 0 _ _ _ HK9d.out.sch
     have s1 := cell_of_row w9.drew _ 1 _ _ _ HK9d.out.sch
     have a0 := cell_of_row w9.drew _ 0 _ _ _ HK9d.out.ans
     have a1 := cell_of_row w9.drew _ 1 _ _ _ HK9d.out.ans
     have f0 := frozen_of_row w9.drew _ 0 _ _ HK9d.out.ans
     have f1 := frozen_of_row w9.drew _ 1 _ _ HK9d.out.ans
     have HLN := Lib.hid (show ((xs ++ [((⟨tn, tt, ta, tl, tc, tr, tx, tw⟩ : Idx), cl)]).map Prod.fst).length = mx + 1 by rw [List.length_map, List.length_append, ← HM.out]; rfl)
     have HTB := Lib.hid (show IdxsAt w9.drew (some ⟨g, 0, none⟩) ((xs ++ [((⟨tn, tt, ta, tl, tc, tr, tx, tw⟩ : Idx), cl)]).map Prod.fst) from (RowsAt.cells (RowsAt.of_own HV9.out) (by omega) (idx_len _) (by rw [List.length_map, HLN.out]; omega)).1)
     have HSC := Lib.hid (show Calls Tryz.prog 63 #[.slice (some ⟨g, 0, none⟩) (mx + 1) cap] w9.drew fun e w' => ∃ v, e = .returned v ∧ Below w9.drew.heap.size w9.drew w' ∧ w'.ownsRow w9.drew.heap.size 28 6 v (mx + 1) ((sortG Idx.name ((xs ++ [((⟨tn, tt, ta, tl, tc, tr, tx, tw⟩ : Idx), cl)]).map Prod.fst)).map idxL).flatten from by
       have h := HSO.out (some ⟨g, 0, none⟩) cap _ w9.drew HTB.out (by rw [HLN.out]; omega)
       rw [HLN.out] at h
       exact h)
     go_region_law (first
       | (go_simp; go_at_call 63; (with_reducible refine HSC.out.mono ?_); rintro e wA ⟨v, rfl, hBA, hown⟩
          have HBA := Lib.hid hBA
          obtain ⟨g2, cap2, rfl⟩ := own_slice hown
          have HVA := Lib.hid hown
          have HKA := Lib.hid (HK9d.out.keep hBA)
          clear k0 k1 k2 k3 k4 k5 s0 s1 a0 a1 f0 f1
          have k0 := cell_of_row _ _ 0 _ _ _ HKA.out.tab
          have k1 := cell_of_row _ _ 1 _ _ _ HKA.out.tab
          have k2 := cell_of_row _ _ 2 _ _ _ HKA.out.tab
          have k3 := cell_of_row _ _ 3 _ _ _ HKA.out.tab
          have k4 := cell_of_row _ _ 4 _ _ _ HKA.out.tab
          have k5 := cell_of_row _ _ 5 _ _ _ HKA.out.tab
          have s0 := cell_of_row _ _ 0 _ _ _ HKA.out.sch
          have s1 := cell_of_row _ _ 1 _ _ _ HKA.out.sch
          have a0 := cell_of_row _ _ 0 _ _ _ HKA.out.ans
          have a1 := cell_of_row _ _ 1 _ _ _ HKA.out.ans
          have f0 := frozen_of_row _ _ 0 _ _ HKA.out.ans
          have f1 := frozen_of_row _ _ 1 _ _ HKA.out.ans
          clear hBA hown)
       | fail)
     all_goals
       go_wp2_with fail
       refine bodyPost_ret (v := .tuple #[.agg #[.slice (some ⟨b, off, none⟩) n c, .slice (some ⟨g2, 0, none⟩) (mx + 1) cap2], .int .i64 0]) (by simp [results, Tryz.results31, go_sem, a0, a1]) rfl ?_
       have hBF := HKA.out.done (.slice (some ⟨b, off, none⟩) n c) (.slice (some ⟨g2, 0, none⟩) (mx + 1) cap2)
       have h9 := heap_lt HK9.out.ans
       have hs : w.heap.size + 3 ≤ w9.drew.heap.size := by show w.heap.size + 3 ≤ w9.heap.size; omega
       obtain ⟨xs2, hxs2⟩ : ∃ xs2, xs2 = sortG (fun p : Idx × List Int => p.1.name) (xs ++ [((⟨tn, tt, ta, tl, tc, tr, tx, tw⟩ : Idx), cl)]) := ⟨_, rfl⟩
       have e1 : xs2.map Prod.fst = sortG Idx.name ((xs ++ [((⟨tn, tt, ta, tl, tc, tr, tx, tw⟩ : Idx), cl)]).map Prod.fst) := by
         rw [hxs2]
         exact sortG_map (fun p : Idx × List Int => p.1.name) Idx.name Prod.fst (fun _ => rfl) _
       have e2 : xs2.length = mx + 1 := by rw [hxs2, sortG_len, ← HLN.out, List.length_map]
       have hmem : ∀ p ∈ xs2, p ∈ xs ∨ p = ((⟨tn, tt, ta, tl, tc, tr, tx, tw⟩ : Idx), cl) := fun p hp => by
         rw [hxs2] at hp
         rcases List.mem_append.1 (sortG_mem _ hp) with h | h
         · exact Or.inl h
         · exact Or.inr (List.mem_singleton.1 h)
       have hrow := ((RowsAt.of_own HVA.out).le hs)
       rw [← e1] at hrow
       obtain ⟨hd1, hd2⟩ := doc_x (xs := xs2) hBF ((hrow.box (w.heap.size + 1 + 1) 0 (.slice (some ⟨b, off, none⟩) n c) (by omega)).box (w.heap.size + 1 + 1) 1 (.slice (some ⟨g2, 0, none⟩) (mx + 1) cap2) (by omega)) (by omega) (fun p hp => HRT.out p (hmem p hp))
       obtain ⟨hx1, hx2, hx3⟩ := HDT.out _ hBF
       refine ⟨hBF, Or.inl ⟨rfl, some ⟨b, off, none⟩, some ⟨g2, 0, none⟩, c, cap2, ts, xs2, by rw [e2, ← HN.out], hx1, hd1, hx2, hd2, hx3, fun p hp => HLT.out p (hmem p hp), HT.out.symm, ?_⟩⟩
       rw [hxs2, sortG_map (fun p : Idx × List Int => p.1.name) PX.name pxOf (fun _ => rfl), List.map_append, HXX.out]
       rfl
set_option maxRecDepth 100000 in
set_option maxHeartbeats 16000000 in
theorem rputx_again (m : Int) (gt : Nat → Nat) (ht : ∀ j, j < 23 → finD (Ieee.double.read (gt j)) = true) (A : Option Addr) (c : Nat) (ts : List (Tab × List Col)) (ia : Option Addr) (ic : Nat) (xs : List (Idx × List Int)) (t : Idx) (w : World) (hG : Glob m gt w) (hD : DeepAt w A ts) (hX : DeepIx w ia xs) (hbad : idxBad t = false) (kt : Nat) (t0 : Tab) (l0 : List Col) (hof : findN PT.name (ts.map ptOf) t.table = some kt) (ht0 : ts[kt]? = some (t0, l0)) (cl : List Int) (hcol : IntsAt w t.pa cl) (hcn : t.pn = cl.length) (hcc : cl.length ≤ t.pc) (hA0 : A = none → ts = []) (hX0 : ia = none → xs = []) (hnone : t.pa = none → t.pc = 0) (hcr : placesR l0.length cl = 0) (hcl : cl.length ≤ 1000) (hn : ts.length ≤ 1000) (hl : ∀ p ∈ ts, p.2.length ≤ 1000) (hlx : ∀ p ∈ xs, p.2.length ≤ 1000) (hm : xs.length ≤ 1000) (k : Nat) (hat : findN PX.name (xs.map pxOf) t.name = some k) :
   Calls Tryz.prog 31 #[.agg #[.slice A ts.length c, .slice ia xs.length ic], .agg #[.string t.name, .string t.table, .slice t.pa t.pn t.pc, .int .i64 t.state, .int .i64 t.root, .int .i64 t.cursor]] w (DocP w 0 (ts.map ptOf) ((xs.map pxOf).set k (pxOf (t, cl)))) := by
 have HST := Lib.hid (PutXL.start w A ts.length c ia xs.length ic t)
 have HTI := Lib.hid (show ∀ W, Below w.heap.size w W → Calls Tryz.prog 15 #[.agg #[.slice A ts.length c, .slice ia xs.length ic], .string t.name] W (RetV (.int .i64 (placeI (findN PX.name (xs.map pxOf) t.name))) W) from fun W hB => rindex_at ia ic xs A ts.length c t.name W (DeepIx.keep hB hX))
 have HTT := Lib.hid (show ∀ W, Below w.heap.size w W → Calls Tryz.prog 13 #[.agg #[.slice A ts.length c, .slice ia xs.length ic], .string t.table] W (RetV (.int .i64 (placeI (findN PT.name (ts.map ptOf) t.table))) W) from fun W hB => rtable_at A c ts ia xs.length ic t.table W (DeepAt.keep hB hD))
 obtain ⟨hname, r1, r2, r3, r4, r5⟩ := idxBad_no hbad
 have HNA := Lib.hid (show ∀ W, Below w.heap.size w W → Calls Tryz.prog 47 #[.string t.name] W (RetV (.bool true) W) from fun W hB => by have h := rname_any m gt ht t.name W (hG.keep hB); rwa [hname] at h)
 rw [hof] at HTT
 simp only [placeI] at HTT
 have r6 : ((kt : Int) < 0) = False := eq_false (by omega)
 rw [hat] at HTI
 simp only [placeI] at HTI
 have hkl : k < xs.length := by have := findN_lt hat; rwa [List.length_map] at this
 have HKL := Lib.hid hkl
 have r7 : ((k : Int) < 0) = False := eq_false (by omega)
 have r8 : ((0 : Int) ≤ (k : Int)) = True := eq_true (by omega)
 have hkt : kt < ts.length := (List.getElem?_eq_some_iff.1 ht0).1
 have HKT := Lib.hid hkt
 obtain ⟨b, off, rfl, HTC⟩ : ∃ b off, A = some ⟨b, off, none⟩ ∧ Hid (∀ W, Below w.heap.size w W → ∀ (i : Nat) (u : Value), (tabL t0)[i]? = some u → W.cell? ⟨b, off + kt * 5 + i, none⟩ = some u) := by
   rcases hD.1.2 with h0 | ⟨b, off, h1, h2, h3⟩
   · exfalso
     rw [List.map_eq_nil_iff, List.map_eq_nil_iff] at h0
     subst h0
     simp at hkt
   · refine ⟨b, off, h1, fun W hB i u hi => (hB.cell (p := ⟨b, off + kt * 5 + i, none⟩) h2).trans ((h3 kt (tabL t0) ?_).2 i u hi)⟩
     rw [List.getElem?_map, List.getElem?_map, ht0]
     rfl
 have hcn0 : t0.cn = l0.length := (hD.2 (t0, l0) (List.mem_of_getElem? ht0)).2.1
 have HPL := Lib.hid (show ∀ W, Below w.heap.size w W → Calls Tryz.prog 23 #[.agg #[.string t0.name, .slice t0.ca t0.cn t0.cc, .int .i64 t0.root, .int .i64 t0.next, .int .i64 t0.rows], .slice t.pa t.pn t.pc] W (RetV (.int .i64 0) W) from fun W hB => by
   have h := rplaces_any t0.name t0.ca t0.cn t0.cc t0.root t0.next t0.rows t.pa t.pc cl W (IntsAt.keep hB hcol)
   rw [show (t0.cn : Int) = (l0.length : Int) by rw [hcn0], hcr, ← hcn] at h
   exact h)
 have r9 : ((kt : Int) < (ts.length : Int)) = True := eq_true (by omega)
 have HRT := Lib.hid (show ∀ p, p ∈ xs ∨ p = (t, cl) → ReadX w p from fun p hp => by
   rcases hp with hp | rfl
   · exact hX.2 p hp
   · exact ⟨hcol, hcn, hcc, hnone⟩)
 have HLT := Lib.hid (show ∀ p, p ∈ xs ∨ p = (t, cl) → p.2.length ≤ 1000 from fun p hp => by
   rcases hp with hp | rfl
   · exact hlx p hp
   · exact hcl)
 have HDT := Lib.hid (show ∀ W, Below w.heap.size w W → DeepAt W (some ⟨b, off, none⟩) ts ∧ ((some ⟨b, off, none⟩ : Option Addr) = none → ts = []) ∧ (∀ p ∈ ts, p.2.length ≤ 1000) from fun W hB => ⟨hD.keep hB, (fun h => by cases h), hl⟩)
 have HTS := Lib.hid (show ∀ W, Below w.heap.size w W → IdxsAt W ia (xs.map Prod.fst) from fun W hB => CellsAt.keep hB hX.1)
 have HA0 := Lib.hid (show ia = none → xs.map Prod.fst = [] from fun h => by rw [hX0 h]; rfl)
 have HX0 := Lib.hid (show ∀ W : World, w.heap.size + 3 ≤ W.heap.size → (W.alloc (.cells #[] 28)).ownsRow (w.heap.size + 3) 28 6 (.slice (some ⟨W.heap.size, 0, none⟩) 0 0) 0 [] from fun W hW => World.ownsRow_made W #[] 0 hW (Nat.zero_le _) (by simp))
 have HCLL := Lib.hid hcl
 obtain ⟨T, hT⟩ : ∃ T, T = ts.map ptOf := ⟨_, rfl⟩
 obtain ⟨X, hXX⟩ : ∃ X, X = xs.map pxOf := ⟨_, rfl⟩
 have HT := Lib.hid hT
 have HXX := Lib.hid hXX
 rw [← hT, ← hXX]
 obtain ⟨n, hnn⟩ : ∃ n, n = ts.length := ⟨_, rfl⟩
 obtain ⟨mx, hmm⟩ : ∃ mx, mx = xs.length := ⟨_, rfl⟩
 have HN := Lib.hid hnn
 have HM := Lib.hid hmm
 rw [← hnn] at HST HTI HTT r9 HKT  hn
 rw [← hmm] at HST HTI HTT HKL  hm
 obtain ⟨tn, tt, ta, tl, tc, tr, tx, tw⟩ := t
 dsimp only at HST HTI HTT HNA r1 r2 r3 r4 r5 HPL ⊢
 rw [← hnn, ← hmm]
 clear hG hD hX ht hnn hmm hbad hname hof hat hcr hcol hcn hcc ht0 hcn0 hkt hnone hcl hl hlx hT hXX hkl hA0 hX0
 obtain ⟨t0n, t0a, t0l, t0c, t0r, t0x, t0w⟩ := t0
 dsimp only at HPL HTC
 go_enter Tryz.func31, Tryz.ntmps31
 go_wp2_with fail
 obtain ⟨w0, hw0⟩ : ∃ w0, w0 = (((w.alloc (.cells #[.slice (some ⟨b, off, none⟩) n c, .slice ia mx ic] 36)).alloc (.cells #[.string tn, .string tt, .slice ta tl tc, .int .i64 tr, .int .i64 tx, .int .i64 tw] 28)).alloc (.cells #[.slice none 0 0, .slice none 0 0] 36)) := ⟨_, rfl⟩
 rw [← hw0] at HST ⊢
 have HKS := Lib.hid (show PutXL w (some ⟨b, off, none⟩) n c ia mx ic ⟨tn, tt, ta, tl, tc, tr, tx, tw⟩ w0.drew from HST.out.keep ((Below.refl _ _).drew))
 have k0 := cell_of_row w0.drew _ 0 _ _ _ HKS.out.tab
 have k1 := cell_of_row w0.drew _ 1 _ _ _ HKS.out.tab
 have k2 := cell_of_row w0.drew _ 2 _ _ _ HKS.out.tab
 have k3 := cell_of_row w0.drew _ 3 _ _ _ HKS.out.tab
 have k4 := cell_of_row w0.drew _ 4 _ _ _ HKS.out.tab
 have k5 := cell_of_row w0.drew _ 5 _ _ _ HKS.out.tab
 have s0 := cell_of_row w0.drew _ 0 _ _ _ HKS.out.sch
 have s1 := cell_of_row w0.drew _ 1 _ _ _ HKS.out.sch
 have a0 := cell_of_row w0.drew _ 0 _ _ _ HKS.out.ans
 have a1 := cell_of_row w0.drew _ 1 _ _ _ HKS.out.ans
 have f0 := frozen_of_row w0.drew _ 0 _ _ HKS.out.ans
 have f1 := frozen_of_row w0.drew _ 1 _ _ HKS.out.ans
 clear hw0
 have HSX := Lib.hid (show ∀ wx, PutXL w (some ⟨b, off, none⟩) n c ia mx ic ⟨tn, tt, ta, tl, tc, tr, tx, tw⟩ wx → PutXL w (some ⟨b, off, none⟩) n c ia mx ic ⟨tn, tt, ta, tl, tc, tr, tx, tw⟩ wx ∧ wx.cell? ⟨w.heap.size, 0, none⟩ = some (.slice (some ⟨b, off, none⟩) n c) ∧ wx.cell? ⟨w.heap.size, 1, none⟩ = some (.slice ia mx ic) ∧ wx.cell? ⟨w.heap.size + 1, 0, none⟩ = some (.string tn) ∧ wx.cell? ⟨w.heap.size + 1, 1, none⟩ = some (.string tt) from fun wx h => ⟨h, cell_of_row _ _ 0 _ _ _ h.sch, cell_of_row _ _ 1 _ _ _ h.sch, cell_of_row _ _ 0 _ _ _ h.tab, cell_of_row _ _ 1 _ _ _ h.tab⟩)
 refine wp_region_held_drew (S := (fun wx => PutXL w (some ⟨b, off, none⟩) n c ia mx ic ⟨tn, tt, ta, tl, tc, tr, tx, tw⟩ wx ∧ wx.cell? ⟨w.heap.size, 0, none⟩ = some (.slice (some ⟨b, off, none⟩) n c) ∧ wx.cell? ⟨w.heap.size, 1, none⟩ = some (.slice ia mx ic) ∧ wx.cell? ⟨w.heap.size + 1, 0, none⟩ = some (.string tn) ∧ wx.cell? ⟨w.heap.size + 1, 1, none⟩ = some (.string tt))) (by kernel_rfl) (HSX.out _ HKS.out) (fun hHeld => ?_)
 (try dsimp only at hHeld)
 refine wpAnyH_take (i := 0) (v := ?_) (List.getElem?_toArray.trans rfl) (by kernel_rfl) (by kernel_rfl) (by kernel_rfl) (fun _ _ _ h => h) (Or.inl ⟨by rfl, ?_⟩) hHeld ?_
 rotate_left
 · intro wx hSw
   (try dsimp only at hSw)
   obtain ⟨_, e0, e1, e2, e3⟩ := hSw
   go_simp
   (try with_reducible rfl)
 (try simp only [Act.put, List.setIfInBounds_toArray, List.set_cons_zero, List.set_cons_succ])
 refine wpAnyH_take (i := 1) (v := ?_) (List.getElem?_toArray.trans rfl) (by kernel_rfl) (by kernel_rfl) (by kernel_rfl) (fun _ _ _ h => h) (Or.inl ⟨by rfl, ?_⟩) hHeld ?_
 rotate_left
 · intro wx hSw
   (try dsimp only at hSw)
   obtain ⟨_, e0, e1, e2, e3⟩ := hSw
   go_simp
   (try with_reducible rfl)
 (try simp only [Act.put, List.setIfInBounds_toArray, List.set_cons_zero, List.set_cons_succ])
 refine wpAnyH_take (i := 2) (v := ?_) (List.getElem?_toArray.trans rfl) (by kernel_rfl) (by kernel_rfl) (by kernel_rfl) (fun _ _ _ h => h) (Or.inl ⟨by rfl, ?_⟩) hHeld ?_
 rotate_left
 · intro wx hSw
   (try dsimp only at hSw)
   obtain ⟨_, e0, e1, e2, e3⟩ := hSw
   go_simp
   (try with_reducible rfl)
 (try simp only [Act.put, List.setIfInBounds_toArray, List.set_cons_zero, List.set_cons_succ])
 refine wpAnyH_take (i := 4) (v := ?_) (List.getElem?_toArray.trans rfl) (by kernel_rfl) (by kernel_rfl) (by kernel_rfl) (fun _ _ _ h => h) (Or.inl ⟨by rfl, ?_⟩) hHeld ?_
 rotate_left
 · intro wx hSw
   (try dsimp only at hSw)
   obtain ⟨_, e0, e1, e2, e3⟩ := hSw
   go_simp
   (try with_reducible rfl)
 (try simp only [Act.put, List.setIfInBounds_toArray, List.set_cons_zero, List.set_cons_succ])
 refine wpAnyH_take (i := 5) (v := ?_) (List.getElem?_toArray.trans rfl) (by kernel_rfl) (by kernel_rfl) (by kernel_rfl) (fun _ _ _ h => h) (Or.inl ⟨by rfl, ?_⟩) hHeld ?_
 rotate_left
 · intro wx hSw
   (try dsimp only at hSw)
   obtain ⟨_, e0, e1, e2, e3⟩ := hSw
   go_simp
   (try with_reducible rfl)
 (try simp only [Act.put, List.setIfInBounds_toArray, List.set_cons_zero, List.set_cons_succ])
 refine wpAnyH_take (i := 6) (v := ?_) (List.getElem?_toArray.trans rfl) (by kernel_rfl) (by kernel_rfl) (by kernel_rfl) (fun _ _ _ h => h) (Or.inl ⟨by rfl, ?_⟩) hHeld ?_
 rotate_left
 · intro wx hSw
   (try dsimp only at hSw)
   obtain ⟨_, e0, e1, e2, e3⟩ := hSw
   go_simp
   (try with_reducible rfl)
 (try simp only [Act.put, List.setIfInBounds_toArray, List.set_cons_zero, List.set_cons_succ])
 refine wpAnyH_ready (rs := [3]) (by kernel_rfl) (by simp) ?_
 refine AllReadyH.cons (List.getElem?_toArray.trans rfl) (fun K hK => ?_) AllReadyH.nil
 go_simp
 go_at_call 15
 with_reducible refine Calls.mono (HTI.out _ hHeld.1.below) ?_
 rintro e w2 ⟨rfl, hB5⟩
 have hHeld2 := HSX.out _ (hHeld.1.keep hB5)
 refine hK.out _ _ hHeld2 (fun _ => ?_)
 clear hK K hHeld hB5
 have hHeld := hHeld2
 clear hHeld2
 (try simp only [Act.put, List.setIfInBounds_toArray, List.set_cons_zero, List.set_cons_succ])
 refine wpAnyH_ready (rs := [7]) (by kernel_rfl) (by simp) ?_
 refine AllReadyH.cons (List.getElem?_toArray.trans rfl) (fun K hK => ?_) AllReadyH.nil
 go_simp
 go_at_call 13
 with_reducible refine Calls.mono (HTT.out _ hHeld.1.below) ?_
 rintro e w3 ⟨rfl, hB5⟩
 have hHeld2 := HSX.out _ (hHeld.1.keep hB5)
 refine hK.out _ _ hHeld2 (fun _ => ?_)
 clear hK K hHeld hB5
 have hHeld := hHeld2
 clear hHeld2
 (try simp only [Act.put, List.setIfInBounds_toArray, List.set_cons_zero, List.set_cons_succ])
 refine wpAnyH_take (i := 8) (v := ?_) (List.getElem?_toArray.trans rfl) (by kernel_rfl) (by kernel_rfl) (by kernel_rfl) (fun _ _ _ h => h) (Or.inl ⟨by rfl, ?_⟩) hHeld ?_
 rotate_left
 · intro wx hSw
   (try dsimp only at hSw)
   obtain ⟨_, e0, e1, e2, e3⟩ := hSw
   go_simp
   (try with_reducible rfl)
 (try simp only [Act.put, List.setIfInBounds_toArray, List.set_cons_zero, List.set_cons_succ])
 refine wpAnyH_take (i := 9) (v := ?_) (List.getElem?_toArray.trans rfl) (by kernel_rfl) (by kernel_rfl) (by kernel_rfl) (fun _ _ _ h => h) (Or.inl ⟨by rfl, ?_⟩) hHeld ?_
 rotate_left
 · intro wx hSw
   (try dsimp only at hSw)
   obtain ⟨_, e0, e1, e2, e3⟩ := hSw
   go_simp
   (try with_reducible rfl)
 (try simp only [Act.put, List.setIfInBounds_toArray, List.set_cons_zero, List.set_cons_succ])
 refine wpAnyH_done (by kernel_rfl) ?_ _
 have HK3 := Lib.hid hHeld.1
 clear hHeld HSX
 all_goals
   clear k0 k1 k2 k3 k4 k5 s0 s1 a0 a1 f0 f1
   have k0 := cell_of_row _ _ 0 _ _ _ HK3.out.tab
   have k1 := cell_of_row _ _ 1 _ _ _ HK3.out.tab
   have k2 := cell_of_row _ _ 2 _ _ _ HK3.out.tab
   have k3 := cell_of_row _ _ 3 _ _ _ HK3.out.tab
   have k4 := cell_of_row _ _ 4 _ _ _ HK3.out.tab
   have k5 := cell_of_row _ _ 5 _ _ _ HK3.out.tab
   have s0 := cell_of_row _ _ 0 _ _ _ HK3.out.sch
   have s1 := cell_of_row _ _ 1 _ _ _ HK3.out.sch
   have a0 := cell_of_row _ _ 0 _ _ _ HK3.out.ans
   have a1 := cell_of_row _ _ 1 _ _ _ HK3.out.ans
   have f0 := frozen_of_row _ _ 0 _ _ HK3.out.ans
   have f1 := frozen_of_row _ _ 1 _ _ HK3.out.ans
   clear HKS HST
   go_wp2_with (first
     | (go_at_call 47; (with_reducible refine (HNA.out _ HK3.out.below).mono ?_); rintro e w5 ⟨rfl, hB5⟩
        have HK5 := Lib.hid (HK3.out.keep hB5)
        clear k0 k1 k2 k3 k4 k5 s0 s1 a0 a1 f0 f1
        have k0 := cell_of_row _ _ 0 _ _ _ HK5.out.tab
        have k1 := cell_of_row _ _ 1 _ _ _ HK5.out.tab
        have k2 := cell_of_row _ _ 2 _ _ _ HK5.out.tab
        have k3 := cell_of_row _ _ 3 _ _ _ HK5.out.tab
        have k4 := cell_of_row _ _ 4 _ _ _ HK5.out.tab
        have k5 := cell_of_row _ _ 5 _ _ _ HK5.out.tab
        have s0 := cell_of_row _ _ 0 _ _ _ HK5.out.sch
        have s1 := cell_of_row _ _ 1 _ _ _ HK5.out.sch
        have a0 := cell_of_row _ _ 0 _ _ _ HK5.out.ans
        have a1 := cell_of_row _ _ 1 _ _ _ HK5.out.ans
        have f0 := frozen_of_row _ _ 0 _ _ HK5.out.ans
        have f1 := frozen_of_row _ _ 1 _ _ HK5.out.ans
        clear hB5)
     | fail)
   have HK5d := Lib.hid (show PutXL w (some ⟨b, off, none⟩) n c ia mx ic ⟨tn, tt, ta, tl, tc, tr, tx, tw⟩ w5.drew from HK5.out.keep ((Below.refl _ _).drew))
   clear k0 k1 k2 k3 k4 k5 s0 s1 a0 a1 f0 f1
   have k0 := cell_of_row w5.drew _ 0 _ _ _ HK5d.out.tab
   have k1 := cell_of_row w5.drew _ 1 _ _ _ HK5d.out.tab
   have k2 := cell_of_row w5.drew _ 2 _ _ _ HK5d.out.tab
   have k3 := cell_of_row w5.drew _ 3 _ _ _ HK5d.out.tab
   have k4 := cell_of_row w5.drew _ 4 _ _ _ HK5d.out.tab
   have k5 := cell_of_row w5.drew _ 5 _ _ _ HK5d.out.tab
   have s0 := cell_of_row w5.drew _ 0 _ _ _ HK5d.out.sch
   have s1 := cell_of_row w5.drew _ 1 _ _ _ HK5d.out.sch
   have a0 := cell_of_row w5.drew _ 0 _ _ _ HK5d.out.ans
   have a1 := cell_of_row w5.drew _ 1 _ _ _ HK5d.out.ans
   have f0 := frozen_of_row w5.drew _ 0 _ _ HK5d.out.ans
   have f1 := frozen_of_row w5.drew _ 1 _ _ HK5d.out.ans
   have j0 : w5.drew.cell? ⟨b, off + kt * 5, none⟩ = some (.string t0n) := HTC.out _ HK5d.out.below 0 _ rfl
   have j1 : w5.drew.cell? ⟨b, off + kt * 5 + 1, none⟩ = some (.slice t0a t0l t0c) := HTC.out _ HK5d.out.below 1 _ rfl
   have j2 : w5.drew.cell? ⟨b, off + kt * 5 + 2, none⟩ = some (.int .i64 t0r) := HTC.out _ HK5d.out.below 2 _ rfl
   have j3 : w5.drew.cell? ⟨b, off + kt * 5 + 3, none⟩ = some (.int .i64 t0x) := HTC.out _ HK5d.out.below 3 _ rfl
   have j4 : w5.drew.cell? ⟨b, off + kt * 5 + 4, none⟩ = some (.int .i64 t0w) := HTC.out _ HK5d.out.below 4 _ rfl
   go_region_law (first
     | (go_simp; go_at_call 23; (with_reducible refine (HPL.out _ HK5d.out.below).mono ?_); rintro e w6 ⟨rfl, hB6⟩
        have HK6 := Lib.hid (HK5d.out.keep hB6)
        clear k0 k1 k2 k3 k4 k5 s0 s1 a0 a1 f0 f1
        have k0 := cell_of_row _ _ 0 _ _ _ HK6.out.tab
        have k1 := cell_of_row _ _ 1 _ _ _ HK6.out.tab
        have k2 := cell_of_row _ _ 2 _ _ _ HK6.out.tab
        have k3 := cell_of_row _ _ 3 _ _ _ HK6.out.tab
        have k4 := cell_of_row _ _ 4 _ _ _ HK6.out.tab
        have k5 := cell_of_row _ _ 5 _ _ _ HK6.out.tab
        have s0 := cell_of_row _ _ 0 _ _ _ HK6.out.sch
        have s1 := cell_of_row _ _ 1 _ _ _ HK6.out.sch
        have a0 := cell_of_row _ _ 0 _ _ _ HK6.out.ans
        have a1 := cell_of_row _ _ 1 _ _ _ HK6.out.ans
        have f0 := frozen_of_row _ _ 0 _ _ HK6.out.ans
        have f1 := frozen_of_row _ _ 1 _ _ HK6.out.ans
        clear hB6 j0 j1 j2 j3 j4)
     | fail)
   all_goals
     have HS6 := Lib.hid (show w.heap.size + 3 ≤ w6.heap.size from by have := heap_lt HK6.out.ans; omega)
     have HOW := Lib.hid (HX0.out w6 HS6.out)
     have HB7 := Lib.hid (show Below w.heap.size w (w6.alloc (.cells #[] 28)) from HK6.out.below.alloc HK6.out.below.size _)
     have sb0 : ∀ O, (w6.alloc O).cell? ⟨w.heap.size, 1, none⟩ = some (.slice ia mx ic) := fun O => cell_kept s1 (below1 w6 O)
     go_wp2_with (first
       | (at_builtin; refine list_idxsA _ (by rfl) (.tmp 72) (.tmp 74) (by rfl) (w.heap.size + 3) w6.heap.size 0 0 [] (by rfl) HOW.out ia mx ic (xs.map Prod.fst) (by rfl) (by rw [List.length_map]; exact HM.out) (HTS.out _ HB7.out) HA0.out (by omega) (by have := HS6.out; simp; omega) ?_
          intro v8 w8 hown hgr hat
          rw [Nat.zero_add, List.nil_append] at hown
          have HV8 := Lib.hid hown
          have HK8 := Lib.hid (show PutXL w (some ⟨b, off, none⟩) n c ia mx ic ⟨tn, tt, ta, tl, tc, tr, tx, tw⟩ w8 from by
            have h0 := HK6.out.keep (below1 w6 (.cells #[] 28))
            have h1 := heap_lt HK6.out.sch
            have h2 := heap_lt HK6.out.tab
            have h3 := heap_lt HK6.out.ans
            refine ⟨h0.below.grown hgr h0.below.size (fun q hq => by have h1 : w6.heap.size = q := Option.some.inj hq; have := HS6.out; omega), ?_, ?_, ?_⟩
            · exact (hgr.block _ (heap_lt h0.sch) (fun e => by have := Option.some.inj e; omega)).trans h0.sch
            · exact (hgr.block _ (heap_lt h0.tab) (fun e => by have := Option.some.inj e; omega)).trans h0.tab
            · exact (hgr.block _ (heap_lt h0.ans) (fun e => by have := Option.some.inj e; omega)).trans h0.ans)
          clear sb0
          clear k0 k1 k2 k3 k4 k5 s0 s1 a0 a1 f0 f1
          have k0 := cell_of_row _ _ 0 _ _ _ HK8.out.tab
          have k1 := cell_of_row _ _ 1 _ _ _ HK8.out.tab
          have k2 := cell_of_row _ _ 2 _ _ _ HK8.out.tab
          have k3 := cell_of_row _ _ 3 _ _ _ HK8.out.tab
          have k4 := cell_of_row _ _ 4 _ _ _ HK8.out.tab
          have k5 := cell_of_row _ _ 5 _ _ _ HK8.out.tab
          have s0 := cell_of_row _ _ 0 _ _ _ HK8.out.sch
          have s1 := cell_of_row _ _ 1 _ _ _ HK8.out.sch
          have a0 := cell_of_row _ _ 0 _ _ _ HK8.out.ans
          have a1 := cell_of_row _ _ 1 _ _ _ HK8.out.ans
          have f0 := frozen_of_row _ _ 0 _ _ HK8.out.ans
          have f1 := frozen_of_row _ _ 1 _ _ HK8.out.ans
          clear hown hgr hat
          rcases HV8.out.2 with ⟨_, h0⟩ | ⟨g, cap, cur, rfl, _⟩
          · exfalso; have := HKL.out; omega
          have HRW := Lib.hid (show RowX w8 g (xs.map Prod.fst) ∧ mx ≤ cap ∧ w.heap.size + 3 ≤ g from (RowsAt.of_own HV8.out).row_x)
          have HTL := Lib.hid (show (xs.map Prod.fst).length = mx by rw [List.length_map]; exact HM.out.symm)
          have hkx : ∃ t0, (xs.map Prod.fst)[k]? = some t0 := ⟨_, List.getElem?_eq_getElem (by rw [HTL.out]; exact HKL.out)⟩
          obtain ⟨t1, hk0⟩ := hkx
          have z0 := HRW.out.1.free (k * 6)
          have z1 := HRW.out.1.free (k * 6 + 1)
          have z2 := HRW.out.1.free (k * 6 + 2)
          have z3 := HRW.out.1.free (k * 6 + 3)
          have z4 := HRW.out.1.free (k * 6 + 4)
          have z5 := HRW.out.1.free (k * 6 + 5)
          have y0 : w8.cell? ⟨g, k * 6, none⟩ = some (.string t1.name) := HRW.out.1.cell hk0 (i := 0) rfl
          have y1 : w8.cell? ⟨g, k * 6 + 1, none⟩ = some (.string t1.table) := HRW.out.1.cell hk0 (i := 1) rfl
          have y2 : w8.cell? ⟨g, k * 6 + 2, none⟩ = some (.slice t1.pa t1.pn t1.pc) := HRW.out.1.cell hk0 (i := 2) rfl
          have y3 : w8.cell? ⟨g, k * 6 + 3, none⟩ = some (.int .i64 t1.state) := HRW.out.1.cell hk0 (i := 3) rfl
          have y4 : w8.cell? ⟨g, k * 6 + 4, none⟩ = some (.int .i64 t1.root) := HRW.out.1.cell hk0 (i := 4) rfl
          have y5 : w8.cell? ⟨g, k * 6 + 5, none⟩ = some (.int .i64 t1.cursor) := HRW.out.1.cell hk0 (i := 5) rfl
          have HFI := Lib.hid (show PutXL w (some ⟨b, off, none⟩) n c ia mx ic ⟨tn, tt, ta, tl, tc, tr, tx, tw⟩ (setIdx w8 g (k * 6) ⟨tn, tt, ta, tl, tc, tr, tx, tw⟩) ∧ RowX (setIdx w8 g (k * 6) ⟨tn, tt, ta, tl, tc, tr, tx, tw⟩) g ((xs.map Prod.fst).set k ⟨tn, tt, ta, tl, tc, tr, tx, tw⟩) from by
            have hg := setIdx_grown w8 g (k * 6) ⟨tn, tt, ta, tl, tc, tr, tx, tw⟩
            have h3 := HRW.out.2.2
            refine ⟨⟨HK8.out.below.grown hg HK8.out.below.size (fun q hq => by have h1 : g = q := Option.some.inj hq; omega), ?_, ?_, ?_⟩, HRW.out.1.set' (by rw [HTL.out]; exact HKL.out) _⟩
            · exact (hg.block _ (heap_lt HK8.out.sch) (fun e => by have := Option.some.inj e; omega)).trans HK8.out.sch
            · exact (hg.block _ (heap_lt HK8.out.tab) (fun e => by have := Option.some.inj e; omega)).trans HK8.out.tab
            · exact (hg.block _ (heap_lt HK8.out.ans) (fun e => by have := Option.some.inj e; omega)).trans HK8.out.ans)
          have u0 := cell_of_row _ _ 0 _ _ _ HFI.out.1.sch
          have u1 := cell_of_row _ _ 1 _ _ _ HFI.out.1.sch
          have q0 := cell_of_row _ _ 0 _ _ _ HFI.out.1.ans
          have q1 := cell_of_row _ _ 1 _ _ _ HFI.out.1.ans
          have e0 := frozen_of_row _ _ 0 _ _ HFI.out.1.ans
          have e1 := frozen_of_row _ _ 1 _ _ HFI.out.1.ans
          dsimp only [setIdx] at u0 u1 q0 q1 e0 e1
          have r11 : ((k : Int) < (mx : Int)) = True := eq_true (by have := HKL.out; omega)
          have r12 := HKL.out)
       | fail)
     refine bodyPost_ret (v := .tuple #[.agg #[.slice (some ⟨b, off, none⟩) n c, .slice (some ⟨g, 0, none⟩) mx cap], .int .i64 0]) (by simp [results, Tryz.results31, go_sem, q0, q1]) rfl ?_
     have hBF := HFI.out.1.done (.slice (some ⟨b, off, none⟩) n c) (.slice (some ⟨g, 0, none⟩) mx cap)
     have h3 := HRW.out.2.2
     have hrow := HFI.out.2.at h3 HRW.out.2.1
     have hset : (xs.map Prod.fst).set k (⟨tn, tt, ta, tl, tc, tr, tx, tw⟩ : Idx) = (xs.set k ((⟨tn, tt, ta, tl, tc, tr, tx, tw⟩ : Idx), cl)).map Prod.fst := by rw [List.map_set]
     rw [hset] at hrow
     have hmem : ∀ p ∈ xs.set k ((⟨tn, tt, ta, tl, tc, tr, tx, tw⟩ : Idx), cl), p ∈ xs ∨ p = ((⟨tn, tt, ta, tl, tc, tr, tx, tw⟩ : Idx), cl) := fun p hp => List.mem_or_eq_of_mem_set hp
     obtain ⟨hd1, hd2⟩ := doc_x (xs := xs.set k ((⟨tn, tt, ta, tl, tc, tr, tx, tw⟩ : Idx), cl)) hBF ((hrow.box (w.heap.size + 1 + 1) 0 (.slice (some ⟨b, off, none⟩) n c) (by omega)).box (w.heap.size + 1 + 1) 1 (.slice (some ⟨g, 0, none⟩) mx cap) (by omega)) (by rw [List.length_set, ← HM.out]; exact hm) (fun p hp => HRT.out p (hmem p hp))
     obtain ⟨hx1, hx2, hx3⟩ := HDT.out _ hBF
     exact ⟨hBF, Or.inl ⟨rfl, some ⟨b, off, none⟩, some ⟨g, 0, none⟩, c, cap, ts, _, by rw [List.length_set, ← HN.out, ← HM.out], hx1, hd1, hx2, hd2, hx3, fun p hp => HLT.out p (hmem p hp), HT.out.symm, by rw [List.map_set, HXX.out]⟩⟩
end Go.Proofs.YtcgpflkaejbkhaaGreatDoor
