/- The walk of held. -/
import Derived.Test.YtcnkghcdjicldaaBoxes
import Derived.Deep.RegionHeld3
import Derived.Deep.CutRange
import Derived.Deep.Cut
import Derived.Deep.CutBlock
namespace Go.Proofs.Ytcnkghcdjicldaa
open Go.RowKit

theorem store_float (w : World) (a : Addr) (m : Mode) (k : FloatKind) (b : Nat) : (store a (.float k b) m).run Try.prog w = stored Try.prog w a (.float k b) m := run_store Try.prog w a _ m rfl
theorem quiet_here {P : Program} {f : FuncId} {args : Array Value} {w : World} {n : Nat} {v : Value} (h : Calls P f args (w.drewN n) fun e w' => e = .returned v ∧ w.drewN n = w') : Calls P f args (w.drewN n) fun e w'' => e = .returned v ∧ ∃ m, w'' = w.drewN m :=
  h.mono fun _ _ ⟨he, hm⟩ => ⟨he, n, hm.symm⟩
theorem HeldIn.below {w wr : World} {cs : Array Value} {out : Value} {zs : List Int} (h : HeldIn w wr cs out zs) : Below w.heap.size w wr := h.1
theorem below_on {w w2 wx : World} (h : Below w.heap.size w w2) (h2 : Below w2.heap.size w2 wx) : Below w.heap.size w wx := h.trans (h2.mono h.size)
theorem box_grown {W w4 : World} {o : Obj} {b : Nat} {k : Int} {op : ByteArray} {lk ln : Int} {lf : Nat} {ls : ByteArray} {a : Int} {nt : Bool} {ty : Int} {A : Option Addr} {n c : Nat} {row : Option Nat} (h : BoxN W b k op lk ln lf ls a nt ty A n c) (hg : (W.alloc o).grownBy w4 row) (hr : row ≠ some b) : BoxN w4 b k op lk ln lf ls a nt ty A n c := by
  have h1 := h.keep (below1 W o)
  exact (hg.block b (heap_lt h1) (fun e => hr e.symm)).trans h1
theorem own_next {W : World} {o : Obj} {b : Nat} {k : Int} {op : ByteArray} {lk ln : Int} {lf : Nat} {ls : ByteArray} {a : Int} {nt : Bool} {ty : Int} {A : Option Addr} {n c : Nat} {v v2 : Value} (h : BoxN W b k op lk ln lf ls a nt ty A n c) (hat : v2.ownBlock = v.ownBlock ∨ v2.ownBlock = some (W.alloc o).heap.size) (hr : v.ownBlock ≠ some b) : v2.ownBlock ≠ some b := by
  have hlt := heap_lt h
  rcases hat with h1 | h1
  · rw [h1]; exact hr
  · rw [h1]; intro e; cases e; simp at hlt; omega
theorem keep_all {W wx : World} (h : Below W.heap.size W wx) {b o : Nat} {v : Value} (hb : b < W.heap.size) (hc : W.cell? ⟨b, o, none⟩ = some v) : wx.cell? ⟨b, o, none⟩ = some v := (h.cell (p := ⟨b, o, none⟩) hb).trans hc
theorem node_at {w W : World} {b off : Nat} {k : Int} {o : ByteArray} {lk ln : Int} {lf : Nat} {ls : ByteArray} {a : Int} {nt : Bool} {ty : Int} {A : Option Addr} {c : Nat} {l' : List NodeT} (hB : Below w.heap.size w W) (hb : b < w.heap.size)
    (hc : ∀ (i : Nat) (v : Value), (NodeT.mk k o lk ln lf ls a nt ty A c l').cells[i]? = some v → w.cell? ⟨b, off + i, none⟩ = some v) :
    W.cell? ⟨b, off, none⟩ = some (.int .i64 k) ∧ W.cell? ⟨b, off + 1, none⟩ = some (.string o) ∧ W.cell? ⟨b, off + 2, none⟩ = some (.int .i64 lk) ∧ W.cell? ⟨b, off + 3, none⟩ = some (.int .i64 ln) ∧ W.cell? ⟨b, off + 4, none⟩ = some (.float .f64 lf) ∧ W.cell? ⟨b, off + 5, none⟩ = some (.string ls) ∧ W.cell? ⟨b, off + 6, none⟩ = some (.int .i64 a) ∧ W.cell? ⟨b, off + 7, none⟩ = some (.bool nt) ∧ W.cell? ⟨b, off + 8, none⟩ = some (.int .i64 ty) ∧ W.cell? ⟨b, off + 9, none⟩ = some (.slice A l'.length c) := by
  have h : ∀ (i : Nat) (v : Value), (NodeT.mk k o lk ln lf ls a nt ty A c l').cells[i]? = some v → W.cell? ⟨b, off + i, none⟩ = some v := fun i v hv => (hB.cell (p := ⟨b, off + i, none⟩) hb).trans (hc i v hv)
  exact ⟨h 0 _ rfl, h 1 _ rfl, h 2 _ rfl, h 3 _ rfl, h 4 _ rfl, h 5 _ rfl, h 6 _ rfl, h 7 _ rfl, h 8 _ rfl, h 9 _ rfl⟩
theorem nodes_two {w : World} {A : Option Addr} {l : List NodeT} {x y : NodeT} (h : NodesAt w A l) (hl : l = [x, y]) : ∃ b off, A = some ⟨b, off, none⟩ ∧ b < w.heap.size ∧ (∀ (i : Nat) (v : Value), x.cells[i]? = some v → w.cell? ⟨b, off + i, none⟩ = some v) ∧ (∀ (i : Nat) (v : Value), y.cells[i]? = some v → w.cell? ⟨b, off + 10 + i, none⟩ = some v) ∧ NodesAt w x.A x.args ∧ NodesAt w y.A y.args := by
  subst hl
  cases h with
  | mk b off _ hb hl hc hs => exact ⟨b, off, rfl, hb, fun i v hv => by have := hc 0 x rfl i v hv; simpa using this, fun i v hv => by have := hc 1 y rfl i v hv; simpa using this, hs 0 x rfl, hs 1 y rfl⟩

set_option maxRecDepth 100000 in
set_option maxHeartbeats 16000000 in
theorem held_any (q : Qd) (f : Nat) (pA : Option Addr) (pc : Nat) (ops : List ByteArray) (w : World) (hq : QAt w q) (ho : Strs w pA ops) (hw : q.wh.length ≤ 12) :
    Calls Try.prog 17 #[qV q, .int .i64 (f : Int), .slice pA ops.length pc] w (RetO (heldR q f ops) w) := by
  obtain ⟨tA, tc, tabs, bA, bc, beg, width, wA, wc, wh, gA, gn, gc, grouped, iA, i_n, ic, oA, oc, ord, limit⟩ := q
  have HOPS := Lib.hid (fun (x : ByteArray) (W : World) (hB : Below w.heap.size w W) => containsS_any pA pc ops x W (ho.keep hB))
  have HOF := Lib.hid (fun (a : Int) (W : World) (hB : Below w.heap.size w W) => of_any _ a W (hq.keep hB))
  have HRD := Lib.hid (fun (t : NodeT) (W : World) (hB : Below w.heap.size w W) (ht : NodesAt w t.A t.args) => reads_any _ f _ t (Nat.lt_succ_self _) W (hq.keep hB) (ht.keep hB))
  have HWH := Lib.hid (nodes_at hq.2.2.1)
  have HSUB := Lib.hid (fun (j : Nat) (t : NodeT) (h : wh[j]? = some t) => nodes_sub hq.2.2.1 h)
  have HLE := Lib.hid (heldR_le ⟨tA, tc, tabs, bA, bc, beg, width, wA, wc, wh, gA, gn, gc, grouped, iA, i_n, ic, oA, oc, ord, limit⟩ f ops)
  have HPT := Lib.hid (part_two ⟨tA, tc, tabs, bA, bc, beg, width, wA, wc, wh, gA, gn, gc, grouped, iA, i_n, ic, oA, oc, ord, limit⟩ f ops)
  have HPS := Lib.hid (part_skip ⟨tA, tc, tabs, bA, bc, beg, width, wA, wc, wh, gA, gn, gc, grouped, iA, i_n, ic, oA, oc, ord, limit⟩ f ops)
  have HSI := Lib.hid (show ∀ op x y out, sideR ⟨tA, tc, tabs, bA, bc, beg, width, wA, wc, wh, gA, gn, gc, grouped, iA, i_n, ic, oA, oc, ord, limit⟩ f ops op x y out = if testR ⟨tA, tc, tabs, bA, bc, beg, width, wA, wc, wh, gA, gn, gc, grouped, iA, i_n, ic, oA, oc, ord, limit⟩ f ops op x y = true then onceR out (colR ⟨tA, tc, tabs, bA, bc, beg, width, wA, wc, wh, gA, gn, gc, grouped, iA, i_n, ic, oA, oc, ord, limit⟩ f x.at_) else out from fun _ _ _ _ => rfl)
  have HTE := Lib.hid (show ∀ op x y, testR ⟨tA, tc, tabs, bA, bc, beg, width, wA, wc, wh, gA, gn, gc, grouped, iA, i_n, ic, oA, oc, ord, limit⟩ f ops op x y = ((x.kind == 2) && (decide (tabR ⟨tA, tc, tabs, bA, bc, beg, width, wA, wc, wh, gA, gn, gc, grouped, iA, i_n, ic, oA, oc, ord, limit⟩ x.at_ = some f) && (hasS ops op && !readsR ⟨tA, tc, tabs, bA, bc, beg, width, wA, wc, wh, gA, gn, gc, grouped, iA, i_n, ic, oA, oc, ord, limit⟩ f y))) from fun _ _ _ => rfl)
  have HSL := Lib.hid (sideR_le ⟨tA, tc, tabs, bA, bc, beg, width, wA, wc, wh, gA, gn, gc, grouped, iA, i_n, ic, oA, oc, ord, limit⟩ f ops)
  obtain ⟨side, hside⟩ : ∃ g, g = sideR ⟨tA, tc, tabs, bA, bc, beg, width, wA, wc, wh, gA, gn, gc, grouped, iA, i_n, ic, oA, oc, ord, limit⟩ f ops := ⟨_, rfl⟩
  rw [← hside] at HPT HSI HSL
  obtain ⟨part, hpart⟩ : ∃ g, g = partR ⟨tA, tc, tabs, bA, bc, beg, width, wA, wc, wh, gA, gn, gc, grouped, iA, i_n, ic, oA, oc, ord, limit⟩ f ops := ⟨_, rfl⟩
  obtain ⟨R, hR⟩ : ∃ R, R = heldR ⟨tA, tc, tabs, bA, bc, beg, width, wA, wc, wh, gA, gn, gc, grouped, iA, i_n, ic, oA, oc, ord, limit⟩ f ops := ⟨_, rfl⟩
  have HR := Lib.hid (show R = wh.foldl part [] by rw [hR, hpart]; rfl)
  rw [← hR]
  rw [← hpart] at HLE HPT HPS
  have hw' : wh.length ≤ 12 := hw
  dsimp only at HOF HRD HWH HLE
  unfold qV Qd.cells
  dsimp only
  have HQQ := Lib.hid (show HeldIn w (w.alloc (.cells #[.slice tA tabs.length tc, .slice bA beg.length bc, .int .i64 width, .slice wA wh.length wc, .slice gA gn gc, .bool grouped, .slice iA i_n ic, .slice oA ord.length oc, .int .i64 limit] 26)) #[.slice tA tabs.length tc, .slice bA beg.length bc, .int .i64 width, .slice wA wh.length wc, .slice gA gn gc, .bool grouped, .slice iA i_n ic, .slice oA ord.length oc, .int .i64 limit] (.slice none 0 0) [] from ⟨below1 _ _, heap_alloc_new w _, World.ownsRow_nil _ _ _ _⟩)
  obtain ⟨i0, hi0, hz0, hz1, hz2⟩ := info_parts info3
  clear hR hpart hw hq ho hside
  have sf := store_float
  go_enter Try.func17, Try.ntmps17
  go_wp2_with fail
  go_loopw [7, 19] (fun out i wr => ∃ k : Nat, k ≤ wh.length ∧ i = .int .i64 k ∧ HeldIn w wr #[.slice tA tabs.length tc, .slice bA beg.length bc, .int .i64 width, .slice wA wh.length wc, .slice gA gn gc, .bool grouped, .slice iA i_n ic, .slice oA ord.length oc, .int .i64 limit] out ((wh.take k).foldl part [])) (fun _ i _ => wh.length - (intOf i).toNat)
  case atStart => exact ⟨0, Nat.zero_le _, rfl, HQQ.out⟩
  case round =>
    obtain ⟨k, hk, rfl, hin⟩ := hrel
    obtain ⟨wo, rfl⟩ : ∃ wo : World, wo = wr := ⟨_, rfl⟩
    have hlen := HLE.out k
    obtain ⟨cur, hcur⟩ : ∃ c, c = (wh.take k).foldl part [] := ⟨_, rfl⟩
    rw [← hcur] at hin hlen
    have HC := Lib.hid hcur
    have HI := Lib.hid hin
    obtain ⟨A0, c0, hv, -⟩ := ints_own hin.2.2 rfl
    subst hv
    obtain ⟨q0, q1, q2, q3, q4, q5, q6, q7, q8⟩ := box9 _ _ _ _ _ _ _ _ _ _ _ hin.2.1
    have hlt0 := heap_lt hin.2.1
    clear hin hcur
    by_cases hlt : k < wh.length
    · rcases HWH.out with h0 | ⟨b, off, rfl, hbl, hc⟩
      · exfalso; rw [h0] at hlt; simp at hlt
      · obtain ⟨t', hx⟩ : ∃ x, wh[k]? = some x := ⟨_, List.getElem?_eq_getElem hlt⟩
        have HF := Lib.hid (show (wh.take (k + 1)).foldl part [] = part cur t' by rw [fold_snoc _ _ _ _ _ hx, HC.out])
        have HSU := Lib.hid (HSUB.out k t' hx)
        have HP1 := Lib.hid (HPS.out cur t')
        have HP2 := Lib.hid (HPT.out cur t')
        obtain ⟨k', o', lk', ln', lf', ls', a', nt', ty', A', c', l'⟩ := t'
        change Hid (NodesAt w A' l') at HSU
        change Hid (k' ≠ 7 ∨ l'.length ≠ 2 → _) at HP1
        obtain ⟨m0, m1, m2, m3, m4, m5, m6, m7, m8, m9⟩ := node_cells HI.out.1 hbl hc hx
        clear hc hx HSUB HWH HQQ HPT HPS
        by_cases hk7 : k' = 7
        · by_cases hl2 : l'.length = 2
          · obtain ⟨x, y, hxy⟩ : ∃ x y, l' = [x, y] := by
              match l', hl2 with
              | [x, y], _ => exact ⟨x, y, rfl⟩
            have HX := Lib.hid (show part cur _ = side (turnR o') y x (side o' x y cur) from HP2.out x y hk7 hxy)
            obtain ⟨b2, off2, hA2, hb2, hcx, hcy, hnx, hny⟩ := nodes_two HSU.out hxy
            subst hA2
            subst hxy
            subst hk7
            have hb2o : b2 < wo.heap.size := Nat.lt_of_lt_of_le hb2 HI.out.1.size
            have HNX := Lib.hid hnx
            have HNY := Lib.hid hny
            have HCX := Lib.hid hcx
            have HCY := Lib.hid hcy
            have HBN := Lib.hid (show BoxN (wo.alloc (.cells #[.int .i64 7, .string o', .int .i64 lk', .int .i64 ln', .float .f64 lf', .string ls', .int .i64 a', .bool nt', .int .i64 ty', .slice (some ⟨b2, off2, none⟩) 2 c'] 42)) wo.heap.size 7 o' lk' ln' lf' ls' a' nt' ty' (some ⟨b2, off2, none⟩) 2 c' from heap_alloc_new _ _)
            obtain ⟨outJ, hJ⟩ : ∃ g : Nat → List Int, g = fun j => if j = 0 then cur else if j = 1 then side o' x y cur else side (turnR o') y x (side o' x y cur) := ⟨_, rfl⟩
            have HJ0 := Lib.hid (show outJ 0 = cur by rw [hJ]; rfl)
            have HJ1 := Lib.hid (show outJ 1 = side o' x y cur by rw [hJ]; rfl)
            have HJ2 := Lib.hid (show outJ 2 = side (turnR o') y x (side o' x y cur) by rw [hJ]; rfl)
            have HJ2' := Lib.hid (show outJ 2 = side (turnR o') y x (outJ 1) by rw [HJ2.out, HJ1.out])
            have HJ1' := Lib.hid (show outJ 1 = side o' x y (outJ 0) by rw [HJ1.out, HJ0.out])
            have HJL := Lib.hid (show ∀ j, (outJ j).length ≤ cur.length + 2 from fun j => by
              have g1 := HSL.out o' x y cur
              have g2 := HSL.out (turnR o') y x (side o' x y cur)
              rw [hJ]; dsimp only
              split
              · omega
              · split <;> omega)
            clear hl2 hnx hny hcx hcy HSU HP1 HP2 hJ
            go_wp2_with fail
            go_loopw [7, 35] (fun out i wr => ∃ j : Nat, j ≤ 2 ∧ i = .int .i64 j ∧ HeldIn w wr #[.slice tA tabs.length tc, .slice bA beg.length bc, .int .i64 width, .slice (some ⟨b, off, none⟩) wh.length wc, .slice gA gn gc, .bool grouped, .slice iA i_n ic, .slice oA ord.length oc, .int .i64 limit] out (outJ j) ∧ BoxN wr wo.heap.size 7 o' lk' ln' lf' ls' a' nt' ty' (some ⟨b2, off2, none⟩) 2 c' ∧ out.ownBlock ≠ some wo.heap.size) (fun _ i _ => 2 - (intOf i).toNat)
            case atStart => exact ⟨0, Nat.zero_le _, rfl, by rw [HJ0.out]; exact HI.out.alloc _, HBN.out, fun e => Nat.lt_irrefl _ (HI.out.2.2.lt _ e).2⟩
            case round =>
              obtain ⟨j, hj, rfl, hin, hbn, hbo⟩ := hrel
              obtain ⟨wi, rfl⟩ : ∃ wi : World, wi = wr := ⟨_, rfl⟩
              clear q0 q1 q2 q3 q4 q5 q6 q7 q8 m0 m1 m2 m3 m4 m5 m6 m7 m8 m9
              have hlen2 := HJL.out j
              obtain ⟨cj, hcj⟩ : ∃ c, c = outJ j := ⟨_, rfl⟩
              rw [← hcj] at hin hlen2
              have HCJ := Lib.hid hcj
              have HII := Lib.hid hin
              obtain ⟨A1, c1, hv, -⟩ := ints_own hin.2.2 rfl
              subst hv
              have HBN2 := Lib.hid hbn
              have HBO := Lib.hid hbo
              clear hin hcj hbn hbo
              by_cases hj2 : j < 2
              · skip
                have HII2 := Lib.hid (show HeldIn w wi #[.slice tA tabs.length tc, .slice bA beg.length bc, .int .i64 width, .slice (some ⟨b, off, none⟩) wh.length wc, .slice gA gn gc, .bool grouped, .slice iA i_n ic, .slice oA ord.length oc, .int .i64 limit] (.slice A1 cj.length c1) cj from HII.out)
                obtain ⟨q0, q1, q2, q3, q4, q5, q6, q7, q8⟩ := box9 _ _ _ _ _ _ _ _ _ _ _ HII.out.2.1
                obtain ⟨n0, n1, n2, n3, n4, n5, n6, n7, n8, n9⟩ := HBN2.out.cells
                have hl0 := heap_lt HII.out.2.1
                have hl1 := heap_lt HBN2.out
                have hbw : Below w.heap.size w wi := HII.out.1
                have hb2i : b2 < wi.heap.size := Nat.lt_of_lt_of_le hb2 hbw.size
                obtain ⟨j2, hj2e⟩ : ∃ j2, j2 = 1 - j := ⟨_, rfl⟩
                have hj21 : IntKind.i64.wrap (1 - (j : Int)) = (j2 : Int) := by rw [IntKind.wrap_i64]; omega
                obtain ⟨X, Y, OP, hXY⟩ : ∃ X Y : NodeT, ∃ OP : ByteArray, (outJ (j + 1) = side OP X Y (outJ j)) ∧ (∀ (i : Nat) (v : Value), X.cells[i]? = some v → w.cell? ⟨b2, off2 + j * 10 + i, none⟩ = some v) ∧ (∀ (i : Nat) (v : Value), Y.cells[i]? = some v → w.cell? ⟨b2, off2 + j2 * 10 + i, none⟩ = some v) ∧ NodesAt w Y.A Y.args ∧ ((j : Int) == 1) = (if j = 1 then true else false) ∧ OP = (if j = 1 then turnR o' else o') := by
                  rcases (show j = 0 ∨ j = 1 by omega) with rfl | rfl
                  · subst hj2e
                    exact ⟨x, y, o', HJ1'.out, fun i v hv => by have := HCX.out i v hv; simpa using this, fun i v hv => by have := HCY.out i v hv; simpa using this, HNY.out, rfl, rfl⟩
                  · subst hj2e
                    exact ⟨y, x, turnR o', HJ2'.out, fun i v hv => by have := HCY.out i v hv; simpa using this, fun i v hv => by have := HCX.out i v hv; simpa using this, HNX.out, rfl, rfl⟩
                obtain ⟨hE, hXc, hYc, hYn, hj1, hOP⟩ := hXY
                have HE := Lib.hid hE
                rw [← HCJ.out] at HE
                have HYc := Lib.hid hYc
                have HYn := Lib.hid hYn
                have HOPE := Lib.hid hOP
                have hj2l : j2 < 2 := by omega
                have hj2i : (j2 : Int) < 2 := by omega
                obtain ⟨kx, ox, lkx, lnx, lfx, lsx, ax, ntx, tyx, Ax, cx, lx⟩ := X
                have HTY := Lib.hid (fun W hB => HRD.out Y W hB HYn.out)
                have HT1 := Lib.hid (HTE.out OP (.mk kx ox lkx lnx lfx lsx ax ntx tyx Ax cx lx) Y)
                have HS1 := Lib.hid (HSI.out OP (.mk kx ox lkx lnx lfx lsx ax ntx tyx Ax cx lx) Y cj)
                obtain ⟨x0, x1, x2, x3, x4, x5, x6, x7, x8, x9⟩ := node_at (off := off2 + j * 10) hbw hb2 hXc
                have HB5 := Lib.hid (hbw.alloc hbw.size (.cells #[.int .i64 kx, .string ox, .int .i64 lkx, .int .i64 lnx, .float .f64 lfx, .string lsx, .int .i64 ax, .bool ntx, .int .i64 tyx, .slice Ax lx.length cx] 42))
                have HH5 := Lib.hid (HII.out.alloc (.cells #[.int .i64 kx, .string ox, .int .i64 lkx, .int .i64 lnx, .float .f64 lfx, .string lsx, .int .i64 ax, .bool ntx, .int .i64 tyx, .slice Ax lx.length cx] 42))
                have HN5 := Lib.hid (HBN2.out.keep (below1 wi (.cells #[.int .i64 kx, .string ox, .int .i64 lkx, .int .i64 lnx, .float .f64 lfx, .string lsx, .int .i64 ax, .bool ntx, .int .i64 tyx, .slice Ax lx.length cx] 42)))
                have HX5 := Lib.hid (show BoxN (wi.alloc (.cells #[.int .i64 kx, .string ox, .int .i64 lkx, .int .i64 lnx, .float .f64 lfx, .string lsx, .int .i64 ax, .bool ntx, .int .i64 tyx, .slice Ax lx.length cx] 42)) wi.heap.size kx ox lkx lnx lfx lsx ax ntx tyx Ax lx.length cx from heap_alloc_new _ _)
                have HOFX := Lib.hid (HOF.out ax)
                have HJE := Lib.hid hj2e
                have hj02 : (j : Int) < 2 := by omega
                have HJ1B := Lib.hid hj1
                clear hbw hE hXc hYc hYn hOP hj2e hj2 hj1
                go_upto_if 43 with (fail)
                go_cut [12, 35] from 35 to 92 (fun s12 s35 wc => s12 = .string OP ∧ s35 = .int .i64 (j : Int) ∧ wc = wi.alloc (.cells #[.int .i64 kx, .string ox, .int .i64 lkx, .int .i64 lnx, .float .f64 lfx, .string lsx, .int .i64 ax, .bool ntx, .int .i64 tyx, .slice Ax lx.length cx] 42))
                case first =>
                  by_cases hj1 : j = 1
                  · have hjb : ((j : Int) == 1) = true := by rw [HJ1B.out, if_pos hj1]
                    have HOX := Lib.hid (show OP = turnR o' by rw [HOPE.out, if_pos hj1])
                    clear hj1
                    go_wp2_with (first
                      | (go_at_call 32; (with_reducible refine (turn_any _ _).mono ?_); rintro e w5 ⟨rfl, rfl⟩)
                      | fail)
                    go_meet
                    exact ⟨by rw [HOX.out], rfl, rfl⟩
                  · have hjb : ((j : Int) == 1) = false := by rw [HJ1B.out, if_neg hj1]
                    have HOX := Lib.hid (show OP = o' by rw [HOPE.out, if_neg hj1])
                    clear hj1
                    go_wp2_with fail
                    go_meet
                    exact ⟨by rw [HOX.out], rfl, rfl⟩
                case rest =>
                  obtain ⟨rfl, rfl, rfl⟩ := hcut
                  go_wp2_with (first
                    | (go_at_call 33; (with_reducible refine (HOFX.out _ ?_).mono ?_); (exact HB5.out); rintro e w2 ⟨⟨g, cc, ok, rfl, hof⟩, hB⟩; have HH2 := Lib.hid (HH5.out.call hB); have HN2 := Lib.hid (HN5.out.keep hB); have HX2 := Lib.hid (HX5.out.keep hB); rcases ofIs_cases hof with ⟨f0, ht, rfl, rfl, rfl⟩ | ⟨ht, rfl⟩ <;> (have HTB := Lib.hid ht; clear ht hof hB))
                    | fail)
                  · skip
                    clear q0 q1 q2 q3 q4 q5 q6 q7 q8 n0 n1 n2 n3 n4 n5 n6 n7 n8 n9 x0 x1 x2 x3 x4 x5 x6 x7 x8 x9
                    obtain ⟨q0, q1, q2, q3, q4, q5, q6, q7, q8⟩ := box9 _ _ _ _ _ _ _ _ _ _ _ HH2.out.2.1
                    obtain ⟨n0, n1, n2, n3, n4, n5, n6, n7, n8, n9⟩ := HN2.out.cells
                    obtain ⟨x0, -, -, -, -, -, -, -, -, -⟩ := HX2.out.cells
                    clear n0 n1 n2 n3 n4 n5 n6 n7 n8
                    obtain ⟨ky, oy, lky, lny, lfy, lsy, ay, nty, tyy, Ay, cy, ly⟩ := Y
                    obtain ⟨y0, y1, y2, y3, y4, y5, y6, y7, y8, y9⟩ := node_at (off := off2 + j2 * 10) HH2.out.1 hb2 HYc.out
                    have hS : ∀ wx, Below w2.heap.size w2 wx → Below w2.heap.size w2 wx ∧ wx.cell? ⟨wi.heap.size, 0, none⟩ = some (.int .i64 kx) ∧ wx.cell? ⟨w.heap.size, 0, none⟩ = some (.slice tA tabs.length tc) ∧ wx.cell? ⟨w.heap.size, 1, none⟩ = some (.slice bA beg.length bc) ∧ wx.cell? ⟨w.heap.size, 2, none⟩ = some (.int .i64 width) ∧ wx.cell? ⟨w.heap.size, 3, none⟩ = some (.slice (some ⟨b, off, none⟩) wh.length wc) ∧ wx.cell? ⟨w.heap.size, 4, none⟩ = some (.slice gA gn gc) ∧ wx.cell? ⟨w.heap.size, 5, none⟩ = some (.bool grouped) ∧ wx.cell? ⟨w.heap.size, 6, none⟩ = some (.slice iA i_n ic) ∧ wx.cell? ⟨w.heap.size, 7, none⟩ = some (.slice oA ord.length oc) ∧ wx.cell? ⟨w.heap.size, 8, none⟩ = some (.int .i64 limit) ∧ wx.cell? ⟨wo.heap.size, 9, none⟩ = some (.slice (some ⟨b2, off2, none⟩) 2 c') ∧ wx.cell? ⟨b2, off2 + j2 * 10, none⟩ = some (.int .i64 ky) ∧ wx.cell? ⟨b2, off2 + j2 * 10 + 1, none⟩ = some (.string oy) ∧ wx.cell? ⟨b2, off2 + j2 * 10 + 2, none⟩ = some (.int .i64 lky) ∧ wx.cell? ⟨b2, off2 + j2 * 10 + 3, none⟩ = some (.int .i64 lny) ∧ wx.cell? ⟨b2, off2 + j2 * 10 + 4, none⟩ = some (.float .f64 lfy) ∧ wx.cell? ⟨b2, off2 + j2 * 10 + 5, none⟩ = some (.string lsy) ∧ wx.cell? ⟨b2, off2 + j2 * 10 + 6, none⟩ = some (.int .i64 ay) ∧ wx.cell? ⟨b2, off2 + j2 * 10 + 7, none⟩ = some (.bool nty) ∧ wx.cell? ⟨b2, off2 + j2 * 10 + 8, none⟩ = some (.int .i64 tyy) ∧ wx.cell? ⟨b2, off2 + j2 * 10 + 9, none⟩ = some (.slice Ay ly.length cy) := by
                      have hlq := heap_lt HH2.out.2.1
                      have hln := heap_lt HN2.out
                      have hlx := heap_lt HX2.out
                      have hly : b2 < w2.heap.size := Nat.lt_of_lt_of_le hb2 HH2.out.1.size
                      intro wx h
                      refine ⟨h, ?_, ?_, ?_, ?_, ?_, ?_, ?_, ?_, ?_, ?_, ?_, ?_, ?_, ?_, ?_, ?_, ?_, ?_, ?_, ?_, ?_⟩
                      · exact keep_all h hlx x0
                      · exact keep_all h hlq q0
                      · exact keep_all h hlq q1
                      · exact keep_all h hlq q2
                      · exact keep_all h hlq q3
                      · exact keep_all h hlq q4
                      · exact keep_all h hlq q5
                      · exact keep_all h hlq q6
                      · exact keep_all h hlq q7
                      · exact keep_all h hlq q8
                      · exact keep_all h hln n9
                      · exact keep_all h hly y0
                      · exact keep_all h hly y1
                      · exact keep_all h hly y2
                      · exact keep_all h hly y3
                      · exact keep_all h hly y4
                      · exact keep_all h hly y5
                      · exact keep_all h hly y6
                      · exact keep_all h hly y7
                      · exact keep_all h hly y8
                      · exact keep_all h hly y9
                    have HSX := Lib.hid hS
                    clear hS
                    clear q0 q1 q2 q3 q4 q5 q6 q7 q8 n9 x0 y0 y1 y2 y3 y4 y5 y6 y7 y8 y9
                    by_cases hkx : kx = 2
                    · subst hkx
                      by_cases hff : f0 = f
                      · subst hff
                        have HTB2 := Lib.hid (show decide (tabR _ ax = some f0) = true from decide_eq_true HTB.out)
                        cases h4 : hasS ops OP with
                        | false =>
                          have HQ2 := Lib.hid (show outJ (j + 1) = cj by rw [HE.out, HS1.out, if_neg]; rw [HT1.out]; show ¬ ((2 : Int) == 2 && (decide (tabR _ ax = some f0) && (hasS ops OP && _))) = true; rw [HTB2.out, h4]; simp)
                          have HOP4 := Lib.hid (show ∀ W, Below w.heap.size w W → Calls Try.prog 34 #[.slice pA ops.length pc, .string OP] W (fun e w' => e = .returned (.bool false) ∧ W = w') from fun W hB => h4 ▸ HOPS.out OP W hB)
                          clear h4
                          refine wp_region_held_drew (S := (fun wx => Below w2.heap.size w2 wx ∧ wx.cell? ⟨wi.heap.size, 0, none⟩ = some (.int .i64 2) ∧ wx.cell? ⟨w.heap.size, 0, none⟩ = some (.slice tA tabs.length tc) ∧ wx.cell? ⟨w.heap.size, 1, none⟩ = some (.slice bA beg.length bc) ∧ wx.cell? ⟨w.heap.size, 2, none⟩ = some (.int .i64 width) ∧ wx.cell? ⟨w.heap.size, 3, none⟩ = some (.slice (some ⟨b, off, none⟩) wh.length wc) ∧ wx.cell? ⟨w.heap.size, 4, none⟩ = some (.slice gA gn gc) ∧ wx.cell? ⟨w.heap.size, 5, none⟩ = some (.bool grouped) ∧ wx.cell? ⟨w.heap.size, 6, none⟩ = some (.slice iA i_n ic) ∧ wx.cell? ⟨w.heap.size, 7, none⟩ = some (.slice oA ord.length oc) ∧ wx.cell? ⟨w.heap.size, 8, none⟩ = some (.int .i64 limit) ∧ wx.cell? ⟨wo.heap.size, 9, none⟩ = some (.slice (some ⟨b2, off2, none⟩) 2 c') ∧ wx.cell? ⟨b2, off2 + j2 * 10, none⟩ = some (.int .i64 ky) ∧ wx.cell? ⟨b2, off2 + j2 * 10 + 1, none⟩ = some (.string oy) ∧ wx.cell? ⟨b2, off2 + j2 * 10 + 2, none⟩ = some (.int .i64 lky) ∧ wx.cell? ⟨b2, off2 + j2 * 10 + 3, none⟩ = some (.int .i64 lny) ∧ wx.cell? ⟨b2, off2 + j2 * 10 + 4, none⟩ = some (.float .f64 lfy) ∧ wx.cell? ⟨b2, off2 + j2 * 10 + 5, none⟩ = some (.string lsy) ∧ wx.cell? ⟨b2, off2 + j2 * 10 + 6, none⟩ = some (.int .i64 ay) ∧ wx.cell? ⟨b2, off2 + j2 * 10 + 7, none⟩ = some (.bool nty) ∧ wx.cell? ⟨b2, off2 + j2 * 10 + 8, none⟩ = some (.int .i64 tyy) ∧ wx.cell? ⟨b2, off2 + j2 * 10 + 9, none⟩ = some (.slice Ay ly.length cy))) (by kernel_rfl) (HSX.out _ (Below.refl _ _).drew) (fun hHeld => ?_)
                          (try dsimp only at hHeld)
                          refine wpAnyH_take (i := 0) (v := ?_) (List.getElem?_toArray.trans rfl) (by kernel_rfl) (by kernel_rfl) (by kernel_rfl) (fun _ _ _ h => h) (Or.inl ⟨by rfl, ?_⟩) hHeld ?_
                          rotate_left
                          · intro wx hSw
                            (try dsimp only at hSw)
                            go_simp
                            (try with_reducible rfl)
                          (try simp only [Act.put, List.setIfInBounds_toArray, List.set_cons_zero, List.set_cons_succ])
                          refine wpAnyH_take (i := 1) (v := ?_) (List.getElem?_toArray.trans rfl) (by kernel_rfl) (by kernel_rfl) (by kernel_rfl) (fun _ _ _ h => h) (Or.inl ⟨by rfl, ?_⟩) hHeld ?_
                          rotate_left
                          · intro wx hSw
                            (try dsimp only at hSw)
                            go_simp
                            (try with_reducible rfl)
                          (try simp only [Act.put, List.setIfInBounds_toArray, List.set_cons_zero, List.set_cons_succ])
                          refine wpAnyH_take (i := 2) (v := ?_) (List.getElem?_toArray.trans rfl) (by kernel_rfl) (by kernel_rfl) (by kernel_rfl) (fun _ _ _ h => h) (Or.inl ⟨by rfl, ?_⟩) hHeld ?_
                          rotate_left
                          · intro wx hSw
                            (try dsimp only at hSw)
                            go_simp
                            (try with_reducible rfl)
                          (try simp only [Act.put, List.setIfInBounds_toArray, List.set_cons_zero, List.set_cons_succ])
                          refine wpAnyH_take (i := 3) (v := ?_) (List.getElem?_toArray.trans rfl) (by kernel_rfl) (by kernel_rfl) (by kernel_rfl) (fun _ _ _ h => h) (Or.inl ⟨by rfl, ?_⟩) hHeld ?_
                          rotate_left
                          · intro wx hSw
                            (try dsimp only at hSw)
                            go_simp
                            (try with_reducible rfl)
                          (try simp only [Act.put, List.setIfInBounds_toArray, List.set_cons_zero, List.set_cons_succ])
                          refine wpAnyH_take (i := 4) (v := ?_) (List.getElem?_toArray.trans rfl) (by kernel_rfl) (by kernel_rfl) (by kernel_rfl) (fun _ _ _ h => h) (Or.inl ⟨by rfl, ?_⟩) hHeld ?_
                          rotate_left
                          · intro wx hSw
                            (try dsimp only at hSw)
                            go_simp
                            (try with_reducible rfl)
                          (try simp only [Act.put, List.setIfInBounds_toArray, List.set_cons_zero, List.set_cons_succ])
                          refine wpAnyH_take (i := 5) (v := ?_) (List.getElem?_toArray.trans rfl) (by kernel_rfl) (by kernel_rfl) (by kernel_rfl) (fun _ _ _ h => h) (Or.inl ⟨by rfl, ?_⟩) hHeld ?_
                          rotate_left
                          · intro wx hSw
                            (try dsimp only at hSw)
                            go_simp
                            (try with_reducible rfl)
                          (try simp only [Act.put, List.setIfInBounds_toArray, List.set_cons_zero, List.set_cons_succ])
                          refine wpAnyH_take (i := 6) (v := ?_) (List.getElem?_toArray.trans rfl) (by kernel_rfl) (by kernel_rfl) (by kernel_rfl) (fun _ _ _ h => h) (Or.inl ⟨by rfl, ?_⟩) hHeld ?_
                          rotate_left
                          · intro wx hSw
                            (try dsimp only at hSw)
                            go_simp
                            (try with_reducible rfl)
                          (try simp only [Act.put, List.setIfInBounds_toArray, List.set_cons_zero, List.set_cons_succ])
                          refine wpAnyH_take (i := 7) (v := ?_) (List.getElem?_toArray.trans rfl) (by kernel_rfl) (by kernel_rfl) (by kernel_rfl) (fun _ _ _ h => h) (Or.inl ⟨by rfl, ?_⟩) hHeld ?_
                          rotate_left
                          · intro wx hSw
                            (try dsimp only at hSw)
                            go_simp
                            (try with_reducible rfl)
                          (try simp only [Act.put, List.setIfInBounds_toArray, List.set_cons_zero, List.set_cons_succ])
                          refine wpAnyH_take (i := 8) (v := ?_) (List.getElem?_toArray.trans rfl) (by kernel_rfl) (by kernel_rfl) (by kernel_rfl) (fun _ _ _ h => h) (Or.inl ⟨by rfl, ?_⟩) hHeld ?_
                          rotate_left
                          · intro wx hSw
                            (try dsimp only at hSw)
                            go_simp
                            (try with_reducible rfl)
                          (try simp only [Act.put, List.setIfInBounds_toArray, List.set_cons_zero, List.set_cons_succ])
                          refine wpAnyH_take (i := 9) (v := ?_) (List.getElem?_toArray.trans rfl) (by kernel_rfl) (by kernel_rfl) (by kernel_rfl) (fun _ _ _ h => h) (Or.inl ⟨by rfl, ?_⟩) hHeld ?_
                          rotate_left
                          · intro wx hSw
                            (try dsimp only at hSw)
                            go_simp
                            (try with_reducible rfl)
                          (try simp only [Act.put, List.setIfInBounds_toArray, List.set_cons_zero, List.set_cons_succ])
                          refine wpAnyH_take (i := 10) (v := ?_) (List.getElem?_toArray.trans rfl) (by kernel_rfl) (by kernel_rfl) (by kernel_rfl) (fun _ _ _ h => h) (Or.inl ⟨by rfl, ?_⟩) hHeld ?_
                          rotate_left
                          · intro wx hSw
                            (try dsimp only at hSw)
                            go_simp
                            (try with_reducible rfl)
                          (try simp only [Act.put, List.setIfInBounds_toArray, List.set_cons_zero, List.set_cons_succ])
                          refine wpAnyH_take (i := 11) (v := ?_) (List.getElem?_toArray.trans rfl) (by kernel_rfl) (by kernel_rfl) (by kernel_rfl) (fun _ _ _ h => h) (Or.inl ⟨by rfl, ?_⟩) hHeld ?_
                          rotate_left
                          · intro wx hSw
                            (try dsimp only at hSw)
                            go_simp
                            (try with_reducible rfl)
                          (try simp only [Act.put, List.setIfInBounds_toArray, List.set_cons_zero, List.set_cons_succ])
                          refine wpAnyH_take (i := 12) (v := ?_) (List.getElem?_toArray.trans rfl) (by kernel_rfl) (by kernel_rfl) (by kernel_rfl) (fun _ _ _ h => h) (Or.inl ⟨by rfl, ?_⟩) hHeld ?_
                          rotate_left
                          · intro wx hSw
                            (try dsimp only at hSw)
                            go_simp
                            (try with_reducible rfl)
                          (try simp only [Act.put, List.setIfInBounds_toArray, List.set_cons_zero, List.set_cons_succ])
                          refine wpAnyH_take (i := 13) (v := ?_) (List.getElem?_toArray.trans rfl) (by kernel_rfl) (by kernel_rfl) (by kernel_rfl) (fun _ _ _ h => h) (Or.inl ⟨by rfl, ?_⟩) hHeld ?_
                          rotate_left
                          · intro wx hSw
                            (try dsimp only at hSw)
                            go_simp
                            (try with_reducible rfl)
                          (try simp only [Act.put, List.setIfInBounds_toArray, List.set_cons_zero, List.set_cons_succ])
                          refine wpAnyH_ready (rs := [14]) (by kernel_rfl) (by simp) ?_
                          refine AllReadyH.cons (List.getElem?_toArray.trans rfl) (fun K hK => ?_) AllReadyH.nil
                          go_simp
                          go_at_call 34
                          with_reducible refine Calls.mono (HOP4.out _ (below_on (HeldIn.below HH2.out) hHeld.1)) ?_
                          rintro e w3 ⟨rfl, rfl⟩
                          refine hK.out _ _ hHeld (fun _ => ?_)
                          clear hK K
                          (try simp only [Act.put, List.setIfInBounds_toArray, List.set_cons_zero, List.set_cons_succ])
                          refine wpAnyH_take (i := 15) (v := ?_) (List.getElem?_toArray.trans rfl) (by kernel_rfl) (by kernel_rfl) (by kernel_rfl) (fun _ _ _ h => h) (Or.inl ⟨by rfl, ?_⟩) hHeld ?_
                          rotate_left
                          · intro wx hSw
                            (try dsimp only at hSw)
                            go_simp
                            (try with_reducible rfl)
                          (try simp only [Act.put, List.setIfInBounds_toArray, List.set_cons_zero, List.set_cons_succ])
                          refine wpAnyH_take (i := 16) (v := ?_) (List.getElem?_toArray.trans rfl) (by kernel_rfl) (by kernel_rfl) (by kernel_rfl) (fun _ _ _ h => h) (Or.inl ⟨by rfl, ?_⟩) hHeld ?_
                          rotate_left
                          · intro wx hSw
                            (try dsimp only at hSw)
                            go_simp
                            (try with_reducible rfl)
                          (try simp only [Act.put, List.setIfInBounds_toArray, List.set_cons_zero, List.set_cons_succ])
                          refine wpAnyH_take (i := 17) (List.getElem?_toArray.trans rfl) (by kernel_rfl) (by kernel_rfl) (by kernel_rfl) (fun _ _ _ h => h) (Or.inr ⟨by rfl, rfl⟩) hHeld ?_
                          (try simp only [Act.put, List.setIfInBounds_toArray, List.set_cons_zero, List.set_cons_succ])
                          refine wpAnyH_take (i := 18) (List.getElem?_toArray.trans rfl) (by kernel_rfl) (by kernel_rfl) (by kernel_rfl) (fun _ _ _ h => h) (Or.inr ⟨by rfl, rfl⟩) hHeld ?_
                          (try simp only [Act.put, List.setIfInBounds_toArray, List.set_cons_zero, List.set_cons_succ])
                          refine wpAnyH_take (i := 19) (List.getElem?_toArray.trans rfl) (by kernel_rfl) (by kernel_rfl) (by kernel_rfl) (fun _ _ _ h => h) (Or.inr ⟨by rfl, rfl⟩) hHeld ?_
                          (try simp only [Act.put, List.setIfInBounds_toArray, List.set_cons_zero, List.set_cons_succ])
                          refine wpAnyH_take (i := 20) (List.getElem?_toArray.trans rfl) (by kernel_rfl) (by kernel_rfl) (by kernel_rfl) (fun _ _ _ h => h) (Or.inr ⟨by rfl, rfl⟩) hHeld ?_
                          (try simp only [Act.put, List.setIfInBounds_toArray, List.set_cons_zero, List.set_cons_succ])
                          refine wpAnyH_take (i := 21) (List.getElem?_toArray.trans rfl) (by kernel_rfl) (by kernel_rfl) (by kernel_rfl) (fun _ _ _ h => h) (Or.inr ⟨by rfl, rfl⟩) hHeld ?_
                          (try simp only [Act.put, List.setIfInBounds_toArray, List.set_cons_zero, List.set_cons_succ])
                          refine wpAnyH_take (i := 22) (List.getElem?_toArray.trans rfl) (by kernel_rfl) (by kernel_rfl) (by kernel_rfl) (fun _ _ _ h => h) (Or.inr ⟨by rfl, rfl⟩) hHeld ?_
                          (try simp only [Act.put, List.setIfInBounds_toArray, List.set_cons_zero, List.set_cons_succ])
                          refine wpAnyH_take (i := 23) (List.getElem?_toArray.trans rfl) (by kernel_rfl) (by kernel_rfl) (by kernel_rfl) (fun _ _ _ h => h) (Or.inr ⟨by rfl, rfl⟩) hHeld ?_
                          (try simp only [Act.put, List.setIfInBounds_toArray, List.set_cons_zero, List.set_cons_succ])
                          refine wpAnyH_take (i := 24) (List.getElem?_toArray.trans rfl) (by kernel_rfl) (by kernel_rfl) (by kernel_rfl) (fun _ _ _ h => h) (Or.inr ⟨by rfl, rfl⟩) hHeld ?_
                          (try simp only [Act.put, List.setIfInBounds_toArray, List.set_cons_zero, List.set_cons_succ])
                          refine wpAnyH_take (i := 25) (List.getElem?_toArray.trans rfl) (by kernel_rfl) (by kernel_rfl) (by kernel_rfl) (fun _ _ _ h => h) (Or.inr ⟨by rfl, rfl⟩) hHeld ?_
                          (try simp only [Act.put, List.setIfInBounds_toArray, List.set_cons_zero, List.set_cons_succ])
                          refine wpAnyH_take (i := 26) (List.getElem?_toArray.trans rfl) (by kernel_rfl) (by kernel_rfl) (by kernel_rfl) (fun _ _ _ h => h) (Or.inr ⟨by rfl, rfl⟩) hHeld ?_
                          (try simp only [Act.put, List.setIfInBounds_toArray, List.set_cons_zero, List.set_cons_succ])
                          refine wpAnyH_take (i := 27) (v := ?_) (List.getElem?_toArray.trans rfl) (by kernel_rfl) (by kernel_rfl) (by kernel_rfl) (fun _ _ _ h => h) (Or.inl ⟨by rfl, ?_⟩) hHeld ?_
                          rotate_left
                          · intro wx hSw
                            (try dsimp only at hSw)
                            go_simp
                            (try with_reducible rfl)
                          (try simp only [Act.put, List.setIfInBounds_toArray, List.set_cons_zero, List.set_cons_succ])
                          refine wpAnyH_take (i := 28) (v := ?_) (List.getElem?_toArray.trans rfl) (by kernel_rfl) (by kernel_rfl) (by kernel_rfl) (fun _ _ _ h => h) (Or.inl ⟨by rfl, ?_⟩) hHeld ?_
                          rotate_left
                          · intro wx hSw
                            (try dsimp only at hSw)
                            go_simp
                            (try with_reducible rfl)
                          (try simp only [Act.put, List.setIfInBounds_toArray, List.set_cons_zero, List.set_cons_succ])
                          refine wpAnyH_take (i := 29) (List.getElem?_toArray.trans rfl) (by kernel_rfl) (by kernel_rfl) (by kernel_rfl) (fun _ _ _ h => h) (Or.inr ⟨by rfl, rfl⟩) hHeld ?_
                          (try simp only [Act.put, List.setIfInBounds_toArray, List.set_cons_zero, List.set_cons_succ])
                          refine wpAnyH_take (i := 30) (List.getElem?_toArray.trans rfl) (by kernel_rfl) (by kernel_rfl) (by kernel_rfl) (fun _ _ _ h => h) (Or.inr ⟨by rfl, rfl⟩) hHeld ?_
                          (try simp only [Act.put, List.setIfInBounds_toArray, List.set_cons_zero, List.set_cons_succ])
                          refine wpAnyH_take (i := 31) (List.getElem?_toArray.trans rfl) (by kernel_rfl) (by kernel_rfl) (by kernel_rfl) (fun _ _ _ h => h) (Or.inr ⟨by rfl, rfl⟩) hHeld ?_
                          (try simp only [Act.put, List.setIfInBounds_toArray, List.set_cons_zero, List.set_cons_succ])
                          refine wpAnyH_take (i := 32) (List.getElem?_toArray.trans rfl) (by kernel_rfl) (by kernel_rfl) (by kernel_rfl) (fun _ _ _ h => h) (Or.inr ⟨by rfl, rfl⟩) hHeld ?_
                          (try simp only [Act.put, List.setIfInBounds_toArray, List.set_cons_zero, List.set_cons_succ])
                          refine wpAnyH_take (i := 33) (v := ?_) (List.getElem?_toArray.trans rfl) (by kernel_rfl) (by kernel_rfl) (by kernel_rfl) (fun _ _ _ h => h) (Or.inl ⟨by rfl, ?_⟩) hHeld ?_
                          rotate_left
                          · intro wx hSw
                            (try dsimp only at hSw)
                            go_simp
                            (try with_reducible rfl)
                          (try simp only [Act.put, List.setIfInBounds_toArray, List.set_cons_zero, List.set_cons_succ])
                          refine wpAnyH_done (by kernel_rfl) ?_ _
                          go_wp2_with fail
                          go_roundw
                          case rel => exact ⟨j + 1, by omega, by go_num, by rw [HQ2.out]; exact HH2.out.call hHeld.1, HN2.out.keep hHeld.1, HBO.out⟩
                          case measure => simp [intOf] <;> omega
                        | true =>
                          have HOP4 := Lib.hid (show ∀ W, Below w.heap.size w W → Calls Try.prog 34 #[.slice pA ops.length pc, .string OP] W (fun e w' => e = .returned (.bool true) ∧ W = w') from fun W hB => h4 ▸ HOPS.out OP W hB)
                          obtain ⟨r5, hr5⟩ : ∃ r5, r5 = readsR ⟨tA, tc, tabs, bA, bc, beg, width, (some ⟨b, off, none⟩), wc, wh, gA, gn, gc, grouped, iA, i_n, ic, oA, oc, ord, limit⟩ f0 (.mk ky oy lky lny lfy lsy ay nty tyy Ay cy ly) := ⟨_, rfl⟩
                          have HRY := HTY
                          rw [← hr5] at HRY
                          have HR5 := Lib.hid hr5.symm
                          have H4 := Lib.hid h4
                          clear h4 hr5
                          cases r5 with
                          | true =>
                            have HQ2 := Lib.hid (show outJ (j + 1) = cj by rw [HE.out, HS1.out, if_neg]; rw [HT1.out]; show ¬ ((2 : Int) == 2 && (decide (tabR _ ax = some f0) && (hasS ops OP && !readsR ⟨tA, tc, tabs, bA, bc, beg, width, (some ⟨b, off, none⟩), wc, wh, gA, gn, gc, grouped, iA, i_n, ic, oA, oc, ord, limit⟩ f0 (.mk ky oy lky lny lfy lsy ay nty tyy Ay cy ly)))) = true; rw [HR5.out]; simp)
                            refine wp_region_held_drew (S := (fun wx => Below w2.heap.size w2 wx ∧ wx.cell? ⟨wi.heap.size, 0, none⟩ = some (.int .i64 2) ∧ wx.cell? ⟨w.heap.size, 0, none⟩ = some (.slice tA tabs.length tc) ∧ wx.cell? ⟨w.heap.size, 1, none⟩ = some (.slice bA beg.length bc) ∧ wx.cell? ⟨w.heap.size, 2, none⟩ = some (.int .i64 width) ∧ wx.cell? ⟨w.heap.size, 3, none⟩ = some (.slice (some ⟨b, off, none⟩) wh.length wc) ∧ wx.cell? ⟨w.heap.size, 4, none⟩ = some (.slice gA gn gc) ∧ wx.cell? ⟨w.heap.size, 5, none⟩ = some (.bool grouped) ∧ wx.cell? ⟨w.heap.size, 6, none⟩ = some (.slice iA i_n ic) ∧ wx.cell? ⟨w.heap.size, 7, none⟩ = some (.slice oA ord.length oc) ∧ wx.cell? ⟨w.heap.size, 8, none⟩ = some (.int .i64 limit) ∧ wx.cell? ⟨wo.heap.size, 9, none⟩ = some (.slice (some ⟨b2, off2, none⟩) 2 c') ∧ wx.cell? ⟨b2, off2 + j2 * 10, none⟩ = some (.int .i64 ky) ∧ wx.cell? ⟨b2, off2 + j2 * 10 + 1, none⟩ = some (.string oy) ∧ wx.cell? ⟨b2, off2 + j2 * 10 + 2, none⟩ = some (.int .i64 lky) ∧ wx.cell? ⟨b2, off2 + j2 * 10 + 3, none⟩ = some (.int .i64 lny) ∧ wx.cell? ⟨b2, off2 + j2 * 10 + 4, none⟩ = some (.float .f64 lfy) ∧ wx.cell? ⟨b2, off2 + j2 * 10 + 5, none⟩ = some (.string lsy) ∧ wx.cell? ⟨b2, off2 + j2 * 10 + 6, none⟩ = some (.int .i64 ay) ∧ wx.cell? ⟨b2, off2 + j2 * 10 + 7, none⟩ = some (.bool nty) ∧ wx.cell? ⟨b2, off2 + j2 * 10 + 8, none⟩ = some (.int .i64 tyy) ∧ wx.cell? ⟨b2, off2 + j2 * 10 + 9, none⟩ = some (.slice Ay ly.length cy))) (by kernel_rfl) (HSX.out _ (Below.refl _ _).drew) (fun hHeld => ?_)
                            (try dsimp only at hHeld)
                            refine wpAnyH_take (i := 0) (v := ?_) (List.getElem?_toArray.trans rfl) (by kernel_rfl) (by kernel_rfl) (by kernel_rfl) (fun _ _ _ h => h) (Or.inl ⟨by rfl, ?_⟩) hHeld ?_
                            rotate_left
                            · intro wx hSw
                              (try dsimp only at hSw)
                              go_simp
                              (try with_reducible rfl)
                            (try simp only [Act.put, List.setIfInBounds_toArray, List.set_cons_zero, List.set_cons_succ])
                            refine wpAnyH_take (i := 1) (v := ?_) (List.getElem?_toArray.trans rfl) (by kernel_rfl) (by kernel_rfl) (by kernel_rfl) (fun _ _ _ h => h) (Or.inl ⟨by rfl, ?_⟩) hHeld ?_
                            rotate_left
                            · intro wx hSw
                              (try dsimp only at hSw)
                              go_simp
                              (try with_reducible rfl)
                            (try simp only [Act.put, List.setIfInBounds_toArray, List.set_cons_zero, List.set_cons_succ])
                            refine wpAnyH_take (i := 2) (v := ?_) (List.getElem?_toArray.trans rfl) (by kernel_rfl) (by kernel_rfl) (by kernel_rfl) (fun _ _ _ h => h) (Or.inl ⟨by rfl, ?_⟩) hHeld ?_
                            rotate_left
                            · intro wx hSw
                              (try dsimp only at hSw)
                              go_simp
                              (try with_reducible rfl)
                            (try simp only [Act.put, List.setIfInBounds_toArray, List.set_cons_zero, List.set_cons_succ])
                            refine wpAnyH_take (i := 3) (v := ?_) (List.getElem?_toArray.trans rfl) (by kernel_rfl) (by kernel_rfl) (by kernel_rfl) (fun _ _ _ h => h) (Or.inl ⟨by rfl, ?_⟩) hHeld ?_
                            rotate_left
                            · intro wx hSw
                              (try dsimp only at hSw)
                              go_simp
                              (try with_reducible rfl)
                            (try simp only [Act.put, List.setIfInBounds_toArray, List.set_cons_zero, List.set_cons_succ])
                            refine wpAnyH_take (i := 4) (v := ?_) (List.getElem?_toArray.trans rfl) (by kernel_rfl) (by kernel_rfl) (by kernel_rfl) (fun _ _ _ h => h) (Or.inl ⟨by rfl, ?_⟩) hHeld ?_
                            rotate_left
                            · intro wx hSw
                              (try dsimp only at hSw)
                              go_simp
                              (try with_reducible rfl)
                            (try simp only [Act.put, List.setIfInBounds_toArray, List.set_cons_zero, List.set_cons_succ])
                            refine wpAnyH_take (i := 5) (v := ?_) (List.getElem?_toArray.trans rfl) (by kernel_rfl) (by kernel_rfl) (by kernel_rfl) (fun _ _ _ h => h) (Or.inl ⟨by rfl, ?_⟩) hHeld ?_
                            rotate_left
                            · intro wx hSw
                              (try dsimp only at hSw)
                              go_simp
                              (try with_reducible rfl)
                            (try simp only [Act.put, List.setIfInBounds_toArray, List.set_cons_zero, List.set_cons_succ])
                            refine wpAnyH_take (i := 6) (v := ?_) (List.getElem?_toArray.trans rfl) (by kernel_rfl) (by kernel_rfl) (by kernel_rfl) (fun _ _ _ h => h) (Or.inl ⟨by rfl, ?_⟩) hHeld ?_
                            rotate_left
                            · intro wx hSw
                              (try dsimp only at hSw)
                              go_simp
                              (try with_reducible rfl)
                            (try simp only [Act.put, List.setIfInBounds_toArray, List.set_cons_zero, List.set_cons_succ])
                            refine wpAnyH_take (i := 7) (v := ?_) (List.getElem?_toArray.trans rfl) (by kernel_rfl) (by kernel_rfl) (by kernel_rfl) (fun _ _ _ h => h) (Or.inl ⟨by rfl, ?_⟩) hHeld ?_
                            rotate_left
                            · intro wx hSw
                              (try dsimp only at hSw)
                              go_simp
                              (try with_reducible rfl)
                            (try simp only [Act.put, List.setIfInBounds_toArray, List.set_cons_zero, List.set_cons_succ])
                            refine wpAnyH_take (i := 8) (v := ?_) (List.getElem?_toArray.trans rfl) (by kernel_rfl) (by kernel_rfl) (by kernel_rfl) (fun _ _ _ h => h) (Or.inl ⟨by rfl, ?_⟩) hHeld ?_
                            rotate_left
                            · intro wx hSw
                              (try dsimp only at hSw)
                              go_simp
                              (try with_reducible rfl)
                            (try simp only [Act.put, List.setIfInBounds_toArray, List.set_cons_zero, List.set_cons_succ])
                            refine wpAnyH_take (i := 9) (v := ?_) (List.getElem?_toArray.trans rfl) (by kernel_rfl) (by kernel_rfl) (by kernel_rfl) (fun _ _ _ h => h) (Or.inl ⟨by rfl, ?_⟩) hHeld ?_
                            rotate_left
                            · intro wx hSw
                              (try dsimp only at hSw)
                              go_simp
                              (try with_reducible rfl)
                            (try simp only [Act.put, List.setIfInBounds_toArray, List.set_cons_zero, List.set_cons_succ])
                            refine wpAnyH_take (i := 10) (v := ?_) (List.getElem?_toArray.trans rfl) (by kernel_rfl) (by kernel_rfl) (by kernel_rfl) (fun _ _ _ h => h) (Or.inl ⟨by rfl, ?_⟩) hHeld ?_
                            rotate_left
                            · intro wx hSw
                              (try dsimp only at hSw)
                              go_simp
                              (try with_reducible rfl)
                            (try simp only [Act.put, List.setIfInBounds_toArray, List.set_cons_zero, List.set_cons_succ])
                            refine wpAnyH_take (i := 11) (v := ?_) (List.getElem?_toArray.trans rfl) (by kernel_rfl) (by kernel_rfl) (by kernel_rfl) (fun _ _ _ h => h) (Or.inl ⟨by rfl, ?_⟩) hHeld ?_
                            rotate_left
                            · intro wx hSw
                              (try dsimp only at hSw)
                              go_simp
                              (try with_reducible rfl)
                            (try simp only [Act.put, List.setIfInBounds_toArray, List.set_cons_zero, List.set_cons_succ])
                            refine wpAnyH_take (i := 12) (v := ?_) (List.getElem?_toArray.trans rfl) (by kernel_rfl) (by kernel_rfl) (by kernel_rfl) (fun _ _ _ h => h) (Or.inl ⟨by rfl, ?_⟩) hHeld ?_
                            rotate_left
                            · intro wx hSw
                              (try dsimp only at hSw)
                              go_simp
                              (try with_reducible rfl)
                            (try simp only [Act.put, List.setIfInBounds_toArray, List.set_cons_zero, List.set_cons_succ])
                            refine wpAnyH_take (i := 13) (v := ?_) (List.getElem?_toArray.trans rfl) (by kernel_rfl) (by kernel_rfl) (by kernel_rfl) (fun _ _ _ h => h) (Or.inl ⟨by rfl, ?_⟩) hHeld ?_
                            rotate_left
                            · intro wx hSw
                              (try dsimp only at hSw)
                              go_simp
                              (try with_reducible rfl)
                            (try simp only [Act.put, List.setIfInBounds_toArray, List.set_cons_zero, List.set_cons_succ])
                            refine wpAnyH_ready (rs := [14]) (by kernel_rfl) (by simp) ?_
                            refine AllReadyH.cons (List.getElem?_toArray.trans rfl) (fun K hK => ?_) AllReadyH.nil
                            go_simp
                            go_at_call 34
                            with_reducible refine Calls.mono (HOP4.out _ (below_on (HeldIn.below HH2.out) hHeld.1)) ?_
                            rintro e w3 ⟨rfl, rfl⟩
                            refine hK.out _ _ hHeld (fun _ => ?_)
                            clear hK K
                            (try simp only [Act.put, List.setIfInBounds_toArray, List.set_cons_zero, List.set_cons_succ])
                            refine wpAnyH_take (i := 15) (v := ?_) (List.getElem?_toArray.trans rfl) (by kernel_rfl) (by kernel_rfl) (by kernel_rfl) (fun _ _ _ h => h) (Or.inl ⟨by rfl, ?_⟩) hHeld ?_
                            rotate_left
                            · intro wx hSw
                              (try dsimp only at hSw)
                              go_simp
                              (try with_reducible rfl)
                            (try simp only [Act.put, List.setIfInBounds_toArray, List.set_cons_zero, List.set_cons_succ])
                            refine wpAnyH_take (i := 16) (v := ?_) (List.getElem?_toArray.trans rfl) (by kernel_rfl) (by kernel_rfl) (by kernel_rfl) (fun _ _ _ h => h) (Or.inl ⟨by rfl, ?_⟩) hHeld ?_
                            rotate_left
                            · intro wx hSw
                              (try dsimp only at hSw)
                              go_simp
                              (try with_reducible rfl)
                            (try simp only [Act.put, List.setIfInBounds_toArray, List.set_cons_zero, List.set_cons_succ])
                            refine wpAnyH_take (i := 17) (v := ?_) (List.getElem?_toArray.trans rfl) (by kernel_rfl) (by kernel_rfl) (by kernel_rfl) (fun _ _ _ h => h) (Or.inl ⟨by rfl, ?_⟩) hHeld ?_
                            rotate_left
                            · intro wx hSw
                              (try dsimp only at hSw)
                              go_simp
                              (try with_reducible rfl)
                            (try simp only [Act.put, List.setIfInBounds_toArray, List.set_cons_zero, List.set_cons_succ])
                            refine wpAnyH_take (i := 18) (v := ?_) (List.getElem?_toArray.trans rfl) (by kernel_rfl) (by kernel_rfl) (by kernel_rfl) (fun _ _ _ h => h) (Or.inl ⟨by rfl, ?_⟩) hHeld ?_
                            rotate_left
                            · intro wx hSw
                              (try dsimp only at hSw)
                              go_simp
                              (try with_reducible rfl)
                            (try simp only [Act.put, List.setIfInBounds_toArray, List.set_cons_zero, List.set_cons_succ])
                            refine wpAnyH_take (i := 19) (v := ?_) (List.getElem?_toArray.trans rfl) (by kernel_rfl) (by kernel_rfl) (by kernel_rfl) (fun _ _ _ h => h) (Or.inl ⟨by rfl, ?_⟩) hHeld ?_
                            rotate_left
                            · intro wx hSw
                              (try dsimp only at hSw)
                              go_simp
                              (try with_reducible rfl)
                            (try simp only [Act.put, List.setIfInBounds_toArray, List.set_cons_zero, List.set_cons_succ])
                            refine wpAnyH_take (i := 20) (v := ?_) (List.getElem?_toArray.trans rfl) (by kernel_rfl) (by kernel_rfl) (by kernel_rfl) (fun _ _ _ h => h) (Or.inl ⟨by rfl, ?_⟩) hHeld ?_
                            rotate_left
                            · intro wx hSw
                              (try dsimp only at hSw)
                              go_simp
                              (try with_reducible rfl)
                            (try simp only [Act.put, List.setIfInBounds_toArray, List.set_cons_zero, List.set_cons_succ])
                            refine wpAnyH_take (i := 21) (v := ?_) (List.getElem?_toArray.trans rfl) (by kernel_rfl) (by kernel_rfl) (by kernel_rfl) (fun _ _ _ h => h) (Or.inl ⟨by rfl, ?_⟩) hHeld ?_
                            rotate_left
                            · intro wx hSw
                              (try dsimp only at hSw)
                              go_simp
                              (try with_reducible rfl)
                            (try simp only [Act.put, List.setIfInBounds_toArray, List.set_cons_zero, List.set_cons_succ])
                            refine wpAnyH_take (i := 22) (v := ?_) (List.getElem?_toArray.trans rfl) (by kernel_rfl) (by kernel_rfl) (by kernel_rfl) (fun _ _ _ h => h) (Or.inl ⟨by rfl, ?_⟩) hHeld ?_
                            rotate_left
                            · intro wx hSw
                              (try dsimp only at hSw)
                              go_simp
                              (try with_reducible rfl)
                            (try simp only [Act.put, List.setIfInBounds_toArray, List.set_cons_zero, List.set_cons_succ])
                            refine wpAnyH_take (i := 23) (v := ?_) (List.getElem?_toArray.trans rfl) (by kernel_rfl) (by kernel_rfl) (by kernel_rfl) (fun _ _ _ h => h) (Or.inl ⟨by rfl, ?_⟩) hHeld ?_
                            rotate_left
                            · intro wx hSw
                              (try dsimp only at hSw)
                              go_simp
                              (try with_reducible rfl)
                            (try simp only [Act.put, List.setIfInBounds_toArray, List.set_cons_zero, List.set_cons_succ])
                            refine wpAnyH_take (i := 24) (v := ?_) (List.getElem?_toArray.trans rfl) (by kernel_rfl) (by kernel_rfl) (by kernel_rfl) (fun _ _ _ h => h) (Or.inl ⟨by rfl, ?_⟩) hHeld ?_
                            rotate_left
                            · intro wx hSw
                              (try dsimp only at hSw)
                              go_simp
                              (try with_reducible rfl)
                            (try simp only [Act.put, List.setIfInBounds_toArray, List.set_cons_zero, List.set_cons_succ])
                            refine wpAnyH_ready (rs := [25]) (by kernel_rfl) (by simp) ?_
                            refine AllReadyH.cons (List.getElem?_toArray.trans rfl) (fun K hK => ?_) AllReadyH.nil
                            go_simp
                            go_at_call 35
                            with_reducible refine Calls.mono (HRY.out _ (below_on (HeldIn.below HH2.out) hHeld.1)) ?_
                            rintro e w3 ⟨rfl, hB3⟩
                            have hHeld2 := HSX.out _ (hHeld.1.trans (hB3.mono hHeld.1.size))
                            refine hK.out _ _ hHeld2 (fun _ => ?_)
                            clear hK K hHeld hB3
                            have hHeld := hHeld2
                            clear hHeld2
                            (try simp only [Act.put, List.setIfInBounds_toArray, List.set_cons_zero, List.set_cons_succ])
                            refine wpAnyH_take (i := 26) (v := ?_) (List.getElem?_toArray.trans rfl) (by kernel_rfl) (by kernel_rfl) (by kernel_rfl) (fun _ _ _ h => h) (Or.inl ⟨by rfl, ?_⟩) hHeld ?_
                            rotate_left
                            · intro wx hSw
                              (try dsimp only at hSw)
                              go_simp
                              (try with_reducible rfl)
                            (try simp only [Act.put, List.setIfInBounds_toArray, List.set_cons_zero, List.set_cons_succ])
                            refine wpAnyH_take (i := 27) (v := ?_) (List.getElem?_toArray.trans rfl) (by kernel_rfl) (by kernel_rfl) (by kernel_rfl) (fun _ _ _ h => h) (Or.inl ⟨by rfl, ?_⟩) hHeld ?_
                            rotate_left
                            · intro wx hSw
                              (try dsimp only at hSw)
                              go_simp
                              (try with_reducible rfl)
                            (try simp only [Act.put, List.setIfInBounds_toArray, List.set_cons_zero, List.set_cons_succ])
                            refine wpAnyH_take (i := 28) (v := ?_) (List.getElem?_toArray.trans rfl) (by kernel_rfl) (by kernel_rfl) (by kernel_rfl) (fun _ _ _ h => h) (Or.inl ⟨by rfl, ?_⟩) hHeld ?_
                            rotate_left
                            · intro wx hSw
                              (try dsimp only at hSw)
                              go_simp
                              (try with_reducible rfl)
                            (try simp only [Act.put, List.setIfInBounds_toArray, List.set_cons_zero, List.set_cons_succ])
                            refine wpAnyH_take (i := 29) (List.getElem?_toArray.trans rfl) (by kernel_rfl) (by kernel_rfl) (by kernel_rfl) (fun _ _ _ h => h) (Or.inr ⟨by rfl, rfl⟩) hHeld ?_
                            (try simp only [Act.put, List.setIfInBounds_toArray, List.set_cons_zero, List.set_cons_succ])
                            refine wpAnyH_take (i := 30) (List.getElem?_toArray.trans rfl) (by kernel_rfl) (by kernel_rfl) (by kernel_rfl) (fun _ _ _ h => h) (Or.inr ⟨by rfl, rfl⟩) hHeld ?_
                            (try simp only [Act.put, List.setIfInBounds_toArray, List.set_cons_zero, List.set_cons_succ])
                            refine wpAnyH_take (i := 31) (List.getElem?_toArray.trans rfl) (by kernel_rfl) (by kernel_rfl) (by kernel_rfl) (fun _ _ _ h => h) (Or.inr ⟨by rfl, rfl⟩) hHeld ?_
                            (try simp only [Act.put, List.setIfInBounds_toArray, List.set_cons_zero, List.set_cons_succ])
                            refine wpAnyH_take (i := 32) (List.getElem?_toArray.trans rfl) (by kernel_rfl) (by kernel_rfl) (by kernel_rfl) (fun _ _ _ h => h) (Or.inr ⟨by rfl, rfl⟩) hHeld ?_
                            (try simp only [Act.put, List.setIfInBounds_toArray, List.set_cons_zero, List.set_cons_succ])
                            refine wpAnyH_take (i := 33) (v := ?_) (List.getElem?_toArray.trans rfl) (by kernel_rfl) (by kernel_rfl) (by kernel_rfl) (fun _ _ _ h => h) (Or.inl ⟨by rfl, ?_⟩) hHeld ?_
                            rotate_left
                            · intro wx hSw
                              (try dsimp only at hSw)
                              go_simp
                              (try with_reducible rfl)
                            (try simp only [Act.put, List.setIfInBounds_toArray, List.set_cons_zero, List.set_cons_succ])
                            refine wpAnyH_done (by kernel_rfl) ?_ _
                            go_wp2_with fail
                            go_roundw
                            case rel => exact ⟨j + 1, by omega, by go_num, by rw [HQ2.out]; exact HH2.out.call hHeld.1, HN2.out.keep hHeld.1, HBO.out⟩
                            case measure => simp [intOf] <;> omega
                          | false =>
                            have HTT := Lib.hid (show testR _ f0 ops OP (.mk 2 ox lkx lnx lfx lsx ax ntx tyx Ax cx lx) (.mk ky oy lky lny lfy lsy ay nty tyy Ay cy ly) = true by rw [HT1.out]; show ((2 : Int) == 2 && (decide (tabR _ ax = some f0) && (hasS ops OP && !readsR ⟨tA, tc, tabs, bA, bc, beg, width, (some ⟨b, off, none⟩), wc, wh, gA, gn, gc, grouped, iA, i_n, ic, oA, oc, ord, limit⟩ f0 (.mk ky oy lky lny lfy lsy ay nty tyy Ay cy ly)))) = true; rw [HTB2.out, H4.out, HR5.out]; rfl)
                            have HINT := Lib.hid (Ints.of_own HH2.out.2.2 rfl rfl)
                            obtain ⟨cl, hcl⟩ : ∃ cl, cl = colR ⟨tA, tc, tabs, bA, bc, beg, width, (some ⟨b, off, none⟩), wc, wh, gA, gn, gc, grouped, iA, i_n, ic, oA, oc, ord, limit⟩ f0 ax := ⟨_, rfl⟩
                            have HQ1 := Lib.hid (show outJ (j + 1) = onceR cj cl by rw [HE.out, HS1.out, if_pos HTT.out, hcl]; rfl)
                            rw [← hcl]
                            have HIN := Lib.hid (fun (W : World) (hB : Below w2.heap.size w2 W) => contains_any A1 c1 cj cl W (HINT.out.keep hB))
                            clear hcl
                            cases h6 : hasZ cj cl with
                            | true =>
                              rw [h6] at HIN
                              have HQ2 := Lib.hid (show outJ (j + 1) = cj by rw [HQ1.out]; unfold onceR; rw [if_pos h6])
                              clear h6
                              refine wp_region_held_drew (S := (fun wx => Below w2.heap.size w2 wx ∧ wx.cell? ⟨wi.heap.size, 0, none⟩ = some (.int .i64 2) ∧ wx.cell? ⟨w.heap.size, 0, none⟩ = some (.slice tA tabs.length tc) ∧ wx.cell? ⟨w.heap.size, 1, none⟩ = some (.slice bA beg.length bc) ∧ wx.cell? ⟨w.heap.size, 2, none⟩ = some (.int .i64 width) ∧ wx.cell? ⟨w.heap.size, 3, none⟩ = some (.slice (some ⟨b, off, none⟩) wh.length wc) ∧ wx.cell? ⟨w.heap.size, 4, none⟩ = some (.slice gA gn gc) ∧ wx.cell? ⟨w.heap.size, 5, none⟩ = some (.bool grouped) ∧ wx.cell? ⟨w.heap.size, 6, none⟩ = some (.slice iA i_n ic) ∧ wx.cell? ⟨w.heap.size, 7, none⟩ = some (.slice oA ord.length oc) ∧ wx.cell? ⟨w.heap.size, 8, none⟩ = some (.int .i64 limit) ∧ wx.cell? ⟨wo.heap.size, 9, none⟩ = some (.slice (some ⟨b2, off2, none⟩) 2 c') ∧ wx.cell? ⟨b2, off2 + j2 * 10, none⟩ = some (.int .i64 ky) ∧ wx.cell? ⟨b2, off2 + j2 * 10 + 1, none⟩ = some (.string oy) ∧ wx.cell? ⟨b2, off2 + j2 * 10 + 2, none⟩ = some (.int .i64 lky) ∧ wx.cell? ⟨b2, off2 + j2 * 10 + 3, none⟩ = some (.int .i64 lny) ∧ wx.cell? ⟨b2, off2 + j2 * 10 + 4, none⟩ = some (.float .f64 lfy) ∧ wx.cell? ⟨b2, off2 + j2 * 10 + 5, none⟩ = some (.string lsy) ∧ wx.cell? ⟨b2, off2 + j2 * 10 + 6, none⟩ = some (.int .i64 ay) ∧ wx.cell? ⟨b2, off2 + j2 * 10 + 7, none⟩ = some (.bool nty) ∧ wx.cell? ⟨b2, off2 + j2 * 10 + 8, none⟩ = some (.int .i64 tyy) ∧ wx.cell? ⟨b2, off2 + j2 * 10 + 9, none⟩ = some (.slice Ay ly.length cy))) (by kernel_rfl) (HSX.out _ (Below.refl _ _).drew) (fun hHeld => ?_)
                              (try dsimp only at hHeld)
                              refine wpAnyH_take (i := 0) (v := ?_) (List.getElem?_toArray.trans rfl) (by kernel_rfl) (by kernel_rfl) (by kernel_rfl) (fun _ _ _ h => h) (Or.inl ⟨by rfl, ?_⟩) hHeld ?_
                              rotate_left
                              · intro wx hSw
                                (try dsimp only at hSw)
                                go_simp
                                (try with_reducible rfl)
                              (try simp only [Act.put, List.setIfInBounds_toArray, List.set_cons_zero, List.set_cons_succ])
                              refine wpAnyH_take (i := 1) (v := ?_) (List.getElem?_toArray.trans rfl) (by kernel_rfl) (by kernel_rfl) (by kernel_rfl) (fun _ _ _ h => h) (Or.inl ⟨by rfl, ?_⟩) hHeld ?_
                              rotate_left
                              · intro wx hSw
                                (try dsimp only at hSw)
                                go_simp
                                (try with_reducible rfl)
                              (try simp only [Act.put, List.setIfInBounds_toArray, List.set_cons_zero, List.set_cons_succ])
                              refine wpAnyH_take (i := 2) (v := ?_) (List.getElem?_toArray.trans rfl) (by kernel_rfl) (by kernel_rfl) (by kernel_rfl) (fun _ _ _ h => h) (Or.inl ⟨by rfl, ?_⟩) hHeld ?_
                              rotate_left
                              · intro wx hSw
                                (try dsimp only at hSw)
                                go_simp
                                (try with_reducible rfl)
                              (try simp only [Act.put, List.setIfInBounds_toArray, List.set_cons_zero, List.set_cons_succ])
                              refine wpAnyH_take (i := 3) (v := ?_) (List.getElem?_toArray.trans rfl) (by kernel_rfl) (by kernel_rfl) (by kernel_rfl) (fun _ _ _ h => h) (Or.inl ⟨by rfl, ?_⟩) hHeld ?_
                              rotate_left
                              · intro wx hSw
                                (try dsimp only at hSw)
                                go_simp
                                (try with_reducible rfl)
                              (try simp only [Act.put, List.setIfInBounds_toArray, List.set_cons_zero, List.set_cons_succ])
                              refine wpAnyH_take (i := 4) (v := ?_) (List.getElem?_toArray.trans rfl) (by kernel_rfl) (by kernel_rfl) (by kernel_rfl) (fun _ _ _ h => h) (Or.inl ⟨by rfl, ?_⟩) hHeld ?_
                              rotate_left
                              · intro wx hSw
                                (try dsimp only at hSw)
                                go_simp
                                (try with_reducible rfl)
                              (try simp only [Act.put, List.setIfInBounds_toArray, List.set_cons_zero, List.set_cons_succ])
                              refine wpAnyH_take (i := 5) (v := ?_) (List.getElem?_toArray.trans rfl) (by kernel_rfl) (by kernel_rfl) (by kernel_rfl) (fun _ _ _ h => h) (Or.inl ⟨by rfl, ?_⟩) hHeld ?_
                              rotate_left
                              · intro wx hSw
                                (try dsimp only at hSw)
                                go_simp
                                (try with_reducible rfl)
                              (try simp only [Act.put, List.setIfInBounds_toArray, List.set_cons_zero, List.set_cons_succ])
                              refine wpAnyH_take (i := 6) (v := ?_) (List.getElem?_toArray.trans rfl) (by kernel_rfl) (by kernel_rfl) (by kernel_rfl) (fun _ _ _ h => h) (Or.inl ⟨by rfl, ?_⟩) hHeld ?_
                              rotate_left
                              · intro wx hSw
                                (try dsimp only at hSw)
                                go_simp
                                (try with_reducible rfl)
                              (try simp only [Act.put, List.setIfInBounds_toArray, List.set_cons_zero, List.set_cons_succ])
                              refine wpAnyH_take (i := 7) (v := ?_) (List.getElem?_toArray.trans rfl) (by kernel_rfl) (by kernel_rfl) (by kernel_rfl) (fun _ _ _ h => h) (Or.inl ⟨by rfl, ?_⟩) hHeld ?_
                              rotate_left
                              · intro wx hSw
                                (try dsimp only at hSw)
                                go_simp
                                (try with_reducible rfl)
                              (try simp only [Act.put, List.setIfInBounds_toArray, List.set_cons_zero, List.set_cons_succ])
                              refine wpAnyH_take (i := 8) (v := ?_) (List.getElem?_toArray.trans rfl) (by kernel_rfl) (by kernel_rfl) (by kernel_rfl) (fun _ _ _ h => h) (Or.inl ⟨by rfl, ?_⟩) hHeld ?_
                              rotate_left
                              · intro wx hSw
                                (try dsimp only at hSw)
                                go_simp
                                (try with_reducible rfl)
                              (try simp only [Act.put, List.setIfInBounds_toArray, List.set_cons_zero, List.set_cons_succ])
                              refine wpAnyH_take (i := 9) (v := ?_) (List.getElem?_toArray.trans rfl) (by kernel_rfl) (by kernel_rfl) (by kernel_rfl) (fun _ _ _ h => h) (Or.inl ⟨by rfl, ?_⟩) hHeld ?_
                              rotate_left
                              · intro wx hSw
                                (try dsimp only at hSw)
                                go_simp
                                (try with_reducible rfl)
                              (try simp only [Act.put, List.setIfInBounds_toArray, List.set_cons_zero, List.set_cons_succ])
                              refine wpAnyH_take (i := 10) (v := ?_) (List.getElem?_toArray.trans rfl) (by kernel_rfl) (by kernel_rfl) (by kernel_rfl) (fun _ _ _ h => h) (Or.inl ⟨by rfl, ?_⟩) hHeld ?_
                              rotate_left
                              · intro wx hSw
                                (try dsimp only at hSw)
                                go_simp
                                (try with_reducible rfl)
                              (try simp only [Act.put, List.setIfInBounds_toArray, List.set_cons_zero, List.set_cons_succ])
                              refine wpAnyH_take (i := 11) (v := ?_) (List.getElem?_toArray.trans rfl) (by kernel_rfl) (by kernel_rfl) (by kernel_rfl) (fun _ _ _ h => h) (Or.inl ⟨by rfl, ?_⟩) hHeld ?_
                              rotate_left
                              · intro wx hSw
                                (try dsimp only at hSw)
                                go_simp
                                (try with_reducible rfl)
                              (try simp only [Act.put, List.setIfInBounds_toArray, List.set_cons_zero, List.set_cons_succ])
                              refine wpAnyH_take (i := 12) (v := ?_) (List.getElem?_toArray.trans rfl) (by kernel_rfl) (by kernel_rfl) (by kernel_rfl) (fun _ _ _ h => h) (Or.inl ⟨by rfl, ?_⟩) hHeld ?_
                              rotate_left
                              · intro wx hSw
                                (try dsimp only at hSw)
                                go_simp
                                (try with_reducible rfl)
                              (try simp only [Act.put, List.setIfInBounds_toArray, List.set_cons_zero, List.set_cons_succ])
                              refine wpAnyH_take (i := 13) (v := ?_) (List.getElem?_toArray.trans rfl) (by kernel_rfl) (by kernel_rfl) (by kernel_rfl) (fun _ _ _ h => h) (Or.inl ⟨by rfl, ?_⟩) hHeld ?_
                              rotate_left
                              · intro wx hSw
                                (try dsimp only at hSw)
                                go_simp
                                (try with_reducible rfl)
                              (try simp only [Act.put, List.setIfInBounds_toArray, List.set_cons_zero, List.set_cons_succ])
                              refine wpAnyH_ready (rs := [14]) (by kernel_rfl) (by simp) ?_
                              refine AllReadyH.cons (List.getElem?_toArray.trans rfl) (fun K hK => ?_) AllReadyH.nil
                              go_simp
                              go_at_call 34
                              with_reducible refine Calls.mono (HOP4.out _ (below_on (HeldIn.below HH2.out) hHeld.1)) ?_
                              rintro e w3 ⟨rfl, rfl⟩
                              refine hK.out _ _ hHeld (fun _ => ?_)
                              clear hK K
                              (try simp only [Act.put, List.setIfInBounds_toArray, List.set_cons_zero, List.set_cons_succ])
                              refine wpAnyH_take (i := 15) (v := ?_) (List.getElem?_toArray.trans rfl) (by kernel_rfl) (by kernel_rfl) (by kernel_rfl) (fun _ _ _ h => h) (Or.inl ⟨by rfl, ?_⟩) hHeld ?_
                              rotate_left
                              · intro wx hSw
                                (try dsimp only at hSw)
                                go_simp
                                (try with_reducible rfl)
                              (try simp only [Act.put, List.setIfInBounds_toArray, List.set_cons_zero, List.set_cons_succ])
                              refine wpAnyH_take (i := 16) (v := ?_) (List.getElem?_toArray.trans rfl) (by kernel_rfl) (by kernel_rfl) (by kernel_rfl) (fun _ _ _ h => h) (Or.inl ⟨by rfl, ?_⟩) hHeld ?_
                              rotate_left
                              · intro wx hSw
                                (try dsimp only at hSw)
                                go_simp
                                (try with_reducible rfl)
                              (try simp only [Act.put, List.setIfInBounds_toArray, List.set_cons_zero, List.set_cons_succ])
                              refine wpAnyH_take (i := 17) (v := ?_) (List.getElem?_toArray.trans rfl) (by kernel_rfl) (by kernel_rfl) (by kernel_rfl) (fun _ _ _ h => h) (Or.inl ⟨by rfl, ?_⟩) hHeld ?_
                              rotate_left
                              · intro wx hSw
                                (try dsimp only at hSw)
                                go_simp
                                (try with_reducible rfl)
                              (try simp only [Act.put, List.setIfInBounds_toArray, List.set_cons_zero, List.set_cons_succ])
                              refine wpAnyH_take (i := 18) (v := ?_) (List.getElem?_toArray.trans rfl) (by kernel_rfl) (by kernel_rfl) (by kernel_rfl) (fun _ _ _ h => h) (Or.inl ⟨by rfl, ?_⟩) hHeld ?_
                              rotate_left
                              · intro wx hSw
                                (try dsimp only at hSw)
                                go_simp
                                (try with_reducible rfl)
                              (try simp only [Act.put, List.setIfInBounds_toArray, List.set_cons_zero, List.set_cons_succ])
                              refine wpAnyH_take (i := 19) (v := ?_) (List.getElem?_toArray.trans rfl) (by kernel_rfl) (by kernel_rfl) (by kernel_rfl) (fun _ _ _ h => h) (Or.inl ⟨by rfl, ?_⟩) hHeld ?_
                              rotate_left
                              · intro wx hSw
                                (try dsimp only at hSw)
                                go_simp
                                (try with_reducible rfl)
                              (try simp only [Act.put, List.setIfInBounds_toArray, List.set_cons_zero, List.set_cons_succ])
                              refine wpAnyH_take (i := 20) (v := ?_) (List.getElem?_toArray.trans rfl) (by kernel_rfl) (by kernel_rfl) (by kernel_rfl) (fun _ _ _ h => h) (Or.inl ⟨by rfl, ?_⟩) hHeld ?_
                              rotate_left
                              · intro wx hSw
                                (try dsimp only at hSw)
                                go_simp
                                (try with_reducible rfl)
                              (try simp only [Act.put, List.setIfInBounds_toArray, List.set_cons_zero, List.set_cons_succ])
                              refine wpAnyH_take (i := 21) (v := ?_) (List.getElem?_toArray.trans rfl) (by kernel_rfl) (by kernel_rfl) (by kernel_rfl) (fun _ _ _ h => h) (Or.inl ⟨by rfl, ?_⟩) hHeld ?_
                              rotate_left
                              · intro wx hSw
                                (try dsimp only at hSw)
                                go_simp
                                (try with_reducible rfl)
                              (try simp only [Act.put, List.setIfInBounds_toArray, List.set_cons_zero, List.set_cons_succ])
                              refine wpAnyH_take (i := 22) (v := ?_) (List.getElem?_toArray.trans rfl) (by kernel_rfl) (by kernel_rfl) (by kernel_rfl) (fun _ _ _ h => h) (Or.inl ⟨by rfl, ?_⟩) hHeld ?_
                              rotate_left
                              · intro wx hSw
                                (try dsimp only at hSw)
                                go_simp
                                (try with_reducible rfl)
                              (try simp only [Act.put, List.setIfInBounds_toArray, List.set_cons_zero, List.set_cons_succ])
                              refine wpAnyH_take (i := 23) (v := ?_) (List.getElem?_toArray.trans rfl) (by kernel_rfl) (by kernel_rfl) (by kernel_rfl) (fun _ _ _ h => h) (Or.inl ⟨by rfl, ?_⟩) hHeld ?_
                              rotate_left
                              · intro wx hSw
                                (try dsimp only at hSw)
                                go_simp
                                (try with_reducible rfl)
                              (try simp only [Act.put, List.setIfInBounds_toArray, List.set_cons_zero, List.set_cons_succ])
                              refine wpAnyH_take (i := 24) (v := ?_) (List.getElem?_toArray.trans rfl) (by kernel_rfl) (by kernel_rfl) (by kernel_rfl) (fun _ _ _ h => h) (Or.inl ⟨by rfl, ?_⟩) hHeld ?_
                              rotate_left
                              · intro wx hSw
                                (try dsimp only at hSw)
                                go_simp
                                (try with_reducible rfl)
                              (try simp only [Act.put, List.setIfInBounds_toArray, List.set_cons_zero, List.set_cons_succ])
                              refine wpAnyH_ready (rs := [25]) (by kernel_rfl) (by simp) ?_
                              refine AllReadyH.cons (List.getElem?_toArray.trans rfl) (fun K hK => ?_) AllReadyH.nil
                              go_simp
                              go_at_call 35
                              with_reducible refine Calls.mono (HRY.out _ (below_on (HeldIn.below HH2.out) hHeld.1)) ?_
                              rintro e w3 ⟨rfl, hB3⟩
                              have hHeld2 := HSX.out _ (hHeld.1.trans (hB3.mono hHeld.1.size))
                              refine hK.out _ _ hHeld2 (fun _ => ?_)
                              clear hK K hHeld hB3
                              have hHeld := hHeld2
                              clear hHeld2
                              (try simp only [Act.put, List.setIfInBounds_toArray, List.set_cons_zero, List.set_cons_succ])
                              refine wpAnyH_take (i := 26) (v := ?_) (List.getElem?_toArray.trans rfl) (by kernel_rfl) (by kernel_rfl) (by kernel_rfl) (fun _ _ _ h => h) (Or.inl ⟨by rfl, ?_⟩) hHeld ?_
                              rotate_left
                              · intro wx hSw
                                (try dsimp only at hSw)
                                go_simp
                                (try with_reducible rfl)
                              (try simp only [Act.put, List.setIfInBounds_toArray, List.set_cons_zero, List.set_cons_succ])
                              refine wpAnyH_take (i := 27) (v := ?_) (List.getElem?_toArray.trans rfl) (by kernel_rfl) (by kernel_rfl) (by kernel_rfl) (fun _ _ _ h => h) (Or.inl ⟨by rfl, ?_⟩) hHeld ?_
                              rotate_left
                              · intro wx hSw
                                (try dsimp only at hSw)
                                go_simp
                                (try with_reducible rfl)
                              (try simp only [Act.put, List.setIfInBounds_toArray, List.set_cons_zero, List.set_cons_succ])
                              refine wpAnyH_take (i := 28) (v := ?_) (List.getElem?_toArray.trans rfl) (by kernel_rfl) (by kernel_rfl) (by kernel_rfl) (fun _ _ _ h => h) (Or.inl ⟨by rfl, ?_⟩) hHeld ?_
                              rotate_left
                              · intro wx hSw
                                (try dsimp only at hSw)
                                go_simp
                                (try with_reducible rfl)
                              (try simp only [Act.put, List.setIfInBounds_toArray, List.set_cons_zero, List.set_cons_succ])
                              refine wpAnyH_take (i := 29) (v := ?_) (List.getElem?_toArray.trans rfl) (by kernel_rfl) (by kernel_rfl) (by kernel_rfl) (fun _ _ _ h => h) (Or.inl ⟨by rfl, ?_⟩) hHeld ?_
                              rotate_left
                              · intro wx hSw
                                (try dsimp only at hSw)
                                go_simp
                                (try with_reducible rfl)
                              (try simp only [Act.put, List.setIfInBounds_toArray, List.set_cons_zero, List.set_cons_succ])
                              refine wpAnyH_take (i := 30) (v := ?_) (List.getElem?_toArray.trans rfl) (by kernel_rfl) (by kernel_rfl) (by kernel_rfl) (fun _ _ _ h => h) (Or.inl ⟨by rfl, ?_⟩) hHeld ?_
                              rotate_left
                              · intro wx hSw
                                (try dsimp only at hSw)
                                go_simp
                                (try with_reducible rfl)
                              (try simp only [Act.put, List.setIfInBounds_toArray, List.set_cons_zero, List.set_cons_succ])
                              refine wpAnyH_ready (rs := [31]) (by kernel_rfl) (by simp) ?_
                              refine AllReadyH.cons (List.getElem?_toArray.trans rfl) (fun K hK => ?_) AllReadyH.nil
                              go_simp
                              go_at_call 36
                              with_reducible refine Calls.mono (HIN.out _ hHeld.1) ?_
                              rintro e w3 ⟨rfl, rfl⟩
                              refine hK.out _ _ hHeld (fun _ => ?_)
                              clear hK K
                              (try simp only [Act.put, List.setIfInBounds_toArray, List.set_cons_zero, List.set_cons_succ])
                              refine wpAnyH_take (i := 32) (v := ?_) (List.getElem?_toArray.trans rfl) (by kernel_rfl) (by kernel_rfl) (by kernel_rfl) (fun _ _ _ h => h) (Or.inl ⟨by rfl, ?_⟩) hHeld ?_
                              rotate_left
                              · intro wx hSw
                                (try dsimp only at hSw)
                                go_simp
                                (try with_reducible rfl)
                              (try simp only [Act.put, List.setIfInBounds_toArray, List.set_cons_zero, List.set_cons_succ])
                              refine wpAnyH_take (i := 33) (v := ?_) (List.getElem?_toArray.trans rfl) (by kernel_rfl) (by kernel_rfl) (by kernel_rfl) (fun _ _ _ h => h) (Or.inl ⟨by rfl, ?_⟩) hHeld ?_
                              rotate_left
                              · intro wx hSw
                                (try dsimp only at hSw)
                                go_simp
                                (try with_reducible rfl)
                              (try simp only [Act.put, List.setIfInBounds_toArray, List.set_cons_zero, List.set_cons_succ])
                              refine wpAnyH_done (by kernel_rfl) ?_ _
                              go_wp2_with fail
                              go_roundw
                              case rel => exact ⟨j + 1, by omega, by go_num, by rw [HQ2.out]; exact HH2.out.call hHeld.1, HN2.out.keep hHeld.1, HBO.out⟩
                              case measure => simp [intOf] <;> omega
                            | false =>
                              rw [h6] at HIN
                              have HQ2 := Lib.hid (show outJ (j + 1) = cj ++ [cl] by rw [HQ1.out]; unfold onceR; rw [h6]; rfl)
                              clear h6
                              have H47 := Lib.hid (show cj.length + 1 ≤ maxLen ∧ (cj.length + 1) * 8 ≤ 140737488355328 by unfold maxLen; omega)
                              refine wp_region_held_drew (S := (fun wx => Below w2.heap.size w2 wx ∧ wx.cell? ⟨wi.heap.size, 0, none⟩ = some (.int .i64 2) ∧ wx.cell? ⟨w.heap.size, 0, none⟩ = some (.slice tA tabs.length tc) ∧ wx.cell? ⟨w.heap.size, 1, none⟩ = some (.slice bA beg.length bc) ∧ wx.cell? ⟨w.heap.size, 2, none⟩ = some (.int .i64 width) ∧ wx.cell? ⟨w.heap.size, 3, none⟩ = some (.slice (some ⟨b, off, none⟩) wh.length wc) ∧ wx.cell? ⟨w.heap.size, 4, none⟩ = some (.slice gA gn gc) ∧ wx.cell? ⟨w.heap.size, 5, none⟩ = some (.bool grouped) ∧ wx.cell? ⟨w.heap.size, 6, none⟩ = some (.slice iA i_n ic) ∧ wx.cell? ⟨w.heap.size, 7, none⟩ = some (.slice oA ord.length oc) ∧ wx.cell? ⟨w.heap.size, 8, none⟩ = some (.int .i64 limit) ∧ wx.cell? ⟨wo.heap.size, 9, none⟩ = some (.slice (some ⟨b2, off2, none⟩) 2 c') ∧ wx.cell? ⟨b2, off2 + j2 * 10, none⟩ = some (.int .i64 ky) ∧ wx.cell? ⟨b2, off2 + j2 * 10 + 1, none⟩ = some (.string oy) ∧ wx.cell? ⟨b2, off2 + j2 * 10 + 2, none⟩ = some (.int .i64 lky) ∧ wx.cell? ⟨b2, off2 + j2 * 10 + 3, none⟩ = some (.int .i64 lny) ∧ wx.cell? ⟨b2, off2 + j2 * 10 + 4, none⟩ = some (.float .f64 lfy) ∧ wx.cell? ⟨b2, off2 + j2 * 10 + 5, none⟩ = some (.string lsy) ∧ wx.cell? ⟨b2, off2 + j2 * 10 + 6, none⟩ = some (.int .i64 ay) ∧ wx.cell? ⟨b2, off2 + j2 * 10 + 7, none⟩ = some (.bool nty) ∧ wx.cell? ⟨b2, off2 + j2 * 10 + 8, none⟩ = some (.int .i64 tyy) ∧ wx.cell? ⟨b2, off2 + j2 * 10 + 9, none⟩ = some (.slice Ay ly.length cy))) (by kernel_rfl) (HSX.out _ (Below.refl _ _).drew) (fun hHeld => ?_)
                              (try dsimp only at hHeld)
                              refine wpAnyH_take (i := 0) (v := ?_) (List.getElem?_toArray.trans rfl) (by kernel_rfl) (by kernel_rfl) (by kernel_rfl) (fun _ _ _ h => h) (Or.inl ⟨by rfl, ?_⟩) hHeld ?_
                              rotate_left
                              · intro wx hSw
                                (try dsimp only at hSw)
                                go_simp
                                (try with_reducible rfl)
                              (try simp only [Act.put, List.setIfInBounds_toArray, List.set_cons_zero, List.set_cons_succ])
                              refine wpAnyH_take (i := 1) (v := ?_) (List.getElem?_toArray.trans rfl) (by kernel_rfl) (by kernel_rfl) (by kernel_rfl) (fun _ _ _ h => h) (Or.inl ⟨by rfl, ?_⟩) hHeld ?_
                              rotate_left
                              · intro wx hSw
                                (try dsimp only at hSw)
                                go_simp
                                (try with_reducible rfl)
                              (try simp only [Act.put, List.setIfInBounds_toArray, List.set_cons_zero, List.set_cons_succ])
                              refine wpAnyH_take (i := 2) (v := ?_) (List.getElem?_toArray.trans rfl) (by kernel_rfl) (by kernel_rfl) (by kernel_rfl) (fun _ _ _ h => h) (Or.inl ⟨by rfl, ?_⟩) hHeld ?_
                              rotate_left
                              · intro wx hSw
                                (try dsimp only at hSw)
                                go_simp
                                (try with_reducible rfl)
                              (try simp only [Act.put, List.setIfInBounds_toArray, List.set_cons_zero, List.set_cons_succ])
                              refine wpAnyH_take (i := 3) (v := ?_) (List.getElem?_toArray.trans rfl) (by kernel_rfl) (by kernel_rfl) (by kernel_rfl) (fun _ _ _ h => h) (Or.inl ⟨by rfl, ?_⟩) hHeld ?_
                              rotate_left
                              · intro wx hSw
                                (try dsimp only at hSw)
                                go_simp
                                (try with_reducible rfl)
                              (try simp only [Act.put, List.setIfInBounds_toArray, List.set_cons_zero, List.set_cons_succ])
                              refine wpAnyH_take (i := 4) (v := ?_) (List.getElem?_toArray.trans rfl) (by kernel_rfl) (by kernel_rfl) (by kernel_rfl) (fun _ _ _ h => h) (Or.inl ⟨by rfl, ?_⟩) hHeld ?_
                              rotate_left
                              · intro wx hSw
                                (try dsimp only at hSw)
                                go_simp
                                (try with_reducible rfl)
                              (try simp only [Act.put, List.setIfInBounds_toArray, List.set_cons_zero, List.set_cons_succ])
                              refine wpAnyH_take (i := 5) (v := ?_) (List.getElem?_toArray.trans rfl) (by kernel_rfl) (by kernel_rfl) (by kernel_rfl) (fun _ _ _ h => h) (Or.inl ⟨by rfl, ?_⟩) hHeld ?_
                              rotate_left
                              · intro wx hSw
                                (try dsimp only at hSw)
                                go_simp
                                (try with_reducible rfl)
                              (try simp only [Act.put, List.setIfInBounds_toArray, List.set_cons_zero, List.set_cons_succ])
                              refine wpAnyH_take (i := 6) (v := ?_) (List.getElem?_toArray.trans rfl) (by kernel_rfl) (by kernel_rfl) (by kernel_rfl) (fun _ _ _ h => h) (Or.inl ⟨by rfl, ?_⟩) hHeld ?_
                              rotate_left
                              · intro wx hSw
                                (try dsimp only at hSw)
                                go_simp
                                (try with_reducible rfl)
                              (try simp only [Act.put, List.setIfInBounds_toArray, List.set_cons_zero, List.set_cons_succ])
                              refine wpAnyH_take (i := 7) (v := ?_) (List.getElem?_toArray.trans rfl) (by kernel_rfl) (by kernel_rfl) (by kernel_rfl) (fun _ _ _ h => h) (Or.inl ⟨by rfl, ?_⟩) hHeld ?_
                              rotate_left
                              · intro wx hSw
                                (try dsimp only at hSw)
                                go_simp
                                (try with_reducible rfl)
                              (try simp only [Act.put, List.setIfInBounds_toArray, List.set_cons_zero, List.set_cons_succ])
                              refine wpAnyH_take (i := 8) (v := ?_) (List.getElem?_toArray.trans rfl) (by kernel_rfl) (by kernel_rfl) (by kernel_rfl) (fun _ _ _ h => h) (Or.inl ⟨by rfl, ?_⟩) hHeld ?_
                              rotate_left
                              · intro wx hSw
                                (try dsimp only at hSw)
                                go_simp
                                (try with_reducible rfl)
                              (try simp only [Act.put, List.setIfInBounds_toArray, List.set_cons_zero, List.set_cons_succ])
                              refine wpAnyH_take (i := 9) (v := ?_) (List.getElem?_toArray.trans rfl) (by kernel_rfl) (by kernel_rfl) (by kernel_rfl) (fun _ _ _ h => h) (Or.inl ⟨by rfl, ?_⟩) hHeld ?_
                              rotate_left
                              · intro wx hSw
                                (try dsimp only at hSw)
                                go_simp
                                (try with_reducible rfl)
                              (try simp only [Act.put, List.setIfInBounds_toArray, List.set_cons_zero, List.set_cons_succ])
                              refine wpAnyH_take (i := 10) (v := ?_) (List.getElem?_toArray.trans rfl) (by kernel_rfl) (by kernel_rfl) (by kernel_rfl) (fun _ _ _ h => h) (Or.inl ⟨by rfl, ?_⟩) hHeld ?_
                              rotate_left
                              · intro wx hSw
                                (try dsimp only at hSw)
                                go_simp
                                (try with_reducible rfl)
                              (try simp only [Act.put, List.setIfInBounds_toArray, List.set_cons_zero, List.set_cons_succ])
                              refine wpAnyH_take (i := 11) (v := ?_) (List.getElem?_toArray.trans rfl) (by kernel_rfl) (by kernel_rfl) (by kernel_rfl) (fun _ _ _ h => h) (Or.inl ⟨by rfl, ?_⟩) hHeld ?_
                              rotate_left
                              · intro wx hSw
                                (try dsimp only at hSw)
                                go_simp
                                (try with_reducible rfl)
                              (try simp only [Act.put, List.setIfInBounds_toArray, List.set_cons_zero, List.set_cons_succ])
                              refine wpAnyH_take (i := 12) (v := ?_) (List.getElem?_toArray.trans rfl) (by kernel_rfl) (by kernel_rfl) (by kernel_rfl) (fun _ _ _ h => h) (Or.inl ⟨by rfl, ?_⟩) hHeld ?_
                              rotate_left
                              · intro wx hSw
                                (try dsimp only at hSw)
                                go_simp
                                (try with_reducible rfl)
                              (try simp only [Act.put, List.setIfInBounds_toArray, List.set_cons_zero, List.set_cons_succ])
                              refine wpAnyH_take (i := 13) (v := ?_) (List.getElem?_toArray.trans rfl) (by kernel_rfl) (by kernel_rfl) (by kernel_rfl) (fun _ _ _ h => h) (Or.inl ⟨by rfl, ?_⟩) hHeld ?_
                              rotate_left
                              · intro wx hSw
                                (try dsimp only at hSw)
                                go_simp
                                (try with_reducible rfl)
                              (try simp only [Act.put, List.setIfInBounds_toArray, List.set_cons_zero, List.set_cons_succ])
                              refine wpAnyH_ready (rs := [14]) (by kernel_rfl) (by simp) ?_
                              refine AllReadyH.cons (List.getElem?_toArray.trans rfl) (fun K hK => ?_) AllReadyH.nil
                              go_simp
                              go_at_call 34
                              with_reducible refine Calls.mono (HOP4.out _ (below_on (HeldIn.below HH2.out) hHeld.1)) ?_
                              rintro e w3 ⟨rfl, rfl⟩
                              refine hK.out _ _ hHeld (fun _ => ?_)
                              clear hK K
                              (try simp only [Act.put, List.setIfInBounds_toArray, List.set_cons_zero, List.set_cons_succ])
                              refine wpAnyH_take (i := 15) (v := ?_) (List.getElem?_toArray.trans rfl) (by kernel_rfl) (by kernel_rfl) (by kernel_rfl) (fun _ _ _ h => h) (Or.inl ⟨by rfl, ?_⟩) hHeld ?_
                              rotate_left
                              · intro wx hSw
                                (try dsimp only at hSw)
                                go_simp
                                (try with_reducible rfl)
                              (try simp only [Act.put, List.setIfInBounds_toArray, List.set_cons_zero, List.set_cons_succ])
                              refine wpAnyH_take (i := 16) (v := ?_) (List.getElem?_toArray.trans rfl) (by kernel_rfl) (by kernel_rfl) (by kernel_rfl) (fun _ _ _ h => h) (Or.inl ⟨by rfl, ?_⟩) hHeld ?_
                              rotate_left
                              · intro wx hSw
                                (try dsimp only at hSw)
                                go_simp
                                (try with_reducible rfl)
                              (try simp only [Act.put, List.setIfInBounds_toArray, List.set_cons_zero, List.set_cons_succ])
                              refine wpAnyH_take (i := 17) (v := ?_) (List.getElem?_toArray.trans rfl) (by kernel_rfl) (by kernel_rfl) (by kernel_rfl) (fun _ _ _ h => h) (Or.inl ⟨by rfl, ?_⟩) hHeld ?_
                              rotate_left
                              · intro wx hSw
                                (try dsimp only at hSw)
                                go_simp
                                (try with_reducible rfl)
                              (try simp only [Act.put, List.setIfInBounds_toArray, List.set_cons_zero, List.set_cons_succ])
                              refine wpAnyH_take (i := 18) (v := ?_) (List.getElem?_toArray.trans rfl) (by kernel_rfl) (by kernel_rfl) (by kernel_rfl) (fun _ _ _ h => h) (Or.inl ⟨by rfl, ?_⟩) hHeld ?_
                              rotate_left
                              · intro wx hSw
                                (try dsimp only at hSw)
                                go_simp
                                (try with_reducible rfl)
                              (try simp only [Act.put, List.setIfInBounds_toArray, List.set_cons_zero, List.set_cons_succ])
                              refine wpAnyH_take (i := 19) (v := ?_) (List.getElem?_toArray.trans rfl) (by kernel_rfl) (by kernel_rfl) (by kernel_rfl) (fun _ _ _ h => h) (Or.inl ⟨by rfl, ?_⟩) hHeld ?_
                              rotate_left
                              · intro wx hSw
                                (try dsimp only at hSw)
                                go_simp
                                (try with_reducible rfl)
                              (try simp only [Act.put, List.setIfInBounds_toArray, List.set_cons_zero, List.set_cons_succ])
                              refine wpAnyH_take (i := 20) (v := ?_) (List.getElem?_toArray.trans rfl) (by kernel_rfl) (by kernel_rfl) (by kernel_rfl) (fun _ _ _ h => h) (Or.inl ⟨by rfl, ?_⟩) hHeld ?_
                              rotate_left
                              · intro wx hSw
                                (try dsimp only at hSw)
                                go_simp
                                (try with_reducible rfl)
                              (try simp only [Act.put, List.setIfInBounds_toArray, List.set_cons_zero, List.set_cons_succ])
                              refine wpAnyH_take (i := 21) (v := ?_) (List.getElem?_toArray.trans rfl) (by kernel_rfl) (by kernel_rfl) (by kernel_rfl) (fun _ _ _ h => h) (Or.inl ⟨by rfl, ?_⟩) hHeld ?_
                              rotate_left
                              · intro wx hSw
                                (try dsimp only at hSw)
                                go_simp
                                (try with_reducible rfl)
                              (try simp only [Act.put, List.setIfInBounds_toArray, List.set_cons_zero, List.set_cons_succ])
                              refine wpAnyH_take (i := 22) (v := ?_) (List.getElem?_toArray.trans rfl) (by kernel_rfl) (by kernel_rfl) (by kernel_rfl) (fun _ _ _ h => h) (Or.inl ⟨by rfl, ?_⟩) hHeld ?_
                              rotate_left
                              · intro wx hSw
                                (try dsimp only at hSw)
                                go_simp
                                (try with_reducible rfl)
                              (try simp only [Act.put, List.setIfInBounds_toArray, List.set_cons_zero, List.set_cons_succ])
                              refine wpAnyH_take (i := 23) (v := ?_) (List.getElem?_toArray.trans rfl) (by kernel_rfl) (by kernel_rfl) (by kernel_rfl) (fun _ _ _ h => h) (Or.inl ⟨by rfl, ?_⟩) hHeld ?_
                              rotate_left
                              · intro wx hSw
                                (try dsimp only at hSw)
                                go_simp
                                (try with_reducible rfl)
                              (try simp only [Act.put, List.setIfInBounds_toArray, List.set_cons_zero, List.set_cons_succ])
                              refine wpAnyH_take (i := 24) (v := ?_) (List.getElem?_toArray.trans rfl) (by kernel_rfl) (by kernel_rfl) (by kernel_rfl) (fun _ _ _ h => h) (Or.inl ⟨by rfl, ?_⟩) hHeld ?_
                              rotate_left
                              · intro wx hSw
                                (try dsimp only at hSw)
                                go_simp
                                (try with_reducible rfl)
                              (try simp only [Act.put, List.setIfInBounds_toArray, List.set_cons_zero, List.set_cons_succ])
                              refine wpAnyH_ready (rs := [25]) (by kernel_rfl) (by simp) ?_
                              refine AllReadyH.cons (List.getElem?_toArray.trans rfl) (fun K hK => ?_) AllReadyH.nil
                              go_simp
                              go_at_call 35
                              with_reducible refine Calls.mono (HRY.out _ (below_on (HeldIn.below HH2.out) hHeld.1)) ?_
                              rintro e w3 ⟨rfl, hB3⟩
                              have hHeld2 := HSX.out _ (hHeld.1.trans (hB3.mono hHeld.1.size))
                              refine hK.out _ _ hHeld2 (fun _ => ?_)
                              clear hK K hHeld hB3
                              have hHeld := hHeld2
                              clear hHeld2
                              (try simp only [Act.put, List.setIfInBounds_toArray, List.set_cons_zero, List.set_cons_succ])
                              refine wpAnyH_take (i := 26) (v := ?_) (List.getElem?_toArray.trans rfl) (by kernel_rfl) (by kernel_rfl) (by kernel_rfl) (fun _ _ _ h => h) (Or.inl ⟨by rfl, ?_⟩) hHeld ?_
                              rotate_left
                              · intro wx hSw
                                (try dsimp only at hSw)
                                go_simp
                                (try with_reducible rfl)
                              (try simp only [Act.put, List.setIfInBounds_toArray, List.set_cons_zero, List.set_cons_succ])
                              refine wpAnyH_take (i := 27) (v := ?_) (List.getElem?_toArray.trans rfl) (by kernel_rfl) (by kernel_rfl) (by kernel_rfl) (fun _ _ _ h => h) (Or.inl ⟨by rfl, ?_⟩) hHeld ?_
                              rotate_left
                              · intro wx hSw
                                (try dsimp only at hSw)
                                go_simp
                                (try with_reducible rfl)
                              (try simp only [Act.put, List.setIfInBounds_toArray, List.set_cons_zero, List.set_cons_succ])
                              refine wpAnyH_take (i := 28) (v := ?_) (List.getElem?_toArray.trans rfl) (by kernel_rfl) (by kernel_rfl) (by kernel_rfl) (fun _ _ _ h => h) (Or.inl ⟨by rfl, ?_⟩) hHeld ?_
                              rotate_left
                              · intro wx hSw
                                (try dsimp only at hSw)
                                go_simp
                                (try with_reducible rfl)
                              (try simp only [Act.put, List.setIfInBounds_toArray, List.set_cons_zero, List.set_cons_succ])
                              refine wpAnyH_take (i := 29) (v := ?_) (List.getElem?_toArray.trans rfl) (by kernel_rfl) (by kernel_rfl) (by kernel_rfl) (fun _ _ _ h => h) (Or.inl ⟨by rfl, ?_⟩) hHeld ?_
                              rotate_left
                              · intro wx hSw
                                (try dsimp only at hSw)
                                go_simp
                                (try with_reducible rfl)
                              (try simp only [Act.put, List.setIfInBounds_toArray, List.set_cons_zero, List.set_cons_succ])
                              refine wpAnyH_take (i := 30) (v := ?_) (List.getElem?_toArray.trans rfl) (by kernel_rfl) (by kernel_rfl) (by kernel_rfl) (fun _ _ _ h => h) (Or.inl ⟨by rfl, ?_⟩) hHeld ?_
                              rotate_left
                              · intro wx hSw
                                (try dsimp only at hSw)
                                go_simp
                                (try with_reducible rfl)
                              (try simp only [Act.put, List.setIfInBounds_toArray, List.set_cons_zero, List.set_cons_succ])
                              refine wpAnyH_ready (rs := [31]) (by kernel_rfl) (by simp) ?_
                              refine AllReadyH.cons (List.getElem?_toArray.trans rfl) (fun K hK => ?_) AllReadyH.nil
                              go_simp
                              go_at_call 36
                              with_reducible refine Calls.mono (HIN.out _ hHeld.1) ?_
                              rintro e w3 ⟨rfl, rfl⟩
                              refine hK.out _ _ hHeld (fun _ => ?_)
                              clear hK K
                              (try simp only [Act.put, List.setIfInBounds_toArray, List.set_cons_zero, List.set_cons_succ])
                              refine wpAnyH_take (i := 32) (v := ?_) (List.getElem?_toArray.trans rfl) (by kernel_rfl) (by kernel_rfl) (by kernel_rfl) (fun _ _ _ h => h) (Or.inl ⟨by rfl, ?_⟩) hHeld ?_
                              rotate_left
                              · intro wx hSw
                                (try dsimp only at hSw)
                                go_simp
                                (try with_reducible rfl)
                              (try simp only [Act.put, List.setIfInBounds_toArray, List.set_cons_zero, List.set_cons_succ])
                              refine wpAnyH_take (i := 33) (v := ?_) (List.getElem?_toArray.trans rfl) (by kernel_rfl) (by kernel_rfl) (by kernel_rfl) (fun _ _ _ h => h) (Or.inl ⟨by rfl, ?_⟩) hHeld ?_
                              rotate_left
                              · intro wx hSw
                                (try dsimp only at hSw)
                                go_simp
                                (try with_reducible rfl)
                              (try simp only [Act.put, List.setIfInBounds_toArray, List.set_cons_zero, List.set_cons_succ])
                              refine wpAnyH_done (by kernel_rfl) ?_ _
                              have HH3 := Lib.hid (HH2.out.call hHeld.1)
                              have HN3 := Lib.hid (HN2.out.keep hHeld.1)
                              go_wp2_with (first
                                | (at_builtin
                                   refine list_append _ (by rfl) (.tmp 88) (.tmp 90) 22 (by rfl) (w.heap.size + 1) 3 i0 (.int .i64 0) 8 Try.underlying22 hi0 hz0 hz1 hz2 (by rfl) (.slice A1 cj.length c1) cj.length (intsV cj) (by rfl) (HH3.out.alloc _).2.2
                                     (w3.heap.size + 1) _ 1 1 [.int .i64 cl] (by rfl) (Src.new w3 _ _) ?_ ?_ ?_ ?_ ?_
                                   · intro u hu; obtain rfl := List.mem_singleton.1 hu; rfl
                                   · exact H47.out.1
                                   · exact H47.out.2
                                   · have := heap_lt HH3.out.2.1; simp; omega
                                   intro v1 w4 hown1 hg1 hat1
                                   have HH4 := Lib.hid (HH3.out.app hg1 hown1)
                                   have HN4 := Lib.hid (box_grown HN3.out hg1 HBO.out)
                                   have HE4 := Lib.hid (own_next HN3.out hat1 HBO.out)
                                   clear hat1 hg1 hown1)
                                | fail)
                              go_roundw
                              case rel => exact ⟨j + 1, by omega, by go_num, by rw [HQ2.out]; exact HH4.out, HN4.out, HE4.out⟩
                              case measure => simp [intOf] <;> omega
                      · have hne : ((f0 : Int) == (f : Int)) = false := by simp; omega
                        have HQ2 := Lib.hid (show outJ (j + 1) = cj by rw [HE.out, HS1.out, if_neg]; rw [HT1.out]; show ¬ ((2 : Int) == 2 && (decide (tabR _ ax = some f) && _)) = true; rw [HTB.out, decide_eq_false (by simpa using hff)]; simp)
                        clear hff
                        refine wp_region_held_drew (S := (fun wx => Below w2.heap.size w2 wx ∧ wx.cell? ⟨wi.heap.size, 0, none⟩ = some (.int .i64 2) ∧ wx.cell? ⟨w.heap.size, 0, none⟩ = some (.slice tA tabs.length tc) ∧ wx.cell? ⟨w.heap.size, 1, none⟩ = some (.slice bA beg.length bc) ∧ wx.cell? ⟨w.heap.size, 2, none⟩ = some (.int .i64 width) ∧ wx.cell? ⟨w.heap.size, 3, none⟩ = some (.slice (some ⟨b, off, none⟩) wh.length wc) ∧ wx.cell? ⟨w.heap.size, 4, none⟩ = some (.slice gA gn gc) ∧ wx.cell? ⟨w.heap.size, 5, none⟩ = some (.bool grouped) ∧ wx.cell? ⟨w.heap.size, 6, none⟩ = some (.slice iA i_n ic) ∧ wx.cell? ⟨w.heap.size, 7, none⟩ = some (.slice oA ord.length oc) ∧ wx.cell? ⟨w.heap.size, 8, none⟩ = some (.int .i64 limit) ∧ wx.cell? ⟨wo.heap.size, 9, none⟩ = some (.slice (some ⟨b2, off2, none⟩) 2 c') ∧ wx.cell? ⟨b2, off2 + j2 * 10, none⟩ = some (.int .i64 ky) ∧ wx.cell? ⟨b2, off2 + j2 * 10 + 1, none⟩ = some (.string oy) ∧ wx.cell? ⟨b2, off2 + j2 * 10 + 2, none⟩ = some (.int .i64 lky) ∧ wx.cell? ⟨b2, off2 + j2 * 10 + 3, none⟩ = some (.int .i64 lny) ∧ wx.cell? ⟨b2, off2 + j2 * 10 + 4, none⟩ = some (.float .f64 lfy) ∧ wx.cell? ⟨b2, off2 + j2 * 10 + 5, none⟩ = some (.string lsy) ∧ wx.cell? ⟨b2, off2 + j2 * 10 + 6, none⟩ = some (.int .i64 ay) ∧ wx.cell? ⟨b2, off2 + j2 * 10 + 7, none⟩ = some (.bool nty) ∧ wx.cell? ⟨b2, off2 + j2 * 10 + 8, none⟩ = some (.int .i64 tyy) ∧ wx.cell? ⟨b2, off2 + j2 * 10 + 9, none⟩ = some (.slice Ay ly.length cy))) (by kernel_rfl) (HSX.out _ (Below.refl _ _).drew) (fun hHeld => ?_)
                        (try dsimp only at hHeld)
                        refine wpAnyH_take (i := 0) (v := ?_) (List.getElem?_toArray.trans rfl) (by kernel_rfl) (by kernel_rfl) (by kernel_rfl) (fun _ _ _ h => h) (Or.inl ⟨by rfl, ?_⟩) hHeld ?_
                        rotate_left
                        · intro wx hSw
                          (try dsimp only at hSw)
                          go_simp
                          (try with_reducible rfl)
                        (try simp only [Act.put, List.setIfInBounds_toArray, List.set_cons_zero, List.set_cons_succ])
                        refine wpAnyH_take (i := 1) (v := ?_) (List.getElem?_toArray.trans rfl) (by kernel_rfl) (by kernel_rfl) (by kernel_rfl) (fun _ _ _ h => h) (Or.inl ⟨by rfl, ?_⟩) hHeld ?_
                        rotate_left
                        · intro wx hSw
                          (try dsimp only at hSw)
                          go_simp
                          (try with_reducible rfl)
                        (try simp only [Act.put, List.setIfInBounds_toArray, List.set_cons_zero, List.set_cons_succ])
                        refine wpAnyH_take (i := 2) (v := ?_) (List.getElem?_toArray.trans rfl) (by kernel_rfl) (by kernel_rfl) (by kernel_rfl) (fun _ _ _ h => h) (Or.inl ⟨by rfl, ?_⟩) hHeld ?_
                        rotate_left
                        · intro wx hSw
                          (try dsimp only at hSw)
                          go_simp
                          (try with_reducible rfl)
                        (try simp only [Act.put, List.setIfInBounds_toArray, List.set_cons_zero, List.set_cons_succ])
                        refine wpAnyH_take (i := 3) (v := ?_) (List.getElem?_toArray.trans rfl) (by kernel_rfl) (by kernel_rfl) (by kernel_rfl) (fun _ _ _ h => h) (Or.inl ⟨by rfl, ?_⟩) hHeld ?_
                        rotate_left
                        · intro wx hSw
                          (try dsimp only at hSw)
                          go_simp
                          (try with_reducible rfl)
                        (try simp only [Act.put, List.setIfInBounds_toArray, List.set_cons_zero, List.set_cons_succ])
                        refine wpAnyH_take (i := 4) (v := ?_) (List.getElem?_toArray.trans rfl) (by kernel_rfl) (by kernel_rfl) (by kernel_rfl) (fun _ _ _ h => h) (Or.inl ⟨by rfl, ?_⟩) hHeld ?_
                        rotate_left
                        · intro wx hSw
                          (try dsimp only at hSw)
                          go_simp
                          (try with_reducible rfl)
                        (try simp only [Act.put, List.setIfInBounds_toArray, List.set_cons_zero, List.set_cons_succ])
                        refine wpAnyH_take (i := 5) (v := ?_) (List.getElem?_toArray.trans rfl) (by kernel_rfl) (by kernel_rfl) (by kernel_rfl) (fun _ _ _ h => h) (Or.inl ⟨by rfl, ?_⟩) hHeld ?_
                        rotate_left
                        · intro wx hSw
                          (try dsimp only at hSw)
                          go_simp
                          (try with_reducible rfl)
                        (try simp only [Act.put, List.setIfInBounds_toArray, List.set_cons_zero, List.set_cons_succ])
                        refine wpAnyH_take (i := 6) (v := ?_) (List.getElem?_toArray.trans rfl) (by kernel_rfl) (by kernel_rfl) (by kernel_rfl) (fun _ _ _ h => h) (Or.inl ⟨by rfl, ?_⟩) hHeld ?_
                        rotate_left
                        · intro wx hSw
                          (try dsimp only at hSw)
                          go_simp
                          (try with_reducible rfl)
                        (try simp only [Act.put, List.setIfInBounds_toArray, List.set_cons_zero, List.set_cons_succ])
                        refine wpAnyH_take (i := 7) (v := ?_) (List.getElem?_toArray.trans rfl) (by kernel_rfl) (by kernel_rfl) (by kernel_rfl) (fun _ _ _ h => h) (Or.inl ⟨by rfl, ?_⟩) hHeld ?_
                        rotate_left
                        · intro wx hSw
                          (try dsimp only at hSw)
                          go_simp
                          (try with_reducible rfl)
                        (try simp only [Act.put, List.setIfInBounds_toArray, List.set_cons_zero, List.set_cons_succ])
                        refine wpAnyH_take (i := 8) (v := ?_) (List.getElem?_toArray.trans rfl) (by kernel_rfl) (by kernel_rfl) (by kernel_rfl) (fun _ _ _ h => h) (Or.inl ⟨by rfl, ?_⟩) hHeld ?_
                        rotate_left
                        · intro wx hSw
                          (try dsimp only at hSw)
                          go_simp
                          (try with_reducible rfl)
                        (try simp only [Act.put, List.setIfInBounds_toArray, List.set_cons_zero, List.set_cons_succ])
                        refine wpAnyH_take (i := 9) (v := ?_) (List.getElem?_toArray.trans rfl) (by kernel_rfl) (by kernel_rfl) (by kernel_rfl) (fun _ _ _ h => h) (Or.inl ⟨by rfl, ?_⟩) hHeld ?_
                        rotate_left
                        · intro wx hSw
                          (try dsimp only at hSw)
                          go_simp
                          (try with_reducible rfl)
                        (try simp only [Act.put, List.setIfInBounds_toArray, List.set_cons_zero, List.set_cons_succ])
                        refine wpAnyH_take (i := 10) (v := ?_) (List.getElem?_toArray.trans rfl) (by kernel_rfl) (by kernel_rfl) (by kernel_rfl) (fun _ _ _ h => h) (Or.inl ⟨by rfl, ?_⟩) hHeld ?_
                        rotate_left
                        · intro wx hSw
                          (try dsimp only at hSw)
                          go_simp
                          (try with_reducible rfl)
                        (try simp only [Act.put, List.setIfInBounds_toArray, List.set_cons_zero, List.set_cons_succ])
                        refine wpAnyH_take (i := 11) (v := ?_) (List.getElem?_toArray.trans rfl) (by kernel_rfl) (by kernel_rfl) (by kernel_rfl) (fun _ _ _ h => h) (Or.inl ⟨by rfl, ?_⟩) hHeld ?_
                        rotate_left
                        · intro wx hSw
                          (try dsimp only at hSw)
                          go_simp
                          (try with_reducible rfl)
                        (try simp only [Act.put, List.setIfInBounds_toArray, List.set_cons_zero, List.set_cons_succ])
                        refine wpAnyH_take (i := 12) (List.getElem?_toArray.trans rfl) (by kernel_rfl) (by kernel_rfl) (by kernel_rfl) (fun _ _ _ h => h) (Or.inr ⟨by rfl, rfl⟩) hHeld ?_
                        (try simp only [Act.put, List.setIfInBounds_toArray, List.set_cons_zero, List.set_cons_succ])
                        refine wpAnyH_take (i := 13) (List.getElem?_toArray.trans rfl) (by kernel_rfl) (by kernel_rfl) (by kernel_rfl) (fun _ _ _ h => h) (Or.inr ⟨by rfl, rfl⟩) hHeld ?_
                        (try simp only [Act.put, List.setIfInBounds_toArray, List.set_cons_zero, List.set_cons_succ])
                        refine wpAnyH_take (i := 14) (List.getElem?_toArray.trans rfl) (by kernel_rfl) (by kernel_rfl) (by kernel_rfl) (fun _ _ _ h => h) (Or.inr ⟨by rfl, rfl⟩) hHeld ?_
                        (try simp only [Act.put, List.setIfInBounds_toArray, List.set_cons_zero, List.set_cons_succ])
                        refine wpAnyH_take (i := 15) (v := ?_) (List.getElem?_toArray.trans rfl) (by kernel_rfl) (by kernel_rfl) (by kernel_rfl) (fun _ _ _ h => h) (Or.inl ⟨by rfl, ?_⟩) hHeld ?_
                        rotate_left
                        · intro wx hSw
                          (try dsimp only at hSw)
                          go_simp
                          (try with_reducible rfl)
                        (try simp only [Act.put, List.setIfInBounds_toArray, List.set_cons_zero, List.set_cons_succ])
                        refine wpAnyH_take (i := 16) (v := ?_) (List.getElem?_toArray.trans rfl) (by kernel_rfl) (by kernel_rfl) (by kernel_rfl) (fun _ _ _ h => h) (Or.inl ⟨by rfl, ?_⟩) hHeld ?_
                        rotate_left
                        · intro wx hSw
                          (try dsimp only at hSw)
                          go_simp
                          (try with_reducible rfl)
                        (try simp only [Act.put, List.setIfInBounds_toArray, List.set_cons_zero, List.set_cons_succ])
                        refine wpAnyH_take (i := 17) (List.getElem?_toArray.trans rfl) (by kernel_rfl) (by kernel_rfl) (by kernel_rfl) (fun _ _ _ h => h) (Or.inr ⟨by rfl, rfl⟩) hHeld ?_
                        (try simp only [Act.put, List.setIfInBounds_toArray, List.set_cons_zero, List.set_cons_succ])
                        refine wpAnyH_take (i := 18) (List.getElem?_toArray.trans rfl) (by kernel_rfl) (by kernel_rfl) (by kernel_rfl) (fun _ _ _ h => h) (Or.inr ⟨by rfl, rfl⟩) hHeld ?_
                        (try simp only [Act.put, List.setIfInBounds_toArray, List.set_cons_zero, List.set_cons_succ])
                        refine wpAnyH_take (i := 19) (List.getElem?_toArray.trans rfl) (by kernel_rfl) (by kernel_rfl) (by kernel_rfl) (fun _ _ _ h => h) (Or.inr ⟨by rfl, rfl⟩) hHeld ?_
                        (try simp only [Act.put, List.setIfInBounds_toArray, List.set_cons_zero, List.set_cons_succ])
                        refine wpAnyH_take (i := 20) (List.getElem?_toArray.trans rfl) (by kernel_rfl) (by kernel_rfl) (by kernel_rfl) (fun _ _ _ h => h) (Or.inr ⟨by rfl, rfl⟩) hHeld ?_
                        (try simp only [Act.put, List.setIfInBounds_toArray, List.set_cons_zero, List.set_cons_succ])
                        refine wpAnyH_take (i := 21) (List.getElem?_toArray.trans rfl) (by kernel_rfl) (by kernel_rfl) (by kernel_rfl) (fun _ _ _ h => h) (Or.inr ⟨by rfl, rfl⟩) hHeld ?_
                        (try simp only [Act.put, List.setIfInBounds_toArray, List.set_cons_zero, List.set_cons_succ])
                        refine wpAnyH_take (i := 22) (List.getElem?_toArray.trans rfl) (by kernel_rfl) (by kernel_rfl) (by kernel_rfl) (fun _ _ _ h => h) (Or.inr ⟨by rfl, rfl⟩) hHeld ?_
                        (try simp only [Act.put, List.setIfInBounds_toArray, List.set_cons_zero, List.set_cons_succ])
                        refine wpAnyH_take (i := 23) (List.getElem?_toArray.trans rfl) (by kernel_rfl) (by kernel_rfl) (by kernel_rfl) (fun _ _ _ h => h) (Or.inr ⟨by rfl, rfl⟩) hHeld ?_
                        (try simp only [Act.put, List.setIfInBounds_toArray, List.set_cons_zero, List.set_cons_succ])
                        refine wpAnyH_take (i := 24) (List.getElem?_toArray.trans rfl) (by kernel_rfl) (by kernel_rfl) (by kernel_rfl) (fun _ _ _ h => h) (Or.inr ⟨by rfl, rfl⟩) hHeld ?_
                        (try simp only [Act.put, List.setIfInBounds_toArray, List.set_cons_zero, List.set_cons_succ])
                        refine wpAnyH_take (i := 25) (List.getElem?_toArray.trans rfl) (by kernel_rfl) (by kernel_rfl) (by kernel_rfl) (fun _ _ _ h => h) (Or.inr ⟨by rfl, rfl⟩) hHeld ?_
                        (try simp only [Act.put, List.setIfInBounds_toArray, List.set_cons_zero, List.set_cons_succ])
                        refine wpAnyH_take (i := 26) (List.getElem?_toArray.trans rfl) (by kernel_rfl) (by kernel_rfl) (by kernel_rfl) (fun _ _ _ h => h) (Or.inr ⟨by rfl, rfl⟩) hHeld ?_
                        (try simp only [Act.put, List.setIfInBounds_toArray, List.set_cons_zero, List.set_cons_succ])
                        refine wpAnyH_take (i := 27) (v := ?_) (List.getElem?_toArray.trans rfl) (by kernel_rfl) (by kernel_rfl) (by kernel_rfl) (fun _ _ _ h => h) (Or.inl ⟨by rfl, ?_⟩) hHeld ?_
                        rotate_left
                        · intro wx hSw
                          (try dsimp only at hSw)
                          go_simp
                          (try with_reducible rfl)
                        (try simp only [Act.put, List.setIfInBounds_toArray, List.set_cons_zero, List.set_cons_succ])
                        refine wpAnyH_take (i := 28) (v := ?_) (List.getElem?_toArray.trans rfl) (by kernel_rfl) (by kernel_rfl) (by kernel_rfl) (fun _ _ _ h => h) (Or.inl ⟨by rfl, ?_⟩) hHeld ?_
                        rotate_left
                        · intro wx hSw
                          (try dsimp only at hSw)
                          go_simp
                          (try with_reducible rfl)
                        (try simp only [Act.put, List.setIfInBounds_toArray, List.set_cons_zero, List.set_cons_succ])
                        refine wpAnyH_take (i := 29) (List.getElem?_toArray.trans rfl) (by kernel_rfl) (by kernel_rfl) (by kernel_rfl) (fun _ _ _ h => h) (Or.inr ⟨by rfl, rfl⟩) hHeld ?_
                        (try simp only [Act.put, List.setIfInBounds_toArray, List.set_cons_zero, List.set_cons_succ])
                        refine wpAnyH_take (i := 30) (List.getElem?_toArray.trans rfl) (by kernel_rfl) (by kernel_rfl) (by kernel_rfl) (fun _ _ _ h => h) (Or.inr ⟨by rfl, rfl⟩) hHeld ?_
                        (try simp only [Act.put, List.setIfInBounds_toArray, List.set_cons_zero, List.set_cons_succ])
                        refine wpAnyH_take (i := 31) (List.getElem?_toArray.trans rfl) (by kernel_rfl) (by kernel_rfl) (by kernel_rfl) (fun _ _ _ h => h) (Or.inr ⟨by rfl, rfl⟩) hHeld ?_
                        (try simp only [Act.put, List.setIfInBounds_toArray, List.set_cons_zero, List.set_cons_succ])
                        refine wpAnyH_take (i := 32) (List.getElem?_toArray.trans rfl) (by kernel_rfl) (by kernel_rfl) (by kernel_rfl) (fun _ _ _ h => h) (Or.inr ⟨by rfl, rfl⟩) hHeld ?_
                        (try simp only [Act.put, List.setIfInBounds_toArray, List.set_cons_zero, List.set_cons_succ])
                        refine wpAnyH_take (i := 33) (v := ?_) (List.getElem?_toArray.trans rfl) (by kernel_rfl) (by kernel_rfl) (by kernel_rfl) (fun _ _ _ h => h) (Or.inl ⟨by rfl, ?_⟩) hHeld ?_
                        rotate_left
                        · intro wx hSw
                          (try dsimp only at hSw)
                          go_simp
                          (try with_reducible rfl)
                        (try simp only [Act.put, List.setIfInBounds_toArray, List.set_cons_zero, List.set_cons_succ])
                        refine wpAnyH_done (by kernel_rfl) ?_ _
                        go_wp2_with fail
                        go_roundw
                        case rel => exact ⟨j + 1, by omega, by go_num, by rw [HQ2.out]; exact HH2.out.call hHeld.1, HN2.out.keep hHeld.1, HBO.out⟩
                        case measure => simp [intOf] <;> omega
                    · have hne : (kx == 2) = false := by simpa using hkx
                      have HQ2 := Lib.hid (show outJ (j + 1) = cj by rw [HE.out, HS1.out, if_neg]; rw [HT1.out]; show ¬ ((kx == 2) && _) = true; rw [hne]; simp)
                      clear hkx
                      refine wp_region_held_drew (S := (fun wx => Below w2.heap.size w2 wx ∧ wx.cell? ⟨wi.heap.size, 0, none⟩ = some (.int .i64 kx) ∧ wx.cell? ⟨w.heap.size, 0, none⟩ = some (.slice tA tabs.length tc) ∧ wx.cell? ⟨w.heap.size, 1, none⟩ = some (.slice bA beg.length bc) ∧ wx.cell? ⟨w.heap.size, 2, none⟩ = some (.int .i64 width) ∧ wx.cell? ⟨w.heap.size, 3, none⟩ = some (.slice (some ⟨b, off, none⟩) wh.length wc) ∧ wx.cell? ⟨w.heap.size, 4, none⟩ = some (.slice gA gn gc) ∧ wx.cell? ⟨w.heap.size, 5, none⟩ = some (.bool grouped) ∧ wx.cell? ⟨w.heap.size, 6, none⟩ = some (.slice iA i_n ic) ∧ wx.cell? ⟨w.heap.size, 7, none⟩ = some (.slice oA ord.length oc) ∧ wx.cell? ⟨w.heap.size, 8, none⟩ = some (.int .i64 limit) ∧ wx.cell? ⟨wo.heap.size, 9, none⟩ = some (.slice (some ⟨b2, off2, none⟩) 2 c') ∧ wx.cell? ⟨b2, off2 + j2 * 10, none⟩ = some (.int .i64 ky) ∧ wx.cell? ⟨b2, off2 + j2 * 10 + 1, none⟩ = some (.string oy) ∧ wx.cell? ⟨b2, off2 + j2 * 10 + 2, none⟩ = some (.int .i64 lky) ∧ wx.cell? ⟨b2, off2 + j2 * 10 + 3, none⟩ = some (.int .i64 lny) ∧ wx.cell? ⟨b2, off2 + j2 * 10 + 4, none⟩ = some (.float .f64 lfy) ∧ wx.cell? ⟨b2, off2 + j2 * 10 + 5, none⟩ = some (.string lsy) ∧ wx.cell? ⟨b2, off2 + j2 * 10 + 6, none⟩ = some (.int .i64 ay) ∧ wx.cell? ⟨b2, off2 + j2 * 10 + 7, none⟩ = some (.bool nty) ∧ wx.cell? ⟨b2, off2 + j2 * 10 + 8, none⟩ = some (.int .i64 tyy) ∧ wx.cell? ⟨b2, off2 + j2 * 10 + 9, none⟩ = some (.slice Ay ly.length cy))) (by kernel_rfl) (HSX.out _ (Below.refl _ _).drew) (fun hHeld => ?_)
                      (try dsimp only at hHeld)
                      refine wpAnyH_take (i := 0) (v := ?_) (List.getElem?_toArray.trans rfl) (by kernel_rfl) (by kernel_rfl) (by kernel_rfl) (fun _ _ _ h => h) (Or.inl ⟨by rfl, ?_⟩) hHeld ?_
                      rotate_left
                      · intro wx hSw
                        (try dsimp only at hSw)
                        go_simp
                        (try with_reducible rfl)
                      (try simp only [Act.put, List.setIfInBounds_toArray, List.set_cons_zero, List.set_cons_succ])
                      refine wpAnyH_take (i := 1) (v := ?_) (List.getElem?_toArray.trans rfl) (by kernel_rfl) (by kernel_rfl) (by kernel_rfl) (fun _ _ _ h => h) (Or.inl ⟨by rfl, ?_⟩) hHeld ?_
                      rotate_left
                      · intro wx hSw
                        (try dsimp only at hSw)
                        go_simp
                        (try with_reducible rfl)
                      (try simp only [Act.put, List.setIfInBounds_toArray, List.set_cons_zero, List.set_cons_succ])
                      refine wpAnyH_take (i := 2) (v := ?_) (List.getElem?_toArray.trans rfl) (by kernel_rfl) (by kernel_rfl) (by kernel_rfl) (fun _ _ _ h => h) (Or.inl ⟨by rfl, ?_⟩) hHeld ?_
                      rotate_left
                      · intro wx hSw
                        (try dsimp only at hSw)
                        go_simp
                        (try with_reducible rfl)
                      (try simp only [Act.put, List.setIfInBounds_toArray, List.set_cons_zero, List.set_cons_succ])
                      refine wpAnyH_take (i := 3) (v := ?_) (List.getElem?_toArray.trans rfl) (by kernel_rfl) (by kernel_rfl) (by kernel_rfl) (fun _ _ _ h => h) (Or.inl ⟨by rfl, ?_⟩) hHeld ?_
                      rotate_left
                      · intro wx hSw
                        (try dsimp only at hSw)
                        go_simp
                        (try with_reducible rfl)
                      (try simp only [Act.put, List.setIfInBounds_toArray, List.set_cons_zero, List.set_cons_succ])
                      refine wpAnyH_take (i := 4) (List.getElem?_toArray.trans rfl) (by kernel_rfl) (by kernel_rfl) (by kernel_rfl) (fun _ _ _ h => h) (Or.inr ⟨by rfl, rfl⟩) hHeld ?_
                      (try simp only [Act.put, List.setIfInBounds_toArray, List.set_cons_zero, List.set_cons_succ])
                      refine wpAnyH_take (i := 5) (v := ?_) (List.getElem?_toArray.trans rfl) (by kernel_rfl) (by kernel_rfl) (by kernel_rfl) (fun _ _ _ h => h) (Or.inl ⟨by rfl, ?_⟩) hHeld ?_
                      rotate_left
                      · intro wx hSw
                        (try dsimp only at hSw)
                        go_simp
                        (try with_reducible rfl)
                      (try simp only [Act.put, List.setIfInBounds_toArray, List.set_cons_zero, List.set_cons_succ])
                      refine wpAnyH_take (i := 6) (v := ?_) (List.getElem?_toArray.trans rfl) (by kernel_rfl) (by kernel_rfl) (by kernel_rfl) (fun _ _ _ h => h) (Or.inl ⟨by rfl, ?_⟩) hHeld ?_
                      rotate_left
                      · intro wx hSw
                        (try dsimp only at hSw)
                        go_simp
                        (try with_reducible rfl)
                      (try simp only [Act.put, List.setIfInBounds_toArray, List.set_cons_zero, List.set_cons_succ])
                      refine wpAnyH_take (i := 7) (List.getElem?_toArray.trans rfl) (by kernel_rfl) (by kernel_rfl) (by kernel_rfl) (fun _ _ _ h => h) (Or.inr ⟨by rfl, rfl⟩) hHeld ?_
                      (try simp only [Act.put, List.setIfInBounds_toArray, List.set_cons_zero, List.set_cons_succ])
                      refine wpAnyH_take (i := 8) (List.getElem?_toArray.trans rfl) (by kernel_rfl) (by kernel_rfl) (by kernel_rfl) (fun _ _ _ h => h) (Or.inr ⟨by rfl, rfl⟩) hHeld ?_
                      (try simp only [Act.put, List.setIfInBounds_toArray, List.set_cons_zero, List.set_cons_succ])
                      refine wpAnyH_take (i := 9) (List.getElem?_toArray.trans rfl) (by kernel_rfl) (by kernel_rfl) (by kernel_rfl) (fun _ _ _ h => h) (Or.inr ⟨by rfl, rfl⟩) hHeld ?_
                      (try simp only [Act.put, List.setIfInBounds_toArray, List.set_cons_zero, List.set_cons_succ])
                      refine wpAnyH_take (i := 10) (v := ?_) (List.getElem?_toArray.trans rfl) (by kernel_rfl) (by kernel_rfl) (by kernel_rfl) (fun _ _ _ h => h) (Or.inl ⟨by rfl, ?_⟩) hHeld ?_
                      rotate_left
                      · intro wx hSw
                        (try dsimp only at hSw)
                        go_simp
                        (try with_reducible rfl)
                      (try simp only [Act.put, List.setIfInBounds_toArray, List.set_cons_zero, List.set_cons_succ])
                      refine wpAnyH_take (i := 11) (v := ?_) (List.getElem?_toArray.trans rfl) (by kernel_rfl) (by kernel_rfl) (by kernel_rfl) (fun _ _ _ h => h) (Or.inl ⟨by rfl, ?_⟩) hHeld ?_
                      rotate_left
                      · intro wx hSw
                        (try dsimp only at hSw)
                        go_simp
                        (try with_reducible rfl)
                      (try simp only [Act.put, List.setIfInBounds_toArray, List.set_cons_zero, List.set_cons_succ])
                      refine wpAnyH_take (i := 12) (List.getElem?_toArray.trans rfl) (by kernel_rfl) (by kernel_rfl) (by kernel_rfl) (fun _ _ _ h => h) (Or.inr ⟨by rfl, rfl⟩) hHeld ?_
                      (try simp only [Act.put, List.setIfInBounds_toArray, List.set_cons_zero, List.set_cons_succ])
                      refine wpAnyH_take (i := 13) (List.getElem?_toArray.trans rfl) (by kernel_rfl) (by kernel_rfl) (by kernel_rfl) (fun _ _ _ h => h) (Or.inr ⟨by rfl, rfl⟩) hHeld ?_
                      (try simp only [Act.put, List.setIfInBounds_toArray, List.set_cons_zero, List.set_cons_succ])
                      refine wpAnyH_take (i := 14) (List.getElem?_toArray.trans rfl) (by kernel_rfl) (by kernel_rfl) (by kernel_rfl) (fun _ _ _ h => h) (Or.inr ⟨by rfl, rfl⟩) hHeld ?_
                      (try simp only [Act.put, List.setIfInBounds_toArray, List.set_cons_zero, List.set_cons_succ])
                      refine wpAnyH_take (i := 15) (v := ?_) (List.getElem?_toArray.trans rfl) (by kernel_rfl) (by kernel_rfl) (by kernel_rfl) (fun _ _ _ h => h) (Or.inl ⟨by rfl, ?_⟩) hHeld ?_
                      rotate_left
                      · intro wx hSw
                        (try dsimp only at hSw)
                        go_simp
                        (try with_reducible rfl)
                      (try simp only [Act.put, List.setIfInBounds_toArray, List.set_cons_zero, List.set_cons_succ])
                      refine wpAnyH_take (i := 16) (v := ?_) (List.getElem?_toArray.trans rfl) (by kernel_rfl) (by kernel_rfl) (by kernel_rfl) (fun _ _ _ h => h) (Or.inl ⟨by rfl, ?_⟩) hHeld ?_
                      rotate_left
                      · intro wx hSw
                        (try dsimp only at hSw)
                        go_simp
                        (try with_reducible rfl)
                      (try simp only [Act.put, List.setIfInBounds_toArray, List.set_cons_zero, List.set_cons_succ])
                      refine wpAnyH_take (i := 17) (List.getElem?_toArray.trans rfl) (by kernel_rfl) (by kernel_rfl) (by kernel_rfl) (fun _ _ _ h => h) (Or.inr ⟨by rfl, rfl⟩) hHeld ?_
                      (try simp only [Act.put, List.setIfInBounds_toArray, List.set_cons_zero, List.set_cons_succ])
                      refine wpAnyH_take (i := 18) (List.getElem?_toArray.trans rfl) (by kernel_rfl) (by kernel_rfl) (by kernel_rfl) (fun _ _ _ h => h) (Or.inr ⟨by rfl, rfl⟩) hHeld ?_
                      (try simp only [Act.put, List.setIfInBounds_toArray, List.set_cons_zero, List.set_cons_succ])
                      refine wpAnyH_take (i := 19) (List.getElem?_toArray.trans rfl) (by kernel_rfl) (by kernel_rfl) (by kernel_rfl) (fun _ _ _ h => h) (Or.inr ⟨by rfl, rfl⟩) hHeld ?_
                      (try simp only [Act.put, List.setIfInBounds_toArray, List.set_cons_zero, List.set_cons_succ])
                      refine wpAnyH_take (i := 20) (List.getElem?_toArray.trans rfl) (by kernel_rfl) (by kernel_rfl) (by kernel_rfl) (fun _ _ _ h => h) (Or.inr ⟨by rfl, rfl⟩) hHeld ?_
                      (try simp only [Act.put, List.setIfInBounds_toArray, List.set_cons_zero, List.set_cons_succ])
                      refine wpAnyH_take (i := 21) (List.getElem?_toArray.trans rfl) (by kernel_rfl) (by kernel_rfl) (by kernel_rfl) (fun _ _ _ h => h) (Or.inr ⟨by rfl, rfl⟩) hHeld ?_
                      (try simp only [Act.put, List.setIfInBounds_toArray, List.set_cons_zero, List.set_cons_succ])
                      refine wpAnyH_take (i := 22) (List.getElem?_toArray.trans rfl) (by kernel_rfl) (by kernel_rfl) (by kernel_rfl) (fun _ _ _ h => h) (Or.inr ⟨by rfl, rfl⟩) hHeld ?_
                      (try simp only [Act.put, List.setIfInBounds_toArray, List.set_cons_zero, List.set_cons_succ])
                      refine wpAnyH_take (i := 23) (List.getElem?_toArray.trans rfl) (by kernel_rfl) (by kernel_rfl) (by kernel_rfl) (fun _ _ _ h => h) (Or.inr ⟨by rfl, rfl⟩) hHeld ?_
                      (try simp only [Act.put, List.setIfInBounds_toArray, List.set_cons_zero, List.set_cons_succ])
                      refine wpAnyH_take (i := 24) (List.getElem?_toArray.trans rfl) (by kernel_rfl) (by kernel_rfl) (by kernel_rfl) (fun _ _ _ h => h) (Or.inr ⟨by rfl, rfl⟩) hHeld ?_
                      (try simp only [Act.put, List.setIfInBounds_toArray, List.set_cons_zero, List.set_cons_succ])
                      refine wpAnyH_take (i := 25) (List.getElem?_toArray.trans rfl) (by kernel_rfl) (by kernel_rfl) (by kernel_rfl) (fun _ _ _ h => h) (Or.inr ⟨by rfl, rfl⟩) hHeld ?_
                      (try simp only [Act.put, List.setIfInBounds_toArray, List.set_cons_zero, List.set_cons_succ])
                      refine wpAnyH_take (i := 26) (List.getElem?_toArray.trans rfl) (by kernel_rfl) (by kernel_rfl) (by kernel_rfl) (fun _ _ _ h => h) (Or.inr ⟨by rfl, rfl⟩) hHeld ?_
                      (try simp only [Act.put, List.setIfInBounds_toArray, List.set_cons_zero, List.set_cons_succ])
                      refine wpAnyH_take (i := 27) (v := ?_) (List.getElem?_toArray.trans rfl) (by kernel_rfl) (by kernel_rfl) (by kernel_rfl) (fun _ _ _ h => h) (Or.inl ⟨by rfl, ?_⟩) hHeld ?_
                      rotate_left
                      · intro wx hSw
                        (try dsimp only at hSw)
                        go_simp
                        (try with_reducible rfl)
                      (try simp only [Act.put, List.setIfInBounds_toArray, List.set_cons_zero, List.set_cons_succ])
                      refine wpAnyH_take (i := 28) (v := ?_) (List.getElem?_toArray.trans rfl) (by kernel_rfl) (by kernel_rfl) (by kernel_rfl) (fun _ _ _ h => h) (Or.inl ⟨by rfl, ?_⟩) hHeld ?_
                      rotate_left
                      · intro wx hSw
                        (try dsimp only at hSw)
                        go_simp
                        (try with_reducible rfl)
                      (try simp only [Act.put, List.setIfInBounds_toArray, List.set_cons_zero, List.set_cons_succ])
                      refine wpAnyH_take (i := 29) (List.getElem?_toArray.trans rfl) (by kernel_rfl) (by kernel_rfl) (by kernel_rfl) (fun _ _ _ h => h) (Or.inr ⟨by rfl, rfl⟩) hHeld ?_
                      (try simp only [Act.put, List.setIfInBounds_toArray, List.set_cons_zero, List.set_cons_succ])
                      refine wpAnyH_take (i := 30) (List.getElem?_toArray.trans rfl) (by kernel_rfl) (by kernel_rfl) (by kernel_rfl) (fun _ _ _ h => h) (Or.inr ⟨by rfl, rfl⟩) hHeld ?_
                      (try simp only [Act.put, List.setIfInBounds_toArray, List.set_cons_zero, List.set_cons_succ])
                      refine wpAnyH_take (i := 31) (List.getElem?_toArray.trans rfl) (by kernel_rfl) (by kernel_rfl) (by kernel_rfl) (fun _ _ _ h => h) (Or.inr ⟨by rfl, rfl⟩) hHeld ?_
                      (try simp only [Act.put, List.setIfInBounds_toArray, List.set_cons_zero, List.set_cons_succ])
                      refine wpAnyH_take (i := 32) (List.getElem?_toArray.trans rfl) (by kernel_rfl) (by kernel_rfl) (by kernel_rfl) (fun _ _ _ h => h) (Or.inr ⟨by rfl, rfl⟩) hHeld ?_
                      (try simp only [Act.put, List.setIfInBounds_toArray, List.set_cons_zero, List.set_cons_succ])
                      refine wpAnyH_take (i := 33) (v := ?_) (List.getElem?_toArray.trans rfl) (by kernel_rfl) (by kernel_rfl) (by kernel_rfl) (fun _ _ _ h => h) (Or.inl ⟨by rfl, ?_⟩) hHeld ?_
                      rotate_left
                      · intro wx hSw
                        (try dsimp only at hSw)
                        go_simp
                        (try with_reducible rfl)
                      (try simp only [Act.put, List.setIfInBounds_toArray, List.set_cons_zero, List.set_cons_succ])
                      refine wpAnyH_done (by kernel_rfl) ?_ _
                      go_wp2_with fail
                      go_roundw
                      case rel => exact ⟨j + 1, by omega, by go_num, by rw [HQ2.out]; exact HH2.out.call hHeld.1, HN2.out.keep hHeld.1, HBO.out⟩
                      case measure => simp [intOf] <;> omega
                  · skip
                    clear q0 q1 q2 q3 q4 q5 q6 q7 q8 n0 n1 n2 n3 n4 n5 n6 n7 n8 n9 x0 x1 x2 x3 x4 x5 x6 x7 x8 x9
                    obtain ⟨q0, q1, q2, q3, q4, q5, q6, q7, q8⟩ := box9 _ _ _ _ _ _ _ _ _ _ _ HH2.out.2.1
                    obtain ⟨n0, n1, n2, n3, n4, n5, n6, n7, n8, n9⟩ := HN2.out.cells
                    obtain ⟨x0, -, -, -, -, -, -, -, -, -⟩ := HX2.out.cells
                    clear n0 n1 n2 n3 n4 n5 n6 n7 n8
                    obtain ⟨ky, oy, lky, lny, lfy, lsy, ay, nty, tyy, Ay, cy, ly⟩ := Y
                    obtain ⟨y0, y1, y2, y3, y4, y5, y6, y7, y8, y9⟩ := node_at (off := off2 + j2 * 10) HH2.out.1 hb2 HYc.out
                    have hS : ∀ wx, Below w2.heap.size w2 wx → Below w2.heap.size w2 wx ∧ wx.cell? ⟨wi.heap.size, 0, none⟩ = some (.int .i64 kx) ∧ wx.cell? ⟨w.heap.size, 0, none⟩ = some (.slice tA tabs.length tc) ∧ wx.cell? ⟨w.heap.size, 1, none⟩ = some (.slice bA beg.length bc) ∧ wx.cell? ⟨w.heap.size, 2, none⟩ = some (.int .i64 width) ∧ wx.cell? ⟨w.heap.size, 3, none⟩ = some (.slice (some ⟨b, off, none⟩) wh.length wc) ∧ wx.cell? ⟨w.heap.size, 4, none⟩ = some (.slice gA gn gc) ∧ wx.cell? ⟨w.heap.size, 5, none⟩ = some (.bool grouped) ∧ wx.cell? ⟨w.heap.size, 6, none⟩ = some (.slice iA i_n ic) ∧ wx.cell? ⟨w.heap.size, 7, none⟩ = some (.slice oA ord.length oc) ∧ wx.cell? ⟨w.heap.size, 8, none⟩ = some (.int .i64 limit) ∧ wx.cell? ⟨wo.heap.size, 9, none⟩ = some (.slice (some ⟨b2, off2, none⟩) 2 c') ∧ wx.cell? ⟨b2, off2 + j2 * 10, none⟩ = some (.int .i64 ky) ∧ wx.cell? ⟨b2, off2 + j2 * 10 + 1, none⟩ = some (.string oy) ∧ wx.cell? ⟨b2, off2 + j2 * 10 + 2, none⟩ = some (.int .i64 lky) ∧ wx.cell? ⟨b2, off2 + j2 * 10 + 3, none⟩ = some (.int .i64 lny) ∧ wx.cell? ⟨b2, off2 + j2 * 10 + 4, none⟩ = some (.float .f64 lfy) ∧ wx.cell? ⟨b2, off2 + j2 * 10 + 5, none⟩ = some (.string lsy) ∧ wx.cell? ⟨b2, off2 + j2 * 10 + 6, none⟩ = some (.int .i64 ay) ∧ wx.cell? ⟨b2, off2 + j2 * 10 + 7, none⟩ = some (.bool nty) ∧ wx.cell? ⟨b2, off2 + j2 * 10 + 8, none⟩ = some (.int .i64 tyy) ∧ wx.cell? ⟨b2, off2 + j2 * 10 + 9, none⟩ = some (.slice Ay ly.length cy) := by
                      have hlq := heap_lt HH2.out.2.1
                      have hln := heap_lt HN2.out
                      have hlx := heap_lt HX2.out
                      have hly : b2 < w2.heap.size := Nat.lt_of_lt_of_le hb2 HH2.out.1.size
                      intro wx h
                      refine ⟨h, ?_, ?_, ?_, ?_, ?_, ?_, ?_, ?_, ?_, ?_, ?_, ?_, ?_, ?_, ?_, ?_, ?_, ?_, ?_, ?_, ?_⟩
                      · exact keep_all h hlx x0
                      · exact keep_all h hlq q0
                      · exact keep_all h hlq q1
                      · exact keep_all h hlq q2
                      · exact keep_all h hlq q3
                      · exact keep_all h hlq q4
                      · exact keep_all h hlq q5
                      · exact keep_all h hlq q6
                      · exact keep_all h hlq q7
                      · exact keep_all h hlq q8
                      · exact keep_all h hln n9
                      · exact keep_all h hly y0
                      · exact keep_all h hly y1
                      · exact keep_all h hly y2
                      · exact keep_all h hly y3
                      · exact keep_all h hly y4
                      · exact keep_all h hly y5
                      · exact keep_all h hly y6
                      · exact keep_all h hly y7
                      · exact keep_all h hly y8
                      · exact keep_all h hly y9
                    have HSX := Lib.hid hS
                    clear hS
                    clear q0 q1 q2 q3 q4 q5 q6 q7 q8 n9 x0 y0 y1 y2 y3 y4 y5 y6 y7 y8 y9
                    have HQ2 := Lib.hid (show outJ (j + 1) = cj by rw [HE.out, HS1.out, if_neg]; rw [HT1.out]; show ¬ ((kx == 2) && (decide (tabR _ ax = some f) && _)) = true; rw [HTB.out]; simp)
                    by_cases hkx : kx = 2
                    · subst hkx
                      refine wp_region_held_drew (S := (fun wx => Below w2.heap.size w2 wx ∧ wx.cell? ⟨wi.heap.size, 0, none⟩ = some (.int .i64 2) ∧ wx.cell? ⟨w.heap.size, 0, none⟩ = some (.slice tA tabs.length tc) ∧ wx.cell? ⟨w.heap.size, 1, none⟩ = some (.slice bA beg.length bc) ∧ wx.cell? ⟨w.heap.size, 2, none⟩ = some (.int .i64 width) ∧ wx.cell? ⟨w.heap.size, 3, none⟩ = some (.slice (some ⟨b, off, none⟩) wh.length wc) ∧ wx.cell? ⟨w.heap.size, 4, none⟩ = some (.slice gA gn gc) ∧ wx.cell? ⟨w.heap.size, 5, none⟩ = some (.bool grouped) ∧ wx.cell? ⟨w.heap.size, 6, none⟩ = some (.slice iA i_n ic) ∧ wx.cell? ⟨w.heap.size, 7, none⟩ = some (.slice oA ord.length oc) ∧ wx.cell? ⟨w.heap.size, 8, none⟩ = some (.int .i64 limit) ∧ wx.cell? ⟨wo.heap.size, 9, none⟩ = some (.slice (some ⟨b2, off2, none⟩) 2 c') ∧ wx.cell? ⟨b2, off2 + j2 * 10, none⟩ = some (.int .i64 ky) ∧ wx.cell? ⟨b2, off2 + j2 * 10 + 1, none⟩ = some (.string oy) ∧ wx.cell? ⟨b2, off2 + j2 * 10 + 2, none⟩ = some (.int .i64 lky) ∧ wx.cell? ⟨b2, off2 + j2 * 10 + 3, none⟩ = some (.int .i64 lny) ∧ wx.cell? ⟨b2, off2 + j2 * 10 + 4, none⟩ = some (.float .f64 lfy) ∧ wx.cell? ⟨b2, off2 + j2 * 10 + 5, none⟩ = some (.string lsy) ∧ wx.cell? ⟨b2, off2 + j2 * 10 + 6, none⟩ = some (.int .i64 ay) ∧ wx.cell? ⟨b2, off2 + j2 * 10 + 7, none⟩ = some (.bool nty) ∧ wx.cell? ⟨b2, off2 + j2 * 10 + 8, none⟩ = some (.int .i64 tyy) ∧ wx.cell? ⟨b2, off2 + j2 * 10 + 9, none⟩ = some (.slice Ay ly.length cy))) (by kernel_rfl) (HSX.out _ (Below.refl _ _).drew) (fun hHeld => ?_)
                      (try dsimp only at hHeld)
                      refine wpAnyH_take (i := 0) (v := ?_) (List.getElem?_toArray.trans rfl) (by kernel_rfl) (by kernel_rfl) (by kernel_rfl) (fun _ _ _ h => h) (Or.inl ⟨by rfl, ?_⟩) hHeld ?_
                      rotate_left
                      · intro wx hSw
                        (try dsimp only at hSw)
                        go_simp
                        (try with_reducible rfl)
                      (try simp only [Act.put, List.setIfInBounds_toArray, List.set_cons_zero, List.set_cons_succ])
                      refine wpAnyH_take (i := 1) (v := ?_) (List.getElem?_toArray.trans rfl) (by kernel_rfl) (by kernel_rfl) (by kernel_rfl) (fun _ _ _ h => h) (Or.inl ⟨by rfl, ?_⟩) hHeld ?_
                      rotate_left
                      · intro wx hSw
                        (try dsimp only at hSw)
                        go_simp
                        (try with_reducible rfl)
                      (try simp only [Act.put, List.setIfInBounds_toArray, List.set_cons_zero, List.set_cons_succ])
                      refine wpAnyH_take (i := 2) (v := ?_) (List.getElem?_toArray.trans rfl) (by kernel_rfl) (by kernel_rfl) (by kernel_rfl) (fun _ _ _ h => h) (Or.inl ⟨by rfl, ?_⟩) hHeld ?_
                      rotate_left
                      · intro wx hSw
                        (try dsimp only at hSw)
                        go_simp
                        (try with_reducible rfl)
                      (try simp only [Act.put, List.setIfInBounds_toArray, List.set_cons_zero, List.set_cons_succ])
                      refine wpAnyH_take (i := 3) (v := ?_) (List.getElem?_toArray.trans rfl) (by kernel_rfl) (by kernel_rfl) (by kernel_rfl) (fun _ _ _ h => h) (Or.inl ⟨by rfl, ?_⟩) hHeld ?_
                      rotate_left
                      · intro wx hSw
                        (try dsimp only at hSw)
                        go_simp
                        (try with_reducible rfl)
                      (try simp only [Act.put, List.setIfInBounds_toArray, List.set_cons_zero, List.set_cons_succ])
                      refine wpAnyH_take (i := 4) (v := ?_) (List.getElem?_toArray.trans rfl) (by kernel_rfl) (by kernel_rfl) (by kernel_rfl) (fun _ _ _ h => h) (Or.inl ⟨by rfl, ?_⟩) hHeld ?_
                      rotate_left
                      · intro wx hSw
                        (try dsimp only at hSw)
                        go_simp
                        (try with_reducible rfl)
                      (try simp only [Act.put, List.setIfInBounds_toArray, List.set_cons_zero, List.set_cons_succ])
                      refine wpAnyH_take (i := 5) (v := ?_) (List.getElem?_toArray.trans rfl) (by kernel_rfl) (by kernel_rfl) (by kernel_rfl) (fun _ _ _ h => h) (Or.inl ⟨by rfl, ?_⟩) hHeld ?_
                      rotate_left
                      · intro wx hSw
                        (try dsimp only at hSw)
                        go_simp
                        (try with_reducible rfl)
                      (try simp only [Act.put, List.setIfInBounds_toArray, List.set_cons_zero, List.set_cons_succ])
                      refine wpAnyH_take (i := 6) (v := ?_) (List.getElem?_toArray.trans rfl) (by kernel_rfl) (by kernel_rfl) (by kernel_rfl) (fun _ _ _ h => h) (Or.inl ⟨by rfl, ?_⟩) hHeld ?_
                      rotate_left
                      · intro wx hSw
                        (try dsimp only at hSw)
                        go_simp
                        (try with_reducible rfl)
                      (try simp only [Act.put, List.setIfInBounds_toArray, List.set_cons_zero, List.set_cons_succ])
                      refine wpAnyH_take (i := 7) (List.getElem?_toArray.trans rfl) (by kernel_rfl) (by kernel_rfl) (by kernel_rfl) (fun _ _ _ h => h) (Or.inr ⟨by rfl, rfl⟩) hHeld ?_
                      (try simp only [Act.put, List.setIfInBounds_toArray, List.set_cons_zero, List.set_cons_succ])
                      refine wpAnyH_take (i := 8) (List.getElem?_toArray.trans rfl) (by kernel_rfl) (by kernel_rfl) (by kernel_rfl) (fun _ _ _ h => h) (Or.inr ⟨by rfl, rfl⟩) hHeld ?_
                      (try simp only [Act.put, List.setIfInBounds_toArray, List.set_cons_zero, List.set_cons_succ])
                      refine wpAnyH_take (i := 9) (List.getElem?_toArray.trans rfl) (by kernel_rfl) (by kernel_rfl) (by kernel_rfl) (fun _ _ _ h => h) (Or.inr ⟨by rfl, rfl⟩) hHeld ?_
                      (try simp only [Act.put, List.setIfInBounds_toArray, List.set_cons_zero, List.set_cons_succ])
                      refine wpAnyH_take (i := 10) (v := ?_) (List.getElem?_toArray.trans rfl) (by kernel_rfl) (by kernel_rfl) (by kernel_rfl) (fun _ _ _ h => h) (Or.inl ⟨by rfl, ?_⟩) hHeld ?_
                      rotate_left
                      · intro wx hSw
                        (try dsimp only at hSw)
                        go_simp
                        (try with_reducible rfl)
                      (try simp only [Act.put, List.setIfInBounds_toArray, List.set_cons_zero, List.set_cons_succ])
                      refine wpAnyH_take (i := 11) (v := ?_) (List.getElem?_toArray.trans rfl) (by kernel_rfl) (by kernel_rfl) (by kernel_rfl) (fun _ _ _ h => h) (Or.inl ⟨by rfl, ?_⟩) hHeld ?_
                      rotate_left
                      · intro wx hSw
                        (try dsimp only at hSw)
                        go_simp
                        (try with_reducible rfl)
                      (try simp only [Act.put, List.setIfInBounds_toArray, List.set_cons_zero, List.set_cons_succ])
                      refine wpAnyH_take (i := 12) (List.getElem?_toArray.trans rfl) (by kernel_rfl) (by kernel_rfl) (by kernel_rfl) (fun _ _ _ h => h) (Or.inr ⟨by rfl, rfl⟩) hHeld ?_
                      (try simp only [Act.put, List.setIfInBounds_toArray, List.set_cons_zero, List.set_cons_succ])
                      refine wpAnyH_take (i := 13) (List.getElem?_toArray.trans rfl) (by kernel_rfl) (by kernel_rfl) (by kernel_rfl) (fun _ _ _ h => h) (Or.inr ⟨by rfl, rfl⟩) hHeld ?_
                      (try simp only [Act.put, List.setIfInBounds_toArray, List.set_cons_zero, List.set_cons_succ])
                      refine wpAnyH_take (i := 14) (List.getElem?_toArray.trans rfl) (by kernel_rfl) (by kernel_rfl) (by kernel_rfl) (fun _ _ _ h => h) (Or.inr ⟨by rfl, rfl⟩) hHeld ?_
                      (try simp only [Act.put, List.setIfInBounds_toArray, List.set_cons_zero, List.set_cons_succ])
                      refine wpAnyH_take (i := 15) (v := ?_) (List.getElem?_toArray.trans rfl) (by kernel_rfl) (by kernel_rfl) (by kernel_rfl) (fun _ _ _ h => h) (Or.inl ⟨by rfl, ?_⟩) hHeld ?_
                      rotate_left
                      · intro wx hSw
                        (try dsimp only at hSw)
                        go_simp
                        (try with_reducible rfl)
                      (try simp only [Act.put, List.setIfInBounds_toArray, List.set_cons_zero, List.set_cons_succ])
                      refine wpAnyH_take (i := 16) (v := ?_) (List.getElem?_toArray.trans rfl) (by kernel_rfl) (by kernel_rfl) (by kernel_rfl) (fun _ _ _ h => h) (Or.inl ⟨by rfl, ?_⟩) hHeld ?_
                      rotate_left
                      · intro wx hSw
                        (try dsimp only at hSw)
                        go_simp
                        (try with_reducible rfl)
                      (try simp only [Act.put, List.setIfInBounds_toArray, List.set_cons_zero, List.set_cons_succ])
                      refine wpAnyH_take (i := 17) (List.getElem?_toArray.trans rfl) (by kernel_rfl) (by kernel_rfl) (by kernel_rfl) (fun _ _ _ h => h) (Or.inr ⟨by rfl, rfl⟩) hHeld ?_
                      (try simp only [Act.put, List.setIfInBounds_toArray, List.set_cons_zero, List.set_cons_succ])
                      refine wpAnyH_take (i := 18) (List.getElem?_toArray.trans rfl) (by kernel_rfl) (by kernel_rfl) (by kernel_rfl) (fun _ _ _ h => h) (Or.inr ⟨by rfl, rfl⟩) hHeld ?_
                      (try simp only [Act.put, List.setIfInBounds_toArray, List.set_cons_zero, List.set_cons_succ])
                      refine wpAnyH_take (i := 19) (List.getElem?_toArray.trans rfl) (by kernel_rfl) (by kernel_rfl) (by kernel_rfl) (fun _ _ _ h => h) (Or.inr ⟨by rfl, rfl⟩) hHeld ?_
                      (try simp only [Act.put, List.setIfInBounds_toArray, List.set_cons_zero, List.set_cons_succ])
                      refine wpAnyH_take (i := 20) (List.getElem?_toArray.trans rfl) (by kernel_rfl) (by kernel_rfl) (by kernel_rfl) (fun _ _ _ h => h) (Or.inr ⟨by rfl, rfl⟩) hHeld ?_
                      (try simp only [Act.put, List.setIfInBounds_toArray, List.set_cons_zero, List.set_cons_succ])
                      refine wpAnyH_take (i := 21) (List.getElem?_toArray.trans rfl) (by kernel_rfl) (by kernel_rfl) (by kernel_rfl) (fun _ _ _ h => h) (Or.inr ⟨by rfl, rfl⟩) hHeld ?_
                      (try simp only [Act.put, List.setIfInBounds_toArray, List.set_cons_zero, List.set_cons_succ])
                      refine wpAnyH_take (i := 22) (List.getElem?_toArray.trans rfl) (by kernel_rfl) (by kernel_rfl) (by kernel_rfl) (fun _ _ _ h => h) (Or.inr ⟨by rfl, rfl⟩) hHeld ?_
                      (try simp only [Act.put, List.setIfInBounds_toArray, List.set_cons_zero, List.set_cons_succ])
                      refine wpAnyH_take (i := 23) (List.getElem?_toArray.trans rfl) (by kernel_rfl) (by kernel_rfl) (by kernel_rfl) (fun _ _ _ h => h) (Or.inr ⟨by rfl, rfl⟩) hHeld ?_
                      (try simp only [Act.put, List.setIfInBounds_toArray, List.set_cons_zero, List.set_cons_succ])
                      refine wpAnyH_take (i := 24) (List.getElem?_toArray.trans rfl) (by kernel_rfl) (by kernel_rfl) (by kernel_rfl) (fun _ _ _ h => h) (Or.inr ⟨by rfl, rfl⟩) hHeld ?_
                      (try simp only [Act.put, List.setIfInBounds_toArray, List.set_cons_zero, List.set_cons_succ])
                      refine wpAnyH_take (i := 25) (List.getElem?_toArray.trans rfl) (by kernel_rfl) (by kernel_rfl) (by kernel_rfl) (fun _ _ _ h => h) (Or.inr ⟨by rfl, rfl⟩) hHeld ?_
                      (try simp only [Act.put, List.setIfInBounds_toArray, List.set_cons_zero, List.set_cons_succ])
                      refine wpAnyH_take (i := 26) (List.getElem?_toArray.trans rfl) (by kernel_rfl) (by kernel_rfl) (by kernel_rfl) (fun _ _ _ h => h) (Or.inr ⟨by rfl, rfl⟩) hHeld ?_
                      (try simp only [Act.put, List.setIfInBounds_toArray, List.set_cons_zero, List.set_cons_succ])
                      refine wpAnyH_take (i := 27) (v := ?_) (List.getElem?_toArray.trans rfl) (by kernel_rfl) (by kernel_rfl) (by kernel_rfl) (fun _ _ _ h => h) (Or.inl ⟨by rfl, ?_⟩) hHeld ?_
                      rotate_left
                      · intro wx hSw
                        (try dsimp only at hSw)
                        go_simp
                        (try with_reducible rfl)
                      (try simp only [Act.put, List.setIfInBounds_toArray, List.set_cons_zero, List.set_cons_succ])
                      refine wpAnyH_take (i := 28) (v := ?_) (List.getElem?_toArray.trans rfl) (by kernel_rfl) (by kernel_rfl) (by kernel_rfl) (fun _ _ _ h => h) (Or.inl ⟨by rfl, ?_⟩) hHeld ?_
                      rotate_left
                      · intro wx hSw
                        (try dsimp only at hSw)
                        go_simp
                        (try with_reducible rfl)
                      (try simp only [Act.put, List.setIfInBounds_toArray, List.set_cons_zero, List.set_cons_succ])
                      refine wpAnyH_take (i := 29) (List.getElem?_toArray.trans rfl) (by kernel_rfl) (by kernel_rfl) (by kernel_rfl) (fun _ _ _ h => h) (Or.inr ⟨by rfl, rfl⟩) hHeld ?_
                      (try simp only [Act.put, List.setIfInBounds_toArray, List.set_cons_zero, List.set_cons_succ])
                      refine wpAnyH_take (i := 30) (List.getElem?_toArray.trans rfl) (by kernel_rfl) (by kernel_rfl) (by kernel_rfl) (fun _ _ _ h => h) (Or.inr ⟨by rfl, rfl⟩) hHeld ?_
                      (try simp only [Act.put, List.setIfInBounds_toArray, List.set_cons_zero, List.set_cons_succ])
                      refine wpAnyH_take (i := 31) (List.getElem?_toArray.trans rfl) (by kernel_rfl) (by kernel_rfl) (by kernel_rfl) (fun _ _ _ h => h) (Or.inr ⟨by rfl, rfl⟩) hHeld ?_
                      (try simp only [Act.put, List.setIfInBounds_toArray, List.set_cons_zero, List.set_cons_succ])
                      refine wpAnyH_take (i := 32) (List.getElem?_toArray.trans rfl) (by kernel_rfl) (by kernel_rfl) (by kernel_rfl) (fun _ _ _ h => h) (Or.inr ⟨by rfl, rfl⟩) hHeld ?_
                      (try simp only [Act.put, List.setIfInBounds_toArray, List.set_cons_zero, List.set_cons_succ])
                      refine wpAnyH_take (i := 33) (v := ?_) (List.getElem?_toArray.trans rfl) (by kernel_rfl) (by kernel_rfl) (by kernel_rfl) (fun _ _ _ h => h) (Or.inl ⟨by rfl, ?_⟩) hHeld ?_
                      rotate_left
                      · intro wx hSw
                        (try dsimp only at hSw)
                        go_simp
                        (try with_reducible rfl)
                      (try simp only [Act.put, List.setIfInBounds_toArray, List.set_cons_zero, List.set_cons_succ])
                      refine wpAnyH_done (by kernel_rfl) ?_ _
                      go_wp2_with fail
                      go_roundw
                      case rel => exact ⟨j + 1, by omega, by go_num, by rw [HQ2.out]; exact HH2.out.call hHeld.1, HN2.out.keep hHeld.1, HBO.out⟩
                      case measure => simp [intOf] <;> omega
                    · have hne : (kx == 2) = false := by simpa using hkx
                      clear hkx
                      refine wp_region_held_drew (S := (fun wx => Below w2.heap.size w2 wx ∧ wx.cell? ⟨wi.heap.size, 0, none⟩ = some (.int .i64 kx) ∧ wx.cell? ⟨w.heap.size, 0, none⟩ = some (.slice tA tabs.length tc) ∧ wx.cell? ⟨w.heap.size, 1, none⟩ = some (.slice bA beg.length bc) ∧ wx.cell? ⟨w.heap.size, 2, none⟩ = some (.int .i64 width) ∧ wx.cell? ⟨w.heap.size, 3, none⟩ = some (.slice (some ⟨b, off, none⟩) wh.length wc) ∧ wx.cell? ⟨w.heap.size, 4, none⟩ = some (.slice gA gn gc) ∧ wx.cell? ⟨w.heap.size, 5, none⟩ = some (.bool grouped) ∧ wx.cell? ⟨w.heap.size, 6, none⟩ = some (.slice iA i_n ic) ∧ wx.cell? ⟨w.heap.size, 7, none⟩ = some (.slice oA ord.length oc) ∧ wx.cell? ⟨w.heap.size, 8, none⟩ = some (.int .i64 limit) ∧ wx.cell? ⟨wo.heap.size, 9, none⟩ = some (.slice (some ⟨b2, off2, none⟩) 2 c') ∧ wx.cell? ⟨b2, off2 + j2 * 10, none⟩ = some (.int .i64 ky) ∧ wx.cell? ⟨b2, off2 + j2 * 10 + 1, none⟩ = some (.string oy) ∧ wx.cell? ⟨b2, off2 + j2 * 10 + 2, none⟩ = some (.int .i64 lky) ∧ wx.cell? ⟨b2, off2 + j2 * 10 + 3, none⟩ = some (.int .i64 lny) ∧ wx.cell? ⟨b2, off2 + j2 * 10 + 4, none⟩ = some (.float .f64 lfy) ∧ wx.cell? ⟨b2, off2 + j2 * 10 + 5, none⟩ = some (.string lsy) ∧ wx.cell? ⟨b2, off2 + j2 * 10 + 6, none⟩ = some (.int .i64 ay) ∧ wx.cell? ⟨b2, off2 + j2 * 10 + 7, none⟩ = some (.bool nty) ∧ wx.cell? ⟨b2, off2 + j2 * 10 + 8, none⟩ = some (.int .i64 tyy) ∧ wx.cell? ⟨b2, off2 + j2 * 10 + 9, none⟩ = some (.slice Ay ly.length cy))) (by kernel_rfl) (HSX.out _ (Below.refl _ _).drew) (fun hHeld => ?_)
                      (try dsimp only at hHeld)
                      refine wpAnyH_take (i := 0) (v := ?_) (List.getElem?_toArray.trans rfl) (by kernel_rfl) (by kernel_rfl) (by kernel_rfl) (fun _ _ _ h => h) (Or.inl ⟨by rfl, ?_⟩) hHeld ?_
                      rotate_left
                      · intro wx hSw
                        (try dsimp only at hSw)
                        go_simp
                        (try with_reducible rfl)
                      (try simp only [Act.put, List.setIfInBounds_toArray, List.set_cons_zero, List.set_cons_succ])
                      refine wpAnyH_take (i := 1) (v := ?_) (List.getElem?_toArray.trans rfl) (by kernel_rfl) (by kernel_rfl) (by kernel_rfl) (fun _ _ _ h => h) (Or.inl ⟨by rfl, ?_⟩) hHeld ?_
                      rotate_left
                      · intro wx hSw
                        (try dsimp only at hSw)
                        go_simp
                        (try with_reducible rfl)
                      (try simp only [Act.put, List.setIfInBounds_toArray, List.set_cons_zero, List.set_cons_succ])
                      refine wpAnyH_take (i := 2) (v := ?_) (List.getElem?_toArray.trans rfl) (by kernel_rfl) (by kernel_rfl) (by kernel_rfl) (fun _ _ _ h => h) (Or.inl ⟨by rfl, ?_⟩) hHeld ?_
                      rotate_left
                      · intro wx hSw
                        (try dsimp only at hSw)
                        go_simp
                        (try with_reducible rfl)
                      (try simp only [Act.put, List.setIfInBounds_toArray, List.set_cons_zero, List.set_cons_succ])
                      refine wpAnyH_take (i := 3) (v := ?_) (List.getElem?_toArray.trans rfl) (by kernel_rfl) (by kernel_rfl) (by kernel_rfl) (fun _ _ _ h => h) (Or.inl ⟨by rfl, ?_⟩) hHeld ?_
                      rotate_left
                      · intro wx hSw
                        (try dsimp only at hSw)
                        go_simp
                        (try with_reducible rfl)
                      (try simp only [Act.put, List.setIfInBounds_toArray, List.set_cons_zero, List.set_cons_succ])
                      refine wpAnyH_take (i := 4) (List.getElem?_toArray.trans rfl) (by kernel_rfl) (by kernel_rfl) (by kernel_rfl) (fun _ _ _ h => h) (Or.inr ⟨by rfl, rfl⟩) hHeld ?_
                      (try simp only [Act.put, List.setIfInBounds_toArray, List.set_cons_zero, List.set_cons_succ])
                      refine wpAnyH_take (i := 5) (v := ?_) (List.getElem?_toArray.trans rfl) (by kernel_rfl) (by kernel_rfl) (by kernel_rfl) (fun _ _ _ h => h) (Or.inl ⟨by rfl, ?_⟩) hHeld ?_
                      rotate_left
                      · intro wx hSw
                        (try dsimp only at hSw)
                        go_simp
                        (try with_reducible rfl)
                      (try simp only [Act.put, List.setIfInBounds_toArray, List.set_cons_zero, List.set_cons_succ])
                      refine wpAnyH_take (i := 6) (v := ?_) (List.getElem?_toArray.trans rfl) (by kernel_rfl) (by kernel_rfl) (by kernel_rfl) (fun _ _ _ h => h) (Or.inl ⟨by rfl, ?_⟩) hHeld ?_
                      rotate_left
                      · intro wx hSw
                        (try dsimp only at hSw)
                        go_simp
                        (try with_reducible rfl)
                      (try simp only [Act.put, List.setIfInBounds_toArray, List.set_cons_zero, List.set_cons_succ])
                      refine wpAnyH_take (i := 7) (List.getElem?_toArray.trans rfl) (by kernel_rfl) (by kernel_rfl) (by kernel_rfl) (fun _ _ _ h => h) (Or.inr ⟨by rfl, rfl⟩) hHeld ?_
                      (try simp only [Act.put, List.setIfInBounds_toArray, List.set_cons_zero, List.set_cons_succ])
                      refine wpAnyH_take (i := 8) (List.getElem?_toArray.trans rfl) (by kernel_rfl) (by kernel_rfl) (by kernel_rfl) (fun _ _ _ h => h) (Or.inr ⟨by rfl, rfl⟩) hHeld ?_
                      (try simp only [Act.put, List.setIfInBounds_toArray, List.set_cons_zero, List.set_cons_succ])
                      refine wpAnyH_take (i := 9) (List.getElem?_toArray.trans rfl) (by kernel_rfl) (by kernel_rfl) (by kernel_rfl) (fun _ _ _ h => h) (Or.inr ⟨by rfl, rfl⟩) hHeld ?_
                      (try simp only [Act.put, List.setIfInBounds_toArray, List.set_cons_zero, List.set_cons_succ])
                      refine wpAnyH_take (i := 10) (v := ?_) (List.getElem?_toArray.trans rfl) (by kernel_rfl) (by kernel_rfl) (by kernel_rfl) (fun _ _ _ h => h) (Or.inl ⟨by rfl, ?_⟩) hHeld ?_
                      rotate_left
                      · intro wx hSw
                        (try dsimp only at hSw)
                        go_simp
                        (try with_reducible rfl)
                      (try simp only [Act.put, List.setIfInBounds_toArray, List.set_cons_zero, List.set_cons_succ])
                      refine wpAnyH_take (i := 11) (v := ?_) (List.getElem?_toArray.trans rfl) (by kernel_rfl) (by kernel_rfl) (by kernel_rfl) (fun _ _ _ h => h) (Or.inl ⟨by rfl, ?_⟩) hHeld ?_
                      rotate_left
                      · intro wx hSw
                        (try dsimp only at hSw)
                        go_simp
                        (try with_reducible rfl)
                      (try simp only [Act.put, List.setIfInBounds_toArray, List.set_cons_zero, List.set_cons_succ])
                      refine wpAnyH_take (i := 12) (List.getElem?_toArray.trans rfl) (by kernel_rfl) (by kernel_rfl) (by kernel_rfl) (fun _ _ _ h => h) (Or.inr ⟨by rfl, rfl⟩) hHeld ?_
                      (try simp only [Act.put, List.setIfInBounds_toArray, List.set_cons_zero, List.set_cons_succ])
                      refine wpAnyH_take (i := 13) (List.getElem?_toArray.trans rfl) (by kernel_rfl) (by kernel_rfl) (by kernel_rfl) (fun _ _ _ h => h) (Or.inr ⟨by rfl, rfl⟩) hHeld ?_
                      (try simp only [Act.put, List.setIfInBounds_toArray, List.set_cons_zero, List.set_cons_succ])
                      refine wpAnyH_take (i := 14) (List.getElem?_toArray.trans rfl) (by kernel_rfl) (by kernel_rfl) (by kernel_rfl) (fun _ _ _ h => h) (Or.inr ⟨by rfl, rfl⟩) hHeld ?_
                      (try simp only [Act.put, List.setIfInBounds_toArray, List.set_cons_zero, List.set_cons_succ])
                      refine wpAnyH_take (i := 15) (v := ?_) (List.getElem?_toArray.trans rfl) (by kernel_rfl) (by kernel_rfl) (by kernel_rfl) (fun _ _ _ h => h) (Or.inl ⟨by rfl, ?_⟩) hHeld ?_
                      rotate_left
                      · intro wx hSw
                        (try dsimp only at hSw)
                        go_simp
                        (try with_reducible rfl)
                      (try simp only [Act.put, List.setIfInBounds_toArray, List.set_cons_zero, List.set_cons_succ])
                      refine wpAnyH_take (i := 16) (v := ?_) (List.getElem?_toArray.trans rfl) (by kernel_rfl) (by kernel_rfl) (by kernel_rfl) (fun _ _ _ h => h) (Or.inl ⟨by rfl, ?_⟩) hHeld ?_
                      rotate_left
                      · intro wx hSw
                        (try dsimp only at hSw)
                        go_simp
                        (try with_reducible rfl)
                      (try simp only [Act.put, List.setIfInBounds_toArray, List.set_cons_zero, List.set_cons_succ])
                      refine wpAnyH_take (i := 17) (List.getElem?_toArray.trans rfl) (by kernel_rfl) (by kernel_rfl) (by kernel_rfl) (fun _ _ _ h => h) (Or.inr ⟨by rfl, rfl⟩) hHeld ?_
                      (try simp only [Act.put, List.setIfInBounds_toArray, List.set_cons_zero, List.set_cons_succ])
                      refine wpAnyH_take (i := 18) (List.getElem?_toArray.trans rfl) (by kernel_rfl) (by kernel_rfl) (by kernel_rfl) (fun _ _ _ h => h) (Or.inr ⟨by rfl, rfl⟩) hHeld ?_
                      (try simp only [Act.put, List.setIfInBounds_toArray, List.set_cons_zero, List.set_cons_succ])
                      refine wpAnyH_take (i := 19) (List.getElem?_toArray.trans rfl) (by kernel_rfl) (by kernel_rfl) (by kernel_rfl) (fun _ _ _ h => h) (Or.inr ⟨by rfl, rfl⟩) hHeld ?_
                      (try simp only [Act.put, List.setIfInBounds_toArray, List.set_cons_zero, List.set_cons_succ])
                      refine wpAnyH_take (i := 20) (List.getElem?_toArray.trans rfl) (by kernel_rfl) (by kernel_rfl) (by kernel_rfl) (fun _ _ _ h => h) (Or.inr ⟨by rfl, rfl⟩) hHeld ?_
                      (try simp only [Act.put, List.setIfInBounds_toArray, List.set_cons_zero, List.set_cons_succ])
                      refine wpAnyH_take (i := 21) (List.getElem?_toArray.trans rfl) (by kernel_rfl) (by kernel_rfl) (by kernel_rfl) (fun _ _ _ h => h) (Or.inr ⟨by rfl, rfl⟩) hHeld ?_
                      (try simp only [Act.put, List.setIfInBounds_toArray, List.set_cons_zero, List.set_cons_succ])
                      refine wpAnyH_take (i := 22) (List.getElem?_toArray.trans rfl) (by kernel_rfl) (by kernel_rfl) (by kernel_rfl) (fun _ _ _ h => h) (Or.inr ⟨by rfl, rfl⟩) hHeld ?_
                      (try simp only [Act.put, List.setIfInBounds_toArray, List.set_cons_zero, List.set_cons_succ])
                      refine wpAnyH_take (i := 23) (List.getElem?_toArray.trans rfl) (by kernel_rfl) (by kernel_rfl) (by kernel_rfl) (fun _ _ _ h => h) (Or.inr ⟨by rfl, rfl⟩) hHeld ?_
                      (try simp only [Act.put, List.setIfInBounds_toArray, List.set_cons_zero, List.set_cons_succ])
                      refine wpAnyH_take (i := 24) (List.getElem?_toArray.trans rfl) (by kernel_rfl) (by kernel_rfl) (by kernel_rfl) (fun _ _ _ h => h) (Or.inr ⟨by rfl, rfl⟩) hHeld ?_
                      (try simp only [Act.put, List.setIfInBounds_toArray, List.set_cons_zero, List.set_cons_succ])
                      refine wpAnyH_take (i := 25) (List.getElem?_toArray.trans rfl) (by kernel_rfl) (by kernel_rfl) (by kernel_rfl) (fun _ _ _ h => h) (Or.inr ⟨by rfl, rfl⟩) hHeld ?_
                      (try simp only [Act.put, List.setIfInBounds_toArray, List.set_cons_zero, List.set_cons_succ])
                      refine wpAnyH_take (i := 26) (List.getElem?_toArray.trans rfl) (by kernel_rfl) (by kernel_rfl) (by kernel_rfl) (fun _ _ _ h => h) (Or.inr ⟨by rfl, rfl⟩) hHeld ?_
                      (try simp only [Act.put, List.setIfInBounds_toArray, List.set_cons_zero, List.set_cons_succ])
                      refine wpAnyH_take (i := 27) (v := ?_) (List.getElem?_toArray.trans rfl) (by kernel_rfl) (by kernel_rfl) (by kernel_rfl) (fun _ _ _ h => h) (Or.inl ⟨by rfl, ?_⟩) hHeld ?_
                      rotate_left
                      · intro wx hSw
                        (try dsimp only at hSw)
                        go_simp
                        (try with_reducible rfl)
                      (try simp only [Act.put, List.setIfInBounds_toArray, List.set_cons_zero, List.set_cons_succ])
                      refine wpAnyH_take (i := 28) (v := ?_) (List.getElem?_toArray.trans rfl) (by kernel_rfl) (by kernel_rfl) (by kernel_rfl) (fun _ _ _ h => h) (Or.inl ⟨by rfl, ?_⟩) hHeld ?_
                      rotate_left
                      · intro wx hSw
                        (try dsimp only at hSw)
                        go_simp
                        (try with_reducible rfl)
                      (try simp only [Act.put, List.setIfInBounds_toArray, List.set_cons_zero, List.set_cons_succ])
                      refine wpAnyH_take (i := 29) (List.getElem?_toArray.trans rfl) (by kernel_rfl) (by kernel_rfl) (by kernel_rfl) (fun _ _ _ h => h) (Or.inr ⟨by rfl, rfl⟩) hHeld ?_
                      (try simp only [Act.put, List.setIfInBounds_toArray, List.set_cons_zero, List.set_cons_succ])
                      refine wpAnyH_take (i := 30) (List.getElem?_toArray.trans rfl) (by kernel_rfl) (by kernel_rfl) (by kernel_rfl) (fun _ _ _ h => h) (Or.inr ⟨by rfl, rfl⟩) hHeld ?_
                      (try simp only [Act.put, List.setIfInBounds_toArray, List.set_cons_zero, List.set_cons_succ])
                      refine wpAnyH_take (i := 31) (List.getElem?_toArray.trans rfl) (by kernel_rfl) (by kernel_rfl) (by kernel_rfl) (fun _ _ _ h => h) (Or.inr ⟨by rfl, rfl⟩) hHeld ?_
                      (try simp only [Act.put, List.setIfInBounds_toArray, List.set_cons_zero, List.set_cons_succ])
                      refine wpAnyH_take (i := 32) (List.getElem?_toArray.trans rfl) (by kernel_rfl) (by kernel_rfl) (by kernel_rfl) (fun _ _ _ h => h) (Or.inr ⟨by rfl, rfl⟩) hHeld ?_
                      (try simp only [Act.put, List.setIfInBounds_toArray, List.set_cons_zero, List.set_cons_succ])
                      refine wpAnyH_take (i := 33) (v := ?_) (List.getElem?_toArray.trans rfl) (by kernel_rfl) (by kernel_rfl) (by kernel_rfl) (fun _ _ _ h => h) (Or.inl ⟨by rfl, ?_⟩) hHeld ?_
                      rotate_left
                      · intro wx hSw
                        (try dsimp only at hSw)
                        go_simp
                        (try with_reducible rfl)
                      (try simp only [Act.put, List.setIfInBounds_toArray, List.set_cons_zero, List.set_cons_succ])
                      refine wpAnyH_done (by kernel_rfl) ?_ _
                      go_wp2_with fail
                      go_roundw
                      case rel => exact ⟨j + 1, by omega, by go_num, by rw [HQ2.out]; exact HH2.out.call hHeld.1, HN2.out.keep hHeld.1, HBO.out⟩
                      case measure => simp [intOf] <;> omega
              · obtain rfl : j = 2 := by omega
                clear hj2
                go_wp2_with fail
                go_roundw
                case rel => exact ⟨k + 1, by omega, by go_num, by rw [HF.out, HX.out, ← HJ2.out, ← HCJ.out]; exact HII.out⟩
                case measure => simp [intOf] <;> omega
          · have HX := Lib.hid (HP1.out (.inr hl2))
            have hne : ((l'.length : Int) != 2) = true := by simp; omega
            subst hk7
            clear hl2
            go_wp2_with fail
            go_roundw
            case rel => exact ⟨k + 1, by omega, by go_num, by rw [HF.out, HX.out]; exact HI.out.alloc _⟩
            case measure => simp [intOf] <;> omega
        · have HX := Lib.hid (HP1.out (.inl hk7))
          have hne : (k' != 7) = true := by simpa using hk7
          clear hk7
          go_wp2_with fail
          go_roundw
          case rel => exact ⟨k + 1, by omega, by go_num, by rw [HF.out, HX.out]; exact HI.out.alloc _⟩
          case measure => simp [intOf] <;> omega
    · have HRE := Lib.hid (show cur = R by rw [HC.out, HR.out, List.take_of_length_le (by omega)])
      go_wp2_with fail
      go_ret
      exact ⟨_, rfl, by rw [← HRE.out]; exact owns_base HI.out.2.2 (Nat.le_succ _), HI.out.1⟩
end Go.Proofs.Ytcnkghcdjicldaa
