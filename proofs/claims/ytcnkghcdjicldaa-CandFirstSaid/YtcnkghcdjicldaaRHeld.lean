/- The walk of the document's held. -/
import Derived.Test.YtcnkghcdjicldaaOfL
import Derived.Test.YtcnkghcdjicldaaHeld
import Derived.Test.YtcnkghcdjicldaaRTurn
namespace Go.Proofs.Ytcnkghcdjicldaa
open Go.RowKit

theorem wrap_eq (x : Int) : IntKind.i64.wrap x = wrap64 x := by rw [IntKind.wrap_i64]; unfold wrap64; rfl
def opsOf (eq : Bool) : List ByteArray := if eq = true then eqOps else rangeOps
theorem sg_true (OP : ByteArray) : hasS (opsOf true) OP = (OP.toList == [61]) := by
  have e : (⟨#[61]⟩ : ByteArray).toList = [61] := by rw [ByteArray.toList_eq]
  show (OP.toList == (⟨#[61]⟩ : ByteArray).toList || false) = _
  rw [e, Bool.or_false]
theorem sg_false (OP : ByteArray) : hasS (opsOf false) OP = (OP.toList == [60] || (OP.toList == [60, 61] || (OP.toList == [62] || OP.toList == [62, 61]))) := by
  have e1 : (⟨#[60]⟩ : ByteArray).toList = [60] := by rw [ByteArray.toList_eq]
  have e2 : (⟨#[60, 61]⟩ : ByteArray).toList = [60, 61] := by rw [ByteArray.toList_eq]
  have e3 : (⟨#[62]⟩ : ByteArray).toList = [62] := by rw [ByteArray.toList_eq]
  have e4 : (⟨#[62, 61]⟩ : ByteArray).toList = [62, 61] := by rw [ByteArray.toList_eq]
  show (OP.toList == (⟨#[60]⟩ : ByteArray).toList || (OP.toList == (⟨#[60, 61]⟩ : ByteArray).toList || (OP.toList == (⟨#[62]⟩ : ByteArray).toList || (OP.toList == (⟨#[62, 61]⟩ : ByteArray).toList || false)))) = _
  rw [e1, e2, e3, e4, Bool.or_false]
/-- what holds in the loops -/
def RHeldIn (w wr : World) (cs : Array Value) (out : Value) (zs : List Int) : Prop := Below w.heap.size w wr ∧ BoxC wr w.heap.size cs ∧ ∃ A c, out = .slice A zs.length c ∧ Ints wr A c zs
section
variable {w wr w2 : World} {cs : Array Value} {out : Value} {zs : List Int}
theorem RHeldIn.call (h : RHeldIn w wr cs out zs) (hB : Below wr.heap.size wr w2) : RHeldIn w w2 cs out zs := by
  obtain ⟨h1, h2, A, c, h3, h4⟩ := h
  exact ⟨h1.trans (hB.mono h1.size), h2.keep hB, A, c, h3, h4.keep hB⟩
theorem RHeldIn.below (h : RHeldIn w wr cs out zs) : Below w.heap.size w wr := h.1
theorem RHeldIn.slice (h : RHeldIn w wr cs out zs) : ∃ A c, out = .slice A zs.length c := by
  obtain ⟨_, _, A, c, h3, _⟩ := h
  exact ⟨A, c, h3⟩
theorem RHeldIn.ints {A : Option Addr} {n c : Nat} (h : RHeldIn w wr cs (.slice A n c) zs) : Ints wr A c zs := by
  obtain ⟨_, _, A, c, h3, h4⟩ := h
  cases h3
  exact h4
end
set_option maxRecDepth 100000 in
set_option maxHeartbeats 16000000 in
theorem rheld_any (q : Qd) (f : Nat) (eq : Bool) (w : World) (hq : QAt w q) (hw : q.wh.length ≤ 12) :
    Calls Try.prog 24 #[qV q, .int .i64 (f : Int), .bool eq] w (RetI (heldR q f (opsOf eq)) w) := by
  obtain ⟨tA, tc, tabs, bA, bc, beg, width, wA, wc, wh, gA, gn, gc, grouped, iA, i_n, ic, oA, oc, ord, limit⟩ := q
  have HTAB := Lib.hid (fun (a : Int) (W : World) (hB : Below w.heap.size w W) => table_any _ a W (hq.keep hB))
  have HRD := Lib.hid (fun (t : NodeT) (W : World) (hB : Below w.heap.size w W) (ht : NodesAt w t.A t.args) => rreads_any _ f _ t (Nat.lt_succ_self _) W (hq.keep hB) (ht.keep hB))
  have HBG := Lib.hid hq.2.1.at
  have hbs := hq.2.1.small
  unfold maxLen at hbs
  have HWH := Lib.hid (nodes_at hq.2.2.1)
  have HSUB := Lib.hid (fun (j : Nat) (t : NodeT) (h : wh[j]? = some t) => nodes_sub hq.2.2.1 h)
  have HLE := Lib.hid (heldR_le ⟨tA, tc, tabs, bA, bc, beg, width, wA, wc, wh, gA, gn, gc, grouped, iA, i_n, ic, oA, oc, ord, limit⟩ f (opsOf eq))
  have HPT := Lib.hid (part_two ⟨tA, tc, tabs, bA, bc, beg, width, wA, wc, wh, gA, gn, gc, grouped, iA, i_n, ic, oA, oc, ord, limit⟩ f (opsOf eq))
  have HPS := Lib.hid (part_skip ⟨tA, tc, tabs, bA, bc, beg, width, wA, wc, wh, gA, gn, gc, grouped, iA, i_n, ic, oA, oc, ord, limit⟩ f (opsOf eq))
  have HSI := Lib.hid (show ∀ op x y out, sideR ⟨tA, tc, tabs, bA, bc, beg, width, wA, wc, wh, gA, gn, gc, grouped, iA, i_n, ic, oA, oc, ord, limit⟩ f (opsOf eq) op x y out = if testR ⟨tA, tc, tabs, bA, bc, beg, width, wA, wc, wh, gA, gn, gc, grouped, iA, i_n, ic, oA, oc, ord, limit⟩ f (opsOf eq) op x y = true then onceR out (colR ⟨tA, tc, tabs, bA, bc, beg, width, wA, wc, wh, gA, gn, gc, grouped, iA, i_n, ic, oA, oc, ord, limit⟩ f x.at_) else out from fun _ _ _ _ => rfl)
  have HTE := Lib.hid (show ∀ op x y, testR ⟨tA, tc, tabs, bA, bc, beg, width, wA, wc, wh, gA, gn, gc, grouped, iA, i_n, ic, oA, oc, ord, limit⟩ f (opsOf eq) op x y = ((x.kind == 2) && (decide (tabR ⟨tA, tc, tabs, bA, bc, beg, width, wA, wc, wh, gA, gn, gc, grouped, iA, i_n, ic, oA, oc, ord, limit⟩ x.at_ = some f) && (hasS (opsOf eq) op && !readsR ⟨tA, tc, tabs, bA, bc, beg, width, wA, wc, wh, gA, gn, gc, grouped, iA, i_n, ic, oA, oc, ord, limit⟩ f y))) from fun _ _ _ => rfl)
  have HSL := Lib.hid (sideR_le ⟨tA, tc, tabs, bA, bc, beg, width, wA, wc, wh, gA, gn, gc, grouped, iA, i_n, ic, oA, oc, ord, limit⟩ f (opsOf eq))
  obtain ⟨side, hside⟩ : ∃ g, g = sideR ⟨tA, tc, tabs, bA, bc, beg, width, wA, wc, wh, gA, gn, gc, grouped, iA, i_n, ic, oA, oc, ord, limit⟩ f (opsOf eq) := ⟨_, rfl⟩
  rw [← hside] at HPT HSI HSL
  obtain ⟨part, hpart⟩ : ∃ g, g = partR ⟨tA, tc, tabs, bA, bc, beg, width, wA, wc, wh, gA, gn, gc, grouped, iA, i_n, ic, oA, oc, ord, limit⟩ f (opsOf eq) := ⟨_, rfl⟩
  obtain ⟨R, hR⟩ : ∃ R, R = heldR ⟨tA, tc, tabs, bA, bc, beg, width, wA, wc, wh, gA, gn, gc, grouped, iA, i_n, ic, oA, oc, ord, limit⟩ f (opsOf eq) := ⟨_, rfl⟩
  have HR := Lib.hid (show R = wh.foldl part [] by rw [hR, hpart]; rfl)
  rw [← hR]
  rw [← hpart] at HLE HPT HPS
  have hw' : wh.length ≤ 12 := hw
  dsimp only at HTAB HRD HWH HLE HBG hbs
  unfold qV Qd.cells
  dsimp only
  have HQQ := Lib.hid (show RHeldIn w (w.alloc (.cells #[.slice tA tabs.length tc, .slice bA beg.length bc, .int .i64 width, .slice wA wh.length wc, .slice gA gn gc, .bool grouped, .slice iA i_n ic, .slice oA ord.length oc, .int .i64 limit] 26)) #[.slice tA tabs.length tc, .slice bA beg.length bc, .int .i64 width, .slice wA wh.length wc, .slice gA gn gc, .bool grouped, .slice iA i_n ic, .slice oA ord.length oc, .int .i64 limit] (.slice none 0 0) [] from ⟨below1 _ _, heap_alloc_new w _, none, 0, rfl, Ints.nil _⟩)
  clear hR hpart hw hq hside
  have sf := store_float
  go_enter Try.func24, Try.ntmps24
  go_wp2_with fail
  go_loopw [7, 8] (fun out i wr => ∃ k : Nat, k ≤ wh.length ∧ i = .int .i64 k ∧ RHeldIn w wr #[.slice tA tabs.length tc, .slice bA beg.length bc, .int .i64 width, .slice wA wh.length wc, .slice gA gn gc, .bool grouped, .slice iA i_n ic, .slice oA ord.length oc, .int .i64 limit] out ((wh.take k).foldl part [])) (fun _ i _ => wh.length - (intOf i).toNat)
  case atStart => exact ⟨0, Nat.zero_le _, rfl, HQQ.out⟩
  case round =>
    obtain ⟨k, hk, rfl, hin⟩ := hrel
    obtain ⟨wo, rfl⟩ : ∃ wo : World, wo = wr := ⟨_, rfl⟩
    have hlen := HLE.out k
    obtain ⟨cur, hcur⟩ : ∃ c, c = (wh.take k).foldl part [] := ⟨_, rfl⟩
    rw [← hcur] at hin hlen
    have HC := Lib.hid hcur
    have HI := Lib.hid hin
    obtain ⟨A0, c0, hv⟩ := hin.slice
    subst hv
    obtain ⟨q0, q1, q2, q3, q4, q5, q6, q7, q8⟩ := box9 _ _ _ _ _ _ _ _ _ _ _ hin.2.1
    have hlt0 := heap_lt hin.2.1
    clear hin hcur
    by_cases hlt : k < wh.length
    · rcases HWH.out with h0 | ⟨b, off, rfl, hbl, hc⟩
      · exfalso; rw [h0] at hlt; simp at hlt
      · obtain ⟨t', hx⟩ : ∃ x, wh[k]? = some x := ⟨_, List.getElem?_eq_getElem hlt⟩
        have HF := Lib.hid (show (wh.take (k + 1)).foldl part [] = part cur t' by rw [fold_snoc _ _ _ _ _ hx, HC.out])
        have HSU := Lib.hid (HSUB.out k t' hx)
        have HP1 := Lib.hid (HPS.out cur t')
        have HP2 := Lib.hid (HPT.out cur t')
        obtain ⟨k', o', lk', ln', lf', ls', a', nt', ty', A', c', l'⟩ := t'
        change Hid (NodesAt w A' l') at HSU
        change Hid (k' ≠ 7 ∨ l'.length ≠ 2 → _) at HP1
        obtain ⟨m0, m1, m2, m3, m4, m5, m6, m7, m8, m9⟩ := node_cells HI.out.1 hbl hc hx
        clear hc hx HSUB HWH HQQ HPT HPS
        by_cases hk7 : k' = 7
        · by_cases hl2 : l'.length = 2
          · obtain ⟨x, y, hxy⟩ : ∃ x y, l' = [x, y] := by
              match l', hl2 with
              | [x, y], _ => exact ⟨x, y, rfl⟩
            have HX := Lib.hid (show part cur _ = side (turnR o') y x (side o' x y cur) from HP2.out x y hk7 hxy)
            obtain ⟨b2, off2, hA2, hb2, hcx, hcy, hnx, hny⟩ := nodes_two HSU.out hxy
            subst hA2
            subst hxy
            subst hk7
            have hb2o : b2 < wo.heap.size := Nat.lt_of_lt_of_le hb2 HI.out.1.size
            have HNX := Lib.hid hnx
            have HNY := Lib.hid hny
            have HCX := Lib.hid hcx
            have HCY := Lib.hid hcy
            have HBN := Lib.hid (show BoxN (wo.alloc (.cells #[.int .i64 7, .string o', .int .i64 lk', .int .i64 ln', .float .f64 lf', .string ls', .int .i64 a', .bool nt', .int .i64 ty', .slice (some ⟨b2, off2, none⟩) 2 c'] 42)) wo.heap.size 7 o' lk' ln' lf' ls' a' nt' ty' (some ⟨b2, off2, none⟩) 2 c' from heap_alloc_new _ _)
            obtain ⟨opJ, hO⟩ : ∃ g : Nat → ByteArray, g = fun j => if j = 0 then o' else if j = 1 then turnR o' else turnR (turnR o') := ⟨_, rfl⟩
            have HOP0 := Lib.hid (show opJ 0 = o' by rw [hO]; rfl)
            have HOP1 := Lib.hid (show opJ 1 = turnR o' by rw [hO]; rfl)
            have HOPJ := Lib.hid (show ∀ j, j < 2 → turnR (opJ j) = opJ (j + 1) from fun j hj => by
              rcases (show j = 0 ∨ j = 1 by omega) with rfl | rfl <;> (rw [hO]; rfl))
            obtain ⟨outJ, hJ⟩ : ∃ g : Nat → List Int, g = fun j => if j = 0 then cur else if j = 1 then side o' x y cur else side (turnR o') y x (side o' x y cur) := ⟨_, rfl⟩
            have HJ0 := Lib.hid (show outJ 0 = cur by rw [hJ]; rfl)
            have HJ1 := Lib.hid (show outJ 1 = side o' x y cur by rw [hJ]; rfl)
            have HJ2 := Lib.hid (show outJ 2 = side (turnR o') y x (side o' x y cur) by rw [hJ]; rfl)
            have HJ2' := Lib.hid (show outJ 2 = side (turnR o') y x (outJ 1) by rw [HJ2.out, HJ1.out])
            have HJ1' := Lib.hid (show outJ 1 = side o' x y (outJ 0) by rw [HJ1.out, HJ0.out])
            have HJL := Lib.hid (show ∀ j, (outJ j).length ≤ cur.length + 2 from fun j => by
              have g1 := HSL.out o' x y cur
              have g2 := HSL.out (turnR o') y x (side o' x y cur)
              rw [hJ]; dsimp only
              split
              · omega
              · split <;> omega)
            clear hl2 hnx hny hcx hcy HSU HP1 HP2 hJ hO
            go_wp2_with fail
            go_loopw [7, 10, 11] (fun out op i wr => ∃ j : Nat, j ≤ 2 ∧ i = .int .i64 j ∧ op = .string (opJ j) ∧ RHeldIn w wr #[.slice tA tabs.length tc, .slice bA beg.length bc, .int .i64 width, .slice (some ⟨b, off, none⟩) wh.length wc, .slice gA gn gc, .bool grouped, .slice iA i_n ic, .slice oA ord.length oc, .int .i64 limit] out (outJ j) ∧ BoxN wr wo.heap.size 7 o' lk' ln' lf' ls' a' nt' ty' (some ⟨b2, off2, none⟩) 2 c') (fun _ _ i _ => 2 - (intOf i).toNat)
            case atStart => exact ⟨0, Nat.zero_le _, rfl, by rw [HOP0.out], by rw [HJ0.out]; exact HI.out.call (below1 _ _), HBN.out⟩
            case round =>
              obtain ⟨j, hj, rfl, rfl, hin, hbn⟩ := hrel
              obtain ⟨wi, rfl⟩ : ∃ wi : World, wi = wr := ⟨_, rfl⟩
              clear q0 q1 q2 q3 q4 q5 q6 q7 q8 m0 m1 m2 m3 m4 m5 m6 m7 m8 m9
              have hlen2 := HJL.out j
              obtain ⟨cj, hcj⟩ : ∃ c, c = outJ j := ⟨_, rfl⟩
              rw [← hcj] at hin hlen2
              have HCJ := Lib.hid hcj
              have HII := Lib.hid hin
              obtain ⟨A1, c1, hv⟩ := hin.slice
              subst hv
              have HBN2 := Lib.hid hbn
              clear hin hcj hbn
              by_cases hj2 : j < 2
              · skip
                obtain ⟨q0, q1, q2, q3, q4, q5, q6, q7, q8⟩ := box9 _ _ _ _ _ _ _ _ _ _ _ HII.out.2.1
                obtain ⟨n0, n1, n2, n3, n4, n5, n6, n7, n8, n9⟩ := HBN2.out.cells
                have hl0 := heap_lt HII.out.2.1
                have hl1 := heap_lt HBN2.out
                have hbw : Below w.heap.size w wi := HII.out.1
                have hb2i : b2 < wi.heap.size := Nat.lt_of_lt_of_le hb2 hbw.size
                obtain ⟨j2, hj2e⟩ : ∃ j2, j2 = 1 - j := ⟨_, rfl⟩
                have hj21 : IntKind.i64.wrap (1 - (j : Int)) = (j2 : Int) := by rw [IntKind.wrap_i64]; omega
                have HOPN := Lib.hid (HOPJ.out j hj2)
                obtain ⟨X, Y, OP, hXY⟩ : ∃ X Y : NodeT, ∃ OP : ByteArray, (outJ (j + 1) = side OP X Y (outJ j)) ∧ (∀ (i : Nat) (v : Value), X.cells[i]? = some v → w.cell? ⟨b2, off2 + j * 10 + i, none⟩ = some v) ∧ (∀ (i : Nat) (v : Value), Y.cells[i]? = some v → w.cell? ⟨b2, off2 + j2 * 10 + i, none⟩ = some v) ∧ NodesAt w Y.A Y.args ∧ OP = opJ j := by
                  rcases (show j = 0 ∨ j = 1 by omega) with rfl | rfl
                  · subst hj2e
                    exact ⟨x, y, o', HJ1'.out, fun i v hv => by have := HCX.out i v hv; simpa using this, fun i v hv => by have := HCY.out i v hv; simpa using this, HNY.out, HOP0.out.symm⟩
                  · subst hj2e
                    exact ⟨y, x, turnR o', HJ2'.out, fun i v hv => by have := HCY.out i v hv; simpa using this, fun i v hv => by have := HCX.out i v hv; simpa using this, HNX.out, HOP1.out.symm⟩
                obtain ⟨hE, hXc, hYc, hYn, hOP⟩ := hXY
                have HE := Lib.hid hE
                rw [← HCJ.out] at HE
                rw [← hOP] at HOPN ⊢
                have HYc := Lib.hid hYc
                have HYn := Lib.hid hYn
                have hj2l : j2 < 2 := by omega
                have hj2i : (j2 : Int) < 2 := by omega
                obtain ⟨kx, ox, lkx, lnx, lfx, lsx, ax, ntx, tyx, Ax, cx, lx⟩ := X
                have HTY := Lib.hid (fun W hB => HRD.out Y W hB HYn.out)
                have HT1 := Lib.hid (HTE.out OP (.mk kx ox lkx lnx lfx lsx ax ntx tyx Ax cx lx) Y)
                have HS1 := Lib.hid (HSI.out OP (.mk kx ox lkx lnx lfx lsx ax ntx tyx Ax cx lx) Y cj)
                obtain ⟨x0, x1, x2, x3, x4, x5, x6, x7, x8, x9⟩ := node_at (off := off2 + j * 10) hbw hb2 hXc
                have HH5 := Lib.hid (HII.out.call (below1 wi (.cells #[.int .i64 kx, .string ox, .int .i64 lkx, .int .i64 lnx, .float .f64 lfx, .string lsx, .int .i64 ax, .bool ntx, .int .i64 tyx, .slice Ax lx.length cx] 42)))
                have HN5 := Lib.hid (HBN2.out.keep (below1 wi (.cells #[.int .i64 kx, .string ox, .int .i64 lkx, .int .i64 lnx, .float .f64 lfx, .string lsx, .int .i64 ax, .bool ntx, .int .i64 tyx, .slice Ax lx.length cx] 42)))
                have HX5 := Lib.hid (show BoxN (wi.alloc (.cells #[.int .i64 kx, .string ox, .int .i64 lkx, .int .i64 lnx, .float .f64 lfx, .string lsx, .int .i64 ax, .bool ntx, .int .i64 tyx, .slice Ax lx.length cx] 42)) wi.heap.size kx ox lkx lnx lfx lsx ax ntx tyx Ax lx.length cx from heap_alloc_new _ _)
                obtain ⟨sg, hsg⟩ : ∃ sg, sg = hasS (opsOf eq) OP := ⟨_, rfl⟩
                have HSG := Lib.hid hsg
                have hj02 : (j : Int) < 2 := by omega
                clear hbw hE hXc hYc hYn hOP hj2e hj2 hsg
                go_upto_region 12 with (fail)
                go_cut [13] from 37 to 108 (fun s13 wc => s13 = .bool sg ∧ wc = wi.alloc (.cells #[.int .i64 kx, .string ox, .int .i64 lkx, .int .i64 lnx, .float .f64 lfx, .string lsx, .int .i64 ax, .bool ntx, .int .i64 tyx, .slice Ax lx.length cx] 42))
                case first =>
                  cases eq with
                  | true =>
                    cases e0 : (OP.toList == [61]) with
                    | true =>
                      have HSGL := Lib.hid (show sg = true by rw [HSG.out, sg_true, e0])
                      go_wp2_with fail
                      go_meet
                      exact ⟨by rw [HSGL.out], rfl⟩
                    | false =>
                      have HSGL := Lib.hid (show sg = false by rw [HSG.out, sg_true, e0])
                      go_wp2_with fail
                      go_meet
                      exact ⟨by rw [HSGL.out], rfl⟩
                  | false =>
                    cases e0 : (OP.toList == [61]) with
                    | true =>
                      cases e1 : (OP.toList == [60]) with
                      | true =>
                        have HSGL := Lib.hid (show sg = true by rw [HSG.out, sg_false, e1]; rfl)
                        go_wp2_with fail
                        go_meet
                        exact ⟨by rw [HSGL.out], rfl⟩
                      | false =>
                        cases e2 : (OP.toList == [60, 61]) with
                        | true =>
                          have HSGL := Lib.hid (show sg = true by rw [HSG.out, sg_false, e1, e2]; rfl)
                          go_wp2_with fail
                          go_meet
                          exact ⟨by rw [HSGL.out], rfl⟩
                        | false =>
                          cases e3 : (OP.toList == [62]) with
                          | true =>
                            have HSGL := Lib.hid (show sg = true by rw [HSG.out, sg_false, e1, e2, e3]; rfl)
                            go_wp2_with fail
                            go_meet
                            exact ⟨by rw [HSGL.out], rfl⟩
                          | false =>
                            cases e4 : (OP.toList == [62, 61]) with
                            | true =>
                              have HSGL := Lib.hid (show sg = true by rw [HSG.out, sg_false, e1, e2, e3, e4]; rfl)
                              go_wp2_with fail
                              go_meet
                              exact ⟨by rw [HSGL.out], rfl⟩
                            | false =>
                              have HSGL := Lib.hid (show sg = false by rw [HSG.out, sg_false, e1, e2, e3, e4]; rfl)
                              go_wp2_with fail
                              go_meet
                              exact ⟨by rw [HSGL.out], rfl⟩
                    | false =>
                      cases e1 : (OP.toList == [60]) with
                      | true =>
                        have HSGL := Lib.hid (show sg = true by rw [HSG.out, sg_false, e1]; rfl)
                        go_wp2_with fail
                        go_meet
                        exact ⟨by rw [HSGL.out], rfl⟩
                      | false =>
                        cases e2 : (OP.toList == [60, 61]) with
                        | true =>
                          have HSGL := Lib.hid (show sg = true by rw [HSG.out, sg_false, e1, e2]; rfl)
                          go_wp2_with fail
                          go_meet
                          exact ⟨by rw [HSGL.out], rfl⟩
                        | false =>
                          cases e3 : (OP.toList == [62]) with
                          | true =>
                            have HSGL := Lib.hid (show sg = true by rw [HSG.out, sg_false, e1, e2, e3]; rfl)
                            go_wp2_with fail
                            go_meet
                            exact ⟨by rw [HSGL.out], rfl⟩
                          | false =>
                            cases e4 : (OP.toList == [62, 61]) with
                            | true =>
                              have HSGL := Lib.hid (show sg = true by rw [HSG.out, sg_false, e1, e2, e3, e4]; rfl)
                              go_wp2_with fail
                              go_meet
                              exact ⟨by rw [HSGL.out], rfl⟩
                            | false =>
                              have HSGL := Lib.hid (show sg = false by rw [HSG.out, sg_false, e1, e2, e3, e4]; rfl)
                              go_wp2_with fail
                              go_meet
                              exact ⟨by rw [HSGL.out], rfl⟩
                case rest =>
                  obtain ⟨rfl, rfl⟩ := hcut
                  obtain ⟨w5, hw5⟩ : ∃ w5 : World, w5 = wi.alloc (.cells #[.int .i64 kx, .string ox, .int .i64 lkx, .int .i64 lnx, .float .f64 lfx, .string lsx, .int .i64 ax, .bool ntx, .int .i64 tyx, .slice Ax lx.length cx] 42) := ⟨_, rfl⟩
                  rw [← hw5] at HH5 HN5 HX5 ⊢
                  clear hw5 q0 q1 q2 q3 q4 q5 q6 q7 q8 n0 n1 n2 n3 n4 n5 n6 n7 n8 n9 x0 x1 x2 x3 x4 x5 x6 x7 x8 x9
                  obtain ⟨q0, q1, q2, q3, q4, q5, q6, q7, q8⟩ := box9 _ _ _ _ _ _ _ _ _ _ _ HH5.out.2.1
                  obtain ⟨n0, n1, n2, n3, n4, n5, n6, n7, n8, n9⟩ := HN5.out.cells
                  obtain ⟨x0, -, -, -, -, -, x6, -, -, -⟩ := HX5.out.cells
                  clear n0 n1 n2 n3 n4 n5 n6 n7 n8
                  obtain ⟨ky, oy, lky, lny, lfy, lsy, ay, nty, tyy, Ay, cy, ly⟩ := Y
                  obtain ⟨y0, y1, y2, y3, y4, y5, y6, y7, y8, y9⟩ := node_at (off := off2 + j2 * 10) HH5.out.1 hb2 HYc.out
                  have hS : ∀ wx, Below w5.heap.size w5 wx → Below w5.heap.size w5 wx ∧ wx.cell? ⟨wi.heap.size, 0, none⟩ = some (.int .i64 kx) ∧ wx.cell? ⟨wi.heap.size, 6, none⟩ = some (.int .i64 ax) ∧ wx.cell? ⟨w.heap.size, 0, none⟩ = some (.slice tA tabs.length tc) ∧ wx.cell? ⟨w.heap.size, 1, none⟩ = some (.slice bA beg.length bc) ∧ wx.cell? ⟨w.heap.size, 2, none⟩ = some (.int .i64 width) ∧ wx.cell? ⟨w.heap.size, 3, none⟩ = some (.slice (some ⟨b, off, none⟩) wh.length wc) ∧ wx.cell? ⟨w.heap.size, 4, none⟩ = some (.slice gA gn gc) ∧ wx.cell? ⟨w.heap.size, 5, none⟩ = some (.bool grouped) ∧ wx.cell? ⟨w.heap.size, 6, none⟩ = some (.slice iA i_n ic) ∧ wx.cell? ⟨w.heap.size, 7, none⟩ = some (.slice oA ord.length oc) ∧ wx.cell? ⟨w.heap.size, 8, none⟩ = some (.int .i64 limit) ∧ wx.cell? ⟨wo.heap.size, 9, none⟩ = some (.slice (some ⟨b2, off2, none⟩) 2 c') ∧ wx.cell? ⟨b2, off2 + j2 * 10, none⟩ = some (.int .i64 ky) ∧ wx.cell? ⟨b2, off2 + j2 * 10 + 1, none⟩ = some (.string oy) ∧ wx.cell? ⟨b2, off2 + j2 * 10 + 2, none⟩ = some (.int .i64 lky) ∧ wx.cell? ⟨b2, off2 + j2 * 10 + 3, none⟩ = some (.int .i64 lny) ∧ wx.cell? ⟨b2, off2 + j2 * 10 + 4, none⟩ = some (.float .f64 lfy) ∧ wx.cell? ⟨b2, off2 + j2 * 10 + 5, none⟩ = some (.string lsy) ∧ wx.cell? ⟨b2, off2 + j2 * 10 + 6, none⟩ = some (.int .i64 ay) ∧ wx.cell? ⟨b2, off2 + j2 * 10 + 7, none⟩ = some (.bool nty) ∧ wx.cell? ⟨b2, off2 + j2 * 10 + 8, none⟩ = some (.int .i64 tyy) ∧ wx.cell? ⟨b2, off2 + j2 * 10 + 9, none⟩ = some (.slice Ay ly.length cy) := by
                    have hlq := heap_lt HH5.out.2.1
                    have hln := heap_lt HN5.out
                    have hlx := heap_lt HX5.out
                    have hly : b2 < w5.heap.size := Nat.lt_of_lt_of_le hb2 HH5.out.1.size
                    intro wx h
                    refine ⟨h, ?_, ?_, ?_, ?_, ?_, ?_, ?_, ?_, ?_, ?_, ?_, ?_, ?_, ?_, ?_, ?_, ?_, ?_, ?_, ?_, ?_, ?_⟩
                    · exact keep_all h hlx x0
                    · exact keep_all h hlx x6
                    · exact keep_all h hlq q0
                    · exact keep_all h hlq q1
                    · exact keep_all h hlq q2
                    · exact keep_all h hlq q3
                    · exact keep_all h hlq q4
                    · exact keep_all h hlq q5
                    · exact keep_all h hlq q6
                    · exact keep_all h hlq q7
                    · exact keep_all h hlq q8
                    · exact keep_all h hln n9
                    · exact keep_all h hly y0
                    · exact keep_all h hly y1
                    · exact keep_all h hly y2
                    · exact keep_all h hly y3
                    · exact keep_all h hly y4
                    · exact keep_all h hly y5
                    · exact keep_all h hly y6
                    · exact keep_all h hly y7
                    · exact keep_all h hly y8
                    · exact keep_all h hly y9
                  have HSX := Lib.hid hS
                  clear hS
                  clear q0 q1 q2 q3 q4 q5 q6 q7 q8 n9 x0 x6 y0 y1 y2 y3 y4 y5 y6 y7 y8 y9
                  go_wp2_with fail
                  by_cases hkx : kx = 2
                  · subst hkx
                    by_cases htf : tabR ⟨tA, tc, tabs, bA, bc, beg, width, (some ⟨b, off, none⟩), wc, wh, gA, gn, gc, grouped, iA, i_n, ic, oA, oc, ord, limit⟩ ax = some f
                    · have HTC := Lib.hid (show ∀ W, Below w.heap.size w W → Calls Try.prog 43 #[qV ⟨tA, tc, tabs, bA, bc, beg, width, (some ⟨b, off, none⟩), wc, wh, gA, gn, gc, grouped, iA, i_n, ic, oA, oc, ord, limit⟩, .int .i64 ax] W (RetV (.int .i64 (f : Int)) W) from fun W hB => by have := HTAB.out ax W hB; rw [htf] at this; exact this)
                      have HTB := Lib.hid htf
                      have HTB2 := Lib.hid (show decide (tabR ⟨tA, tc, tabs, bA, bc, beg, width, (some ⟨b, off, none⟩), wc, wh, gA, gn, gc, grouped, iA, i_n, ic, oA, oc, ord, limit⟩ ax = some f) = true from decide_eq_true htf)
                      clear htf
                      cases sg with
                      | false =>
                        have HQ2 := Lib.hid (show outJ (j + 1) = cj by rw [HE.out, HS1.out, if_neg]; rw [HT1.out]; show ¬ ((2 : Int) == 2 && (decide (tabR _ ax = some f) && (hasS _ OP && _))) = true; rw [HTB2.out, ← HSG.out]; simp)
                        refine wp_region_held_drew (S := (fun wx => Below w5.heap.size w5 wx ∧ wx.cell? ⟨wi.heap.size, 0, none⟩ = some (.int .i64 2) ∧ wx.cell? ⟨wi.heap.size, 6, none⟩ = some (.int .i64 ax) ∧ wx.cell? ⟨w.heap.size, 0, none⟩ = some (.slice tA tabs.length tc) ∧ wx.cell? ⟨w.heap.size, 1, none⟩ = some (.slice bA beg.length bc) ∧ wx.cell? ⟨w.heap.size, 2, none⟩ = some (.int .i64 width) ∧ wx.cell? ⟨w.heap.size, 3, none⟩ = some (.slice (some ⟨b, off, none⟩) wh.length wc) ∧ wx.cell? ⟨w.heap.size, 4, none⟩ = some (.slice gA gn gc) ∧ wx.cell? ⟨w.heap.size, 5, none⟩ = some (.bool grouped) ∧ wx.cell? ⟨w.heap.size, 6, none⟩ = some (.slice iA i_n ic) ∧ wx.cell? ⟨w.heap.size, 7, none⟩ = some (.slice oA ord.length oc) ∧ wx.cell? ⟨w.heap.size, 8, none⟩ = some (.int .i64 limit) ∧ wx.cell? ⟨wo.heap.size, 9, none⟩ = some (.slice (some ⟨b2, off2, none⟩) 2 c') ∧ wx.cell? ⟨b2, off2 + j2 * 10, none⟩ = some (.int .i64 ky) ∧ wx.cell? ⟨b2, off2 + j2 * 10 + 1, none⟩ = some (.string oy) ∧ wx.cell? ⟨b2, off2 + j2 * 10 + 2, none⟩ = some (.int .i64 lky) ∧ wx.cell? ⟨b2, off2 + j2 * 10 + 3, none⟩ = some (.int .i64 lny) ∧ wx.cell? ⟨b2, off2 + j2 * 10 + 4, none⟩ = some (.float .f64 lfy) ∧ wx.cell? ⟨b2, off2 + j2 * 10 + 5, none⟩ = some (.string lsy) ∧ wx.cell? ⟨b2, off2 + j2 * 10 + 6, none⟩ = some (.int .i64 ay) ∧ wx.cell? ⟨b2, off2 + j2 * 10 + 7, none⟩ = some (.bool nty) ∧ wx.cell? ⟨b2, off2 + j2 * 10 + 8, none⟩ = some (.int .i64 tyy) ∧ wx.cell? ⟨b2, off2 + j2 * 10 + 9, none⟩ = some (.slice Ay ly.length cy))) (by kernel_rfl) (HSX.out _ (Below.refl _ _).drew) (fun hHeld => ?_)
                        (try dsimp only at hHeld)
                        refine wpAnyH_take (i := 0) (v := ?_) (List.getElem?_toArray.trans rfl) (by kernel_rfl) (by kernel_rfl) (by kernel_rfl) (fun _ _ _ h => h) (Or.inl ⟨by rfl, ?_⟩) hHeld ?_
                        rotate_left
                        · intro wx hSw
                          (try dsimp only at hSw)
                          go_simp
                          (try with_reducible rfl)
                        (try simp only [Act.put, List.setIfInBounds_toArray, List.set_cons_zero, List.set_cons_succ])
                        refine wpAnyH_take (i := 1) (v := ?_) (List.getElem?_toArray.trans rfl) (by kernel_rfl) (by kernel_rfl) (by kernel_rfl) (fun _ _ _ h => h) (Or.inl ⟨by rfl, ?_⟩) hHeld ?_
                        rotate_left
                        · intro wx hSw
                          (try dsimp only at hSw)
                          go_simp
                          (try with_reducible rfl)
                        (try simp only [Act.put, List.setIfInBounds_toArray, List.set_cons_zero, List.set_cons_succ])
                        refine wpAnyH_take (i := 2) (v := ?_) (List.getElem?_toArray.trans rfl) (by kernel_rfl) (by kernel_rfl) (by kernel_rfl) (fun _ _ _ h => h) (Or.inl ⟨by rfl, ?_⟩) hHeld ?_
                        rotate_left
                        · intro wx hSw
                          (try dsimp only at hSw)
                          go_simp
                          (try with_reducible rfl)
                        (try simp only [Act.put, List.setIfInBounds_toArray, List.set_cons_zero, List.set_cons_succ])
                        refine wpAnyH_take (i := 3) (v := ?_) (List.getElem?_toArray.trans rfl) (by kernel_rfl) (by kernel_rfl) (by kernel_rfl) (fun _ _ _ h => h) (Or.inl ⟨by rfl, ?_⟩) hHeld ?_
                        rotate_left
                        · intro wx hSw
                          (try dsimp only at hSw)
                          go_simp
                          (try with_reducible rfl)
                        (try simp only [Act.put, List.setIfInBounds_toArray, List.set_cons_zero, List.set_cons_succ])
                        refine wpAnyH_take (i := 4) (v := ?_) (List.getElem?_toArray.trans rfl) (by kernel_rfl) (by kernel_rfl) (by kernel_rfl) (fun _ _ _ h => h) (Or.inl ⟨by rfl, ?_⟩) hHeld ?_
                        rotate_left
                        · intro wx hSw
                          (try dsimp only at hSw)
                          go_simp
                          (try with_reducible rfl)
                        (try simp only [Act.put, List.setIfInBounds_toArray, List.set_cons_zero, List.set_cons_succ])
                        refine wpAnyH_take (i := 5) (v := ?_) (List.getElem?_toArray.trans rfl) (by kernel_rfl) (by kernel_rfl) (by kernel_rfl) (fun _ _ _ h => h) (Or.inl ⟨by rfl, ?_⟩) hHeld ?_
                        rotate_left
                        · intro wx hSw
                          (try dsimp only at hSw)
                          go_simp
                          (try with_reducible rfl)
                        (try simp only [Act.put, List.setIfInBounds_toArray, List.set_cons_zero, List.set_cons_succ])
                        refine wpAnyH_take (i := 6) (v := ?_) (List.getElem?_toArray.trans rfl) (by kernel_rfl) (by kernel_rfl) (by kernel_rfl) (fun _ _ _ h => h) (Or.inl ⟨by rfl, ?_⟩) hHeld ?_
                        rotate_left
                        · intro wx hSw
                          (try dsimp only at hSw)
                          go_simp
                          (try with_reducible rfl)
                        (try simp only [Act.put, List.setIfInBounds_toArray, List.set_cons_zero, List.set_cons_succ])
                        refine wpAnyH_take (i := 8) (v := ?_) (List.getElem?_toArray.trans rfl) (by kernel_rfl) (by kernel_rfl) (by kernel_rfl) (fun _ _ _ h => h) (Or.inl ⟨by rfl, ?_⟩) hHeld ?_
                        rotate_left
                        · intro wx hSw
                          (try dsimp only at hSw)
                          go_simp
                          (try with_reducible rfl)
                        (try simp only [Act.put, List.setIfInBounds_toArray, List.set_cons_zero, List.set_cons_succ])
                        refine wpAnyH_ready (rs := [7]) (by kernel_rfl) (by simp) ?_
                        refine AllReadyH.cons (List.getElem?_toArray.trans rfl) (fun K hK => ?_) AllReadyH.nil
                        go_simp
                        go_at_call 43
                        with_reducible refine Calls.mono (HTC.out _ (below_on (RHeldIn.below HH5.out) hHeld.1)) ?_
                        rintro e w3 ⟨rfl, hB3⟩
                        have hHeld2 := HSX.out _ (hHeld.1.trans (hB3.mono hHeld.1.size))
                        refine hK.out _ _ hHeld2 (fun _ => ?_)
                        clear hK K hHeld hB3
                        have hHeld := hHeld2
                        clear hHeld2
                        (try simp only [Act.put, List.setIfInBounds_toArray, List.set_cons_zero, List.set_cons_succ])
                        refine wpAnyH_take (i := 9) (v := ?_) (List.getElem?_toArray.trans rfl) (by kernel_rfl) (by kernel_rfl) (by kernel_rfl) (fun _ _ _ h => h) (Or.inl ⟨by rfl, ?_⟩) hHeld ?_
                        rotate_left
                        · intro wx hSw
                          (try dsimp only at hSw)
                          go_simp
                          (try with_reducible rfl)
                        (try simp only [Act.put, List.setIfInBounds_toArray, List.set_cons_zero, List.set_cons_succ])
                        refine wpAnyH_take (i := 10) (v := ?_) (List.getElem?_toArray.trans rfl) (by kernel_rfl) (by kernel_rfl) (by kernel_rfl) (fun _ _ _ h => h) (Or.inl ⟨by rfl, ?_⟩) hHeld ?_
                        rotate_left
                        · intro wx hSw
                          (try dsimp only at hSw)
                          go_simp
                          (try with_reducible rfl)
                        (try simp only [Act.put, List.setIfInBounds_toArray, List.set_cons_zero, List.set_cons_succ])
                        refine wpAnyH_take (i := 11) (v := ?_) (List.getElem?_toArray.trans rfl) (by kernel_rfl) (by kernel_rfl) (by kernel_rfl) (fun _ _ _ h => h) (Or.inl ⟨by rfl, ?_⟩) hHeld ?_
                        rotate_left
                        · intro wx hSw
                          (try dsimp only at hSw)
                          go_simp
                          (try with_reducible rfl)
                        (try simp only [Act.put, List.setIfInBounds_toArray, List.set_cons_zero, List.set_cons_succ])
                        refine wpAnyH_take (i := 12) (v := ?_) (List.getElem?_toArray.trans rfl) (by kernel_rfl) (by kernel_rfl) (by kernel_rfl) (fun _ _ _ h => h) (Or.inl ⟨by rfl, ?_⟩) hHeld ?_
                        rotate_left
                        · intro wx hSw
                          (try dsimp only at hSw)
                          go_simp
                          (try with_reducible rfl)
                        (try simp only [Act.put, List.setIfInBounds_toArray, List.set_cons_zero, List.set_cons_succ])
                        refine wpAnyH_take (i := 13) (v := ?_) (List.getElem?_toArray.trans rfl) (by kernel_rfl) (by kernel_rfl) (by kernel_rfl) (fun _ _ _ h => h) (Or.inl ⟨by rfl, ?_⟩) hHeld ?_
                        rotate_left
                        · intro wx hSw
                          (try dsimp only at hSw)
                          go_simp
                          (try with_reducible rfl)
                        (try simp only [Act.put, List.setIfInBounds_toArray, List.set_cons_zero, List.set_cons_succ])
                        refine wpAnyH_take (i := 14) (v := ?_) (List.getElem?_toArray.trans rfl) (by kernel_rfl) (by kernel_rfl) (by kernel_rfl) (fun _ _ _ h => h) (Or.inl ⟨by rfl, ?_⟩) hHeld ?_
                        rotate_left
                        · intro wx hSw
                          (try dsimp only at hSw)
                          go_simp
                          (try with_reducible rfl)
                        (try simp only [Act.put, List.setIfInBounds_toArray, List.set_cons_zero, List.set_cons_succ])
                        refine wpAnyH_take (i := 15) (List.getElem?_toArray.trans rfl) (by kernel_rfl) (by kernel_rfl) (by kernel_rfl) (fun _ _ _ h => h) (Or.inr ⟨by rfl, rfl⟩) hHeld ?_
                        (try simp only [Act.put, List.setIfInBounds_toArray, List.set_cons_zero, List.set_cons_succ])
                        refine wpAnyH_take (i := 16) (List.getElem?_toArray.trans rfl) (by kernel_rfl) (by kernel_rfl) (by kernel_rfl) (fun _ _ _ h => h) (Or.inr ⟨by rfl, rfl⟩) hHeld ?_
                        (try simp only [Act.put, List.setIfInBounds_toArray, List.set_cons_zero, List.set_cons_succ])
                        refine wpAnyH_take (i := 17) (List.getElem?_toArray.trans rfl) (by kernel_rfl) (by kernel_rfl) (by kernel_rfl) (fun _ _ _ h => h) (Or.inr ⟨by rfl, rfl⟩) hHeld ?_
                        (try simp only [Act.put, List.setIfInBounds_toArray, List.set_cons_zero, List.set_cons_succ])
                        refine wpAnyH_take (i := 18) (List.getElem?_toArray.trans rfl) (by kernel_rfl) (by kernel_rfl) (by kernel_rfl) (fun _ _ _ h => h) (Or.inr ⟨by rfl, rfl⟩) hHeld ?_
                        (try simp only [Act.put, List.setIfInBounds_toArray, List.set_cons_zero, List.set_cons_succ])
                        refine wpAnyH_take (i := 19) (List.getElem?_toArray.trans rfl) (by kernel_rfl) (by kernel_rfl) (by kernel_rfl) (fun _ _ _ h => h) (Or.inr ⟨by rfl, rfl⟩) hHeld ?_
                        (try simp only [Act.put, List.setIfInBounds_toArray, List.set_cons_zero, List.set_cons_succ])
                        refine wpAnyH_take (i := 20) (List.getElem?_toArray.trans rfl) (by kernel_rfl) (by kernel_rfl) (by kernel_rfl) (fun _ _ _ h => h) (Or.inr ⟨by rfl, rfl⟩) hHeld ?_
                        (try simp only [Act.put, List.setIfInBounds_toArray, List.set_cons_zero, List.set_cons_succ])
                        refine wpAnyH_take (i := 21) (List.getElem?_toArray.trans rfl) (by kernel_rfl) (by kernel_rfl) (by kernel_rfl) (fun _ _ _ h => h) (Or.inr ⟨by rfl, rfl⟩) hHeld ?_
                        (try simp only [Act.put, List.setIfInBounds_toArray, List.set_cons_zero, List.set_cons_succ])
                        refine wpAnyH_take (i := 22) (List.getElem?_toArray.trans rfl) (by kernel_rfl) (by kernel_rfl) (by kernel_rfl) (fun _ _ _ h => h) (Or.inr ⟨by rfl, rfl⟩) hHeld ?_
                        (try simp only [Act.put, List.setIfInBounds_toArray, List.set_cons_zero, List.set_cons_succ])
                        refine wpAnyH_take (i := 23) (List.getElem?_toArray.trans rfl) (by kernel_rfl) (by kernel_rfl) (by kernel_rfl) (fun _ _ _ h => h) (Or.inr ⟨by rfl, rfl⟩) hHeld ?_
                        (try simp only [Act.put, List.setIfInBounds_toArray, List.set_cons_zero, List.set_cons_succ])
                        refine wpAnyH_take (i := 24) (List.getElem?_toArray.trans rfl) (by kernel_rfl) (by kernel_rfl) (by kernel_rfl) (fun _ _ _ h => h) (Or.inr ⟨by rfl, rfl⟩) hHeld ?_
                        (try simp only [Act.put, List.setIfInBounds_toArray, List.set_cons_zero, List.set_cons_succ])
                        refine wpAnyH_take (i := 25) (v := ?_) (List.getElem?_toArray.trans rfl) (by kernel_rfl) (by kernel_rfl) (by kernel_rfl) (fun _ _ _ h => h) (Or.inl ⟨by rfl, ?_⟩) hHeld ?_
                        rotate_left
                        · intro wx hSw
                          (try dsimp only at hSw)
                          go_simp
                          (try with_reducible rfl)
                        (try simp only [Act.put, List.setIfInBounds_toArray, List.set_cons_zero, List.set_cons_succ])
                        refine wpAnyH_done (by kernel_rfl) ?_ _
                        go_wp2_with (first
                          | (go_at_call 45; (with_reducible refine (rturn_any _ _).mono ?_); rintro e w7 ⟨rfl, hB7⟩; have HB7 := Lib.hid (hHeld.1.trans (hB7.mono hHeld.1.size)); clear hB7)
                          | fail)
                        go_roundw
                        case rel => exact ⟨j + 1, by omega, by go_num, by rw [HOPN.out], (by rw [HQ2.out]; exact HH5.out.call HB7.out), HN5.out.keep HB7.out⟩
                        case measure => simp [intOf] <;> omega
                      | true =>
                        obtain ⟨r5, hr5⟩ : ∃ r5, r5 = readsR ⟨tA, tc, tabs, bA, bc, beg, width, (some ⟨b, off, none⟩), wc, wh, gA, gn, gc, grouped, iA, i_n, ic, oA, oc, ord, limit⟩ f (.mk ky oy lky lny lfy lsy ay nty tyy Ay cy ly) := ⟨_, rfl⟩
                        have HRY := HTY
                        rw [← hr5] at HRY
                        have HR5 := Lib.hid hr5.symm
                        clear hr5
                        cases r5 with
                        | true =>
                          have HQ2 := Lib.hid (show outJ (j + 1) = cj by rw [HE.out, HS1.out, if_neg]; rw [HT1.out]; show ¬ ((2 : Int) == 2 && (decide (tabR _ ax = some f) && (hasS _ OP && !readsR ⟨tA, tc, tabs, bA, bc, beg, width, (some ⟨b, off, none⟩), wc, wh, gA, gn, gc, grouped, iA, i_n, ic, oA, oc, ord, limit⟩ f (.mk ky oy lky lny lfy lsy ay nty tyy Ay cy ly)))) = true; rw [HR5.out]; simp)
                          refine wp_region_held_drew (S := (fun wx => Below w5.heap.size w5 wx ∧ wx.cell? ⟨wi.heap.size, 0, none⟩ = some (.int .i64 2) ∧ wx.cell? ⟨wi.heap.size, 6, none⟩ = some (.int .i64 ax) ∧ wx.cell? ⟨w.heap.size, 0, none⟩ = some (.slice tA tabs.length tc) ∧ wx.cell? ⟨w.heap.size, 1, none⟩ = some (.slice bA beg.length bc) ∧ wx.cell? ⟨w.heap.size, 2, none⟩ = some (.int .i64 width) ∧ wx.cell? ⟨w.heap.size, 3, none⟩ = some (.slice (some ⟨b, off, none⟩) wh.length wc) ∧ wx.cell? ⟨w.heap.size, 4, none⟩ = some (.slice gA gn gc) ∧ wx.cell? ⟨w.heap.size, 5, none⟩ = some (.bool grouped) ∧ wx.cell? ⟨w.heap.size, 6, none⟩ = some (.slice iA i_n ic) ∧ wx.cell? ⟨w.heap.size, 7, none⟩ = some (.slice oA ord.length oc) ∧ wx.cell? ⟨w.heap.size, 8, none⟩ = some (.int .i64 limit) ∧ wx.cell? ⟨wo.heap.size, 9, none⟩ = some (.slice (some ⟨b2, off2, none⟩) 2 c') ∧ wx.cell? ⟨b2, off2 + j2 * 10, none⟩ = some (.int .i64 ky) ∧ wx.cell? ⟨b2, off2 + j2 * 10 + 1, none⟩ = some (.string oy) ∧ wx.cell? ⟨b2, off2 + j2 * 10 + 2, none⟩ = some (.int .i64 lky) ∧ wx.cell? ⟨b2, off2 + j2 * 10 + 3, none⟩ = some (.int .i64 lny) ∧ wx.cell? ⟨b2, off2 + j2 * 10 + 4, none⟩ = some (.float .f64 lfy) ∧ wx.cell? ⟨b2, off2 + j2 * 10 + 5, none⟩ = some (.string lsy) ∧ wx.cell? ⟨b2, off2 + j2 * 10 + 6, none⟩ = some (.int .i64 ay) ∧ wx.cell? ⟨b2, off2 + j2 * 10 + 7, none⟩ = some (.bool nty) ∧ wx.cell? ⟨b2, off2 + j2 * 10 + 8, none⟩ = some (.int .i64 tyy) ∧ wx.cell? ⟨b2, off2 + j2 * 10 + 9, none⟩ = some (.slice Ay ly.length cy))) (by kernel_rfl) (HSX.out _ (Below.refl _ _).drew) (fun hHeld => ?_)
                          (try dsimp only at hHeld)
                          refine wpAnyH_take (i := 0) (v := ?_) (List.getElem?_toArray.trans rfl) (by kernel_rfl) (by kernel_rfl) (by kernel_rfl) (fun _ _ _ h => h) (Or.inl ⟨by rfl, ?_⟩) hHeld ?_
                          rotate_left
                          · intro wx hSw
                            (try dsimp only at hSw)
                            go_simp
                            (try with_reducible rfl)
                          (try simp only [Act.put, List.setIfInBounds_toArray, List.set_cons_zero, List.set_cons_succ])
                          refine wpAnyH_take (i := 1) (v := ?_) (List.getElem?_toArray.trans rfl) (by kernel_rfl) (by kernel_rfl) (by kernel_rfl) (fun _ _ _ h => h) (Or.inl ⟨by rfl, ?_⟩) hHeld ?_
                          rotate_left
                          · intro wx hSw
                            (try dsimp only at hSw)
                            go_simp
                            (try with_reducible rfl)
                          (try simp only [Act.put, List.setIfInBounds_toArray, List.set_cons_zero, List.set_cons_succ])
                          refine wpAnyH_take (i := 2) (v := ?_) (List.getElem?_toArray.trans rfl) (by kernel_rfl) (by kernel_rfl) (by kernel_rfl) (fun _ _ _ h => h) (Or.inl ⟨by rfl, ?_⟩) hHeld ?_
                          rotate_left
                          · intro wx hSw
                            (try dsimp only at hSw)
                            go_simp
                            (try with_reducible rfl)
                          (try simp only [Act.put, List.setIfInBounds_toArray, List.set_cons_zero, List.set_cons_succ])
                          refine wpAnyH_take (i := 3) (v := ?_) (List.getElem?_toArray.trans rfl) (by kernel_rfl) (by kernel_rfl) (by kernel_rfl) (fun _ _ _ h => h) (Or.inl ⟨by rfl, ?_⟩) hHeld ?_
                          rotate_left
                          · intro wx hSw
                            (try dsimp only at hSw)
                            go_simp
                            (try with_reducible rfl)
                          (try simp only [Act.put, List.setIfInBounds_toArray, List.set_cons_zero, List.set_cons_succ])
                          refine wpAnyH_take (i := 4) (v := ?_) (List.getElem?_toArray.trans rfl) (by kernel_rfl) (by kernel_rfl) (by kernel_rfl) (fun _ _ _ h => h) (Or.inl ⟨by rfl, ?_⟩) hHeld ?_
                          rotate_left
                          · intro wx hSw
                            (try dsimp only at hSw)
                            go_simp
                            (try with_reducible rfl)
                          (try simp only [Act.put, List.setIfInBounds_toArray, List.set_cons_zero, List.set_cons_succ])
                          refine wpAnyH_take (i := 5) (v := ?_) (List.getElem?_toArray.trans rfl) (by kernel_rfl) (by kernel_rfl) (by kernel_rfl) (fun _ _ _ h => h) (Or.inl ⟨by rfl, ?_⟩) hHeld ?_
                          rotate_left
                          · intro wx hSw
                            (try dsimp only at hSw)
                            go_simp
                            (try with_reducible rfl)
                          (try simp only [Act.put, List.setIfInBounds_toArray, List.set_cons_zero, List.set_cons_succ])
                          refine wpAnyH_take (i := 6) (v := ?_) (List.getElem?_toArray.trans rfl) (by kernel_rfl) (by kernel_rfl) (by kernel_rfl) (fun _ _ _ h => h) (Or.inl ⟨by rfl, ?_⟩) hHeld ?_
                          rotate_left
                          · intro wx hSw
                            (try dsimp only at hSw)
                            go_simp
                            (try with_reducible rfl)
                          (try simp only [Act.put, List.setIfInBounds_toArray, List.set_cons_zero, List.set_cons_succ])
                          refine wpAnyH_take (i := 8) (v := ?_) (List.getElem?_toArray.trans rfl) (by kernel_rfl) (by kernel_rfl) (by kernel_rfl) (fun _ _ _ h => h) (Or.inl ⟨by rfl, ?_⟩) hHeld ?_
                          rotate_left
                          · intro wx hSw
                            (try dsimp only at hSw)
                            go_simp
                            (try with_reducible rfl)
                          (try simp only [Act.put, List.setIfInBounds_toArray, List.set_cons_zero, List.set_cons_succ])
                          refine wpAnyH_ready (rs := [7]) (by kernel_rfl) (by simp) ?_
                          refine AllReadyH.cons (List.getElem?_toArray.trans rfl) (fun K hK => ?_) AllReadyH.nil
                          go_simp
                          go_at_call 43
                          with_reducible refine Calls.mono (HTC.out _ (below_on (RHeldIn.below HH5.out) hHeld.1)) ?_
                          rintro e w3 ⟨rfl, hB3⟩
                          have hHeld2 := HSX.out _ (hHeld.1.trans (hB3.mono hHeld.1.size))
                          refine hK.out _ _ hHeld2 (fun _ => ?_)
                          clear hK K hHeld hB3
                          have hHeld := hHeld2
                          clear hHeld2
                          (try simp only [Act.put, List.setIfInBounds_toArray, List.set_cons_zero, List.set_cons_succ])
                          refine wpAnyH_take (i := 9) (v := ?_) (List.getElem?_toArray.trans rfl) (by kernel_rfl) (by kernel_rfl) (by kernel_rfl) (fun _ _ _ h => h) (Or.inl ⟨by rfl, ?_⟩) hHeld ?_
                          rotate_left
                          · intro wx hSw
                            (try dsimp only at hSw)
                            go_simp
                            (try with_reducible rfl)
                          (try simp only [Act.put, List.setIfInBounds_toArray, List.set_cons_zero, List.set_cons_succ])
                          refine wpAnyH_take (i := 10) (v := ?_) (List.getElem?_toArray.trans rfl) (by kernel_rfl) (by kernel_rfl) (by kernel_rfl) (fun _ _ _ h => h) (Or.inl ⟨by rfl, ?_⟩) hHeld ?_
                          rotate_left
                          · intro wx hSw
                            (try dsimp only at hSw)
                            go_simp
                            (try with_reducible rfl)
                          (try simp only [Act.put, List.setIfInBounds_toArray, List.set_cons_zero, List.set_cons_succ])
                          refine wpAnyH_take (i := 11) (v := ?_) (List.getElem?_toArray.trans rfl) (by kernel_rfl) (by kernel_rfl) (by kernel_rfl) (fun _ _ _ h => h) (Or.inl ⟨by rfl, ?_⟩) hHeld ?_
                          rotate_left
                          · intro wx hSw
                            (try dsimp only at hSw)
                            go_simp
                            (try with_reducible rfl)
                          (try simp only [Act.put, List.setIfInBounds_toArray, List.set_cons_zero, List.set_cons_succ])
                          refine wpAnyH_take (i := 12) (v := ?_) (List.getElem?_toArray.trans rfl) (by kernel_rfl) (by kernel_rfl) (by kernel_rfl) (fun _ _ _ h => h) (Or.inl ⟨by rfl, ?_⟩) hHeld ?_
                          rotate_left
                          · intro wx hSw
                            (try dsimp only at hSw)
                            go_simp
                            (try with_reducible rfl)
                          (try simp only [Act.put, List.setIfInBounds_toArray, List.set_cons_zero, List.set_cons_succ])
                          refine wpAnyH_take (i := 13) (v := ?_) (List.getElem?_toArray.trans rfl) (by kernel_rfl) (by kernel_rfl) (by kernel_rfl) (fun _ _ _ h => h) (Or.inl ⟨by rfl, ?_⟩) hHeld ?_
                          rotate_left
                          · intro wx hSw
                            (try dsimp only at hSw)
                            go_simp
                            (try with_reducible rfl)
                          (try simp only [Act.put, List.setIfInBounds_toArray, List.set_cons_zero, List.set_cons_succ])
                          refine wpAnyH_take (i := 14) (v := ?_) (List.getElem?_toArray.trans rfl) (by kernel_rfl) (by kernel_rfl) (by kernel_rfl) (fun _ _ _ h => h) (Or.inl ⟨by rfl, ?_⟩) hHeld ?_
                          rotate_left
                          · intro wx hSw
                            (try dsimp only at hSw)
                            go_simp
                            (try with_reducible rfl)
                          (try simp only [Act.put, List.setIfInBounds_toArray, List.set_cons_zero, List.set_cons_succ])
                          refine wpAnyH_take (i := 15) (v := ?_) (List.getElem?_toArray.trans rfl) (by kernel_rfl) (by kernel_rfl) (by kernel_rfl) (fun _ _ _ h => h) (Or.inl ⟨by rfl, ?_⟩) hHeld ?_
                          rotate_left
                          · intro wx hSw
                            (try dsimp only at hSw)
                            go_simp
                            (try with_reducible rfl)
                          (try simp only [Act.put, List.setIfInBounds_toArray, List.set_cons_zero, List.set_cons_succ])
                          refine wpAnyH_take (i := 16) (v := ?_) (List.getElem?_toArray.trans rfl) (by kernel_rfl) (by kernel_rfl) (by kernel_rfl) (fun _ _ _ h => h) (Or.inl ⟨by rfl, ?_⟩) hHeld ?_
                          rotate_left
                          · intro wx hSw
                            (try dsimp only at hSw)
                            go_simp
                            (try with_reducible rfl)
                          (try simp only [Act.put, List.setIfInBounds_toArray, List.set_cons_zero, List.set_cons_succ])
                          refine wpAnyH_take (i := 17) (v := ?_) (List.getElem?_toArray.trans rfl) (by kernel_rfl) (by kernel_rfl) (by kernel_rfl) (fun _ _ _ h => h) (Or.inl ⟨by rfl, ?_⟩) hHeld ?_
                          rotate_left
                          · intro wx hSw
                            (try dsimp only at hSw)
                            go_simp
                            (try with_reducible rfl)
                          (try simp only [Act.put, List.setIfInBounds_toArray, List.set_cons_zero, List.set_cons_succ])
                          refine wpAnyH_take (i := 18) (v := ?_) (List.getElem?_toArray.trans rfl) (by kernel_rfl) (by kernel_rfl) (by kernel_rfl) (fun _ _ _ h => h) (Or.inl ⟨by rfl, ?_⟩) hHeld ?_
                          rotate_left
                          · intro wx hSw
                            (try dsimp only at hSw)
                            go_simp
                            (try with_reducible rfl)
                          (try simp only [Act.put, List.setIfInBounds_toArray, List.set_cons_zero, List.set_cons_succ])
                          refine wpAnyH_take (i := 19) (v := ?_) (List.getElem?_toArray.trans rfl) (by kernel_rfl) (by kernel_rfl) (by kernel_rfl) (fun _ _ _ h => h) (Or.inl ⟨by rfl, ?_⟩) hHeld ?_
                          rotate_left
                          · intro wx hSw
                            (try dsimp only at hSw)
                            go_simp
                            (try with_reducible rfl)
                          (try simp only [Act.put, List.setIfInBounds_toArray, List.set_cons_zero, List.set_cons_succ])
                          refine wpAnyH_take (i := 20) (v := ?_) (List.getElem?_toArray.trans rfl) (by kernel_rfl) (by kernel_rfl) (by kernel_rfl) (fun _ _ _ h => h) (Or.inl ⟨by rfl, ?_⟩) hHeld ?_
                          rotate_left
                          · intro wx hSw
                            (try dsimp only at hSw)
                            go_simp
                            (try with_reducible rfl)
                          (try simp only [Act.put, List.setIfInBounds_toArray, List.set_cons_zero, List.set_cons_succ])
                          refine wpAnyH_take (i := 21) (v := ?_) (List.getElem?_toArray.trans rfl) (by kernel_rfl) (by kernel_rfl) (by kernel_rfl) (fun _ _ _ h => h) (Or.inl ⟨by rfl, ?_⟩) hHeld ?_
                          rotate_left
                          · intro wx hSw
                            (try dsimp only at hSw)
                            go_simp
                            (try with_reducible rfl)
                          (try simp only [Act.put, List.setIfInBounds_toArray, List.set_cons_zero, List.set_cons_succ])
                          refine wpAnyH_take (i := 22) (v := ?_) (List.getElem?_toArray.trans rfl) (by kernel_rfl) (by kernel_rfl) (by kernel_rfl) (fun _ _ _ h => h) (Or.inl ⟨by rfl, ?_⟩) hHeld ?_
                          rotate_left
                          · intro wx hSw
                            (try dsimp only at hSw)
                            go_simp
                            (try with_reducible rfl)
                          (try simp only [Act.put, List.setIfInBounds_toArray, List.set_cons_zero, List.set_cons_succ])
                          refine wpAnyH_ready (rs := [23]) (by kernel_rfl) (by simp) ?_
                          refine AllReadyH.cons (List.getElem?_toArray.trans rfl) (fun K hK => ?_) AllReadyH.nil
                          go_simp
                          go_at_call 44
                          with_reducible refine Calls.mono (HRY.out _ (below_on (RHeldIn.below HH5.out) hHeld.1)) ?_
                          rintro e w3 ⟨rfl, hB3⟩
                          have hHeld2 := HSX.out _ (hHeld.1.trans (hB3.mono hHeld.1.size))
                          refine hK.out _ _ hHeld2 (fun _ => ?_)
                          clear hK K hHeld hB3
                          have hHeld := hHeld2
                          clear hHeld2
                          (try simp only [Act.put, List.setIfInBounds_toArray, List.set_cons_zero, List.set_cons_succ])
                          refine wpAnyH_take (i := 24) (v := ?_) (List.getElem?_toArray.trans rfl) (by kernel_rfl) (by kernel_rfl) (by kernel_rfl) (fun _ _ _ h => h) (Or.inl ⟨by rfl, ?_⟩) hHeld ?_
                          rotate_left
                          · intro wx hSw
                            (try dsimp only at hSw)
                            go_simp
                            (try with_reducible rfl)
                          (try simp only [Act.put, List.setIfInBounds_toArray, List.set_cons_zero, List.set_cons_succ])
                          refine wpAnyH_take (i := 25) (v := ?_) (List.getElem?_toArray.trans rfl) (by kernel_rfl) (by kernel_rfl) (by kernel_rfl) (fun _ _ _ h => h) (Or.inl ⟨by rfl, ?_⟩) hHeld ?_
                          rotate_left
                          · intro wx hSw
                            (try dsimp only at hSw)
                            go_simp
                            (try with_reducible rfl)
                          (try simp only [Act.put, List.setIfInBounds_toArray, List.set_cons_zero, List.set_cons_succ])
                          refine wpAnyH_done (by kernel_rfl) ?_ _
                          go_wp2_with (first
                            | (go_at_call 45; (with_reducible refine (rturn_any _ _).mono ?_); rintro e w7 ⟨rfl, hB7⟩; have HB7 := Lib.hid (hHeld.1.trans (hB7.mono hHeld.1.size)); clear hB7)
                            | fail)
                          go_roundw
                          case rel => exact ⟨j + 1, by omega, by go_num, by rw [HOPN.out], (by rw [HQ2.out]; exact HH5.out.call HB7.out), HN5.out.keep HB7.out⟩
                          case measure => simp [intOf] <;> omega
                        | false =>
                          have HTT := Lib.hid (show testR _ f (opsOf eq) OP (.mk 2 ox lkx lnx lfx lsx ax ntx tyx Ax cx lx) (.mk ky oy lky lny lfy lsy ay nty tyy Ay cy ly) = true by rw [HT1.out]; show ((2 : Int) == 2 && (decide (tabR _ ax = some f) && (hasS _ OP && !readsR ⟨tA, tc, tabs, bA, bc, beg, width, (some ⟨b, off, none⟩), wc, wh, gA, gn, gc, grouped, iA, i_n, ic, oA, oc, ord, limit⟩ f (.mk ky oy lky lny lfy lsy ay nty tyy Ay cy ly)))) = true; rw [HTB2.out, ← HSG.out, HR5.out]; rfl)
                          obtain ⟨cl, hcl⟩ : ∃ cl, cl = colR ⟨tA, tc, tabs, bA, bc, beg, width, (some ⟨b, off, none⟩), wc, wh, gA, gn, gc, grouped, iA, i_n, ic, oA, oc, ord, limit⟩ f ax := ⟨_, rfl⟩
                          have HQ1 := Lib.hid (show outJ (j + 1) = onceR cj cl by rw [HE.out, HS1.out, if_pos HTT.out, hcl]; rfl)
                          have HCLE := Lib.hid hcl
                          clear hcl
                          refine wp_region_held_drew (S := (fun wx => Below w5.heap.size w5 wx ∧ wx.cell? ⟨wi.heap.size, 0, none⟩ = some (.int .i64 2) ∧ wx.cell? ⟨wi.heap.size, 6, none⟩ = some (.int .i64 ax) ∧ wx.cell? ⟨w.heap.size, 0, none⟩ = some (.slice tA tabs.length tc) ∧ wx.cell? ⟨w.heap.size, 1, none⟩ = some (.slice bA beg.length bc) ∧ wx.cell? ⟨w.heap.size, 2, none⟩ = some (.int .i64 width) ∧ wx.cell? ⟨w.heap.size, 3, none⟩ = some (.slice (some ⟨b, off, none⟩) wh.length wc) ∧ wx.cell? ⟨w.heap.size, 4, none⟩ = some (.slice gA gn gc) ∧ wx.cell? ⟨w.heap.size, 5, none⟩ = some (.bool grouped) ∧ wx.cell? ⟨w.heap.size, 6, none⟩ = some (.slice iA i_n ic) ∧ wx.cell? ⟨w.heap.size, 7, none⟩ = some (.slice oA ord.length oc) ∧ wx.cell? ⟨w.heap.size, 8, none⟩ = some (.int .i64 limit) ∧ wx.cell? ⟨wo.heap.size, 9, none⟩ = some (.slice (some ⟨b2, off2, none⟩) 2 c') ∧ wx.cell? ⟨b2, off2 + j2 * 10, none⟩ = some (.int .i64 ky) ∧ wx.cell? ⟨b2, off2 + j2 * 10 + 1, none⟩ = some (.string oy) ∧ wx.cell? ⟨b2, off2 + j2 * 10 + 2, none⟩ = some (.int .i64 lky) ∧ wx.cell? ⟨b2, off2 + j2 * 10 + 3, none⟩ = some (.int .i64 lny) ∧ wx.cell? ⟨b2, off2 + j2 * 10 + 4, none⟩ = some (.float .f64 lfy) ∧ wx.cell? ⟨b2, off2 + j2 * 10 + 5, none⟩ = some (.string lsy) ∧ wx.cell? ⟨b2, off2 + j2 * 10 + 6, none⟩ = some (.int .i64 ay) ∧ wx.cell? ⟨b2, off2 + j2 * 10 + 7, none⟩ = some (.bool nty) ∧ wx.cell? ⟨b2, off2 + j2 * 10 + 8, none⟩ = some (.int .i64 tyy) ∧ wx.cell? ⟨b2, off2 + j2 * 10 + 9, none⟩ = some (.slice Ay ly.length cy))) (by kernel_rfl) (HSX.out _ (Below.refl _ _).drew) (fun hHeld => ?_)
                          (try dsimp only at hHeld)
                          refine wpAnyH_take (i := 0) (v := ?_) (List.getElem?_toArray.trans rfl) (by kernel_rfl) (by kernel_rfl) (by kernel_rfl) (fun _ _ _ h => h) (Or.inl ⟨by rfl, ?_⟩) hHeld ?_
                          rotate_left
                          · intro wx hSw
                            (try dsimp only at hSw)
                            go_simp
                            (try with_reducible rfl)
                          (try simp only [Act.put, List.setIfInBounds_toArray, List.set_cons_zero, List.set_cons_succ])
                          refine wpAnyH_take (i := 1) (v := ?_) (List.getElem?_toArray.trans rfl) (by kernel_rfl) (by kernel_rfl) (by kernel_rfl) (fun _ _ _ h => h) (Or.inl ⟨by rfl, ?_⟩) hHeld ?_
                          rotate_left
                          · intro wx hSw
                            (try dsimp only at hSw)
                            go_simp
                            (try with_reducible rfl)
                          (try simp only [Act.put, List.setIfInBounds_toArray, List.set_cons_zero, List.set_cons_succ])
                          refine wpAnyH_take (i := 2) (v := ?_) (List.getElem?_toArray.trans rfl) (by kernel_rfl) (by kernel_rfl) (by kernel_rfl) (fun _ _ _ h => h) (Or.inl ⟨by rfl, ?_⟩) hHeld ?_
                          rotate_left
                          · intro wx hSw
                            (try dsimp only at hSw)
                            go_simp
                            (try with_reducible rfl)
                          (try simp only [Act.put, List.setIfInBounds_toArray, List.set_cons_zero, List.set_cons_succ])
                          refine wpAnyH_take (i := 3) (v := ?_) (List.getElem?_toArray.trans rfl) (by kernel_rfl) (by kernel_rfl) (by kernel_rfl) (fun _ _ _ h => h) (Or.inl ⟨by rfl, ?_⟩) hHeld ?_
                          rotate_left
                          · intro wx hSw
                            (try dsimp only at hSw)
                            go_simp
                            (try with_reducible rfl)
                          (try simp only [Act.put, List.setIfInBounds_toArray, List.set_cons_zero, List.set_cons_succ])
                          refine wpAnyH_take (i := 4) (v := ?_) (List.getElem?_toArray.trans rfl) (by kernel_rfl) (by kernel_rfl) (by kernel_rfl) (fun _ _ _ h => h) (Or.inl ⟨by rfl, ?_⟩) hHeld ?_
                          rotate_left
                          · intro wx hSw
                            (try dsimp only at hSw)
                            go_simp
                            (try with_reducible rfl)
                          (try simp only [Act.put, List.setIfInBounds_toArray, List.set_cons_zero, List.set_cons_succ])
                          refine wpAnyH_take (i := 5) (v := ?_) (List.getElem?_toArray.trans rfl) (by kernel_rfl) (by kernel_rfl) (by kernel_rfl) (fun _ _ _ h => h) (Or.inl ⟨by rfl, ?_⟩) hHeld ?_
                          rotate_left
                          · intro wx hSw
                            (try dsimp only at hSw)
                            go_simp
                            (try with_reducible rfl)
                          (try simp only [Act.put, List.setIfInBounds_toArray, List.set_cons_zero, List.set_cons_succ])
                          refine wpAnyH_take (i := 6) (v := ?_) (List.getElem?_toArray.trans rfl) (by kernel_rfl) (by kernel_rfl) (by kernel_rfl) (fun _ _ _ h => h) (Or.inl ⟨by rfl, ?_⟩) hHeld ?_
                          rotate_left
                          · intro wx hSw
                            (try dsimp only at hSw)
                            go_simp
                            (try with_reducible rfl)
                          (try simp only [Act.put, List.setIfInBounds_toArray, List.set_cons_zero, List.set_cons_succ])
                          refine wpAnyH_take (i := 8) (v := ?_) (List.getElem?_toArray.trans rfl) (by kernel_rfl) (by kernel_rfl) (by kernel_rfl) (fun _ _ _ h => h) (Or.inl ⟨by rfl, ?_⟩) hHeld ?_
                          rotate_left
                          · intro wx hSw
                            (try dsimp only at hSw)
                            go_simp
                            (try with_reducible rfl)
                          (try simp only [Act.put, List.setIfInBounds_toArray, List.set_cons_zero, List.set_cons_succ])
                          refine wpAnyH_ready (rs := [7]) (by kernel_rfl) (by simp) ?_
                          refine AllReadyH.cons (List.getElem?_toArray.trans rfl) (fun K hK => ?_) AllReadyH.nil
                          go_simp
                          go_at_call 43
                          with_reducible refine Calls.mono (HTC.out _ (below_on (RHeldIn.below HH5.out) hHeld.1)) ?_
                          rintro e w3 ⟨rfl, hB3⟩
                          have hHeld2 := HSX.out _ (hHeld.1.trans (hB3.mono hHeld.1.size))
                          refine hK.out _ _ hHeld2 (fun _ => ?_)
                          clear hK K hHeld hB3
                          have hHeld := hHeld2
                          clear hHeld2
                          (try simp only [Act.put, List.setIfInBounds_toArray, List.set_cons_zero, List.set_cons_succ])
                          refine wpAnyH_take (i := 9) (v := ?_) (List.getElem?_toArray.trans rfl) (by kernel_rfl) (by kernel_rfl) (by kernel_rfl) (fun _ _ _ h => h) (Or.inl ⟨by rfl, ?_⟩) hHeld ?_
                          rotate_left
                          · intro wx hSw
                            (try dsimp only at hSw)
                            go_simp
                            (try with_reducible rfl)
                          (try simp only [Act.put, List.setIfInBounds_toArray, List.set_cons_zero, List.set_cons_succ])
                          refine wpAnyH_take (i := 10) (v := ?_) (List.getElem?_toArray.trans rfl) (by kernel_rfl) (by kernel_rfl) (by kernel_rfl) (fun _ _ _ h => h) (Or.inl ⟨by rfl, ?_⟩) hHeld ?_
                          rotate_left
                          · intro wx hSw
                            (try dsimp only at hSw)
                            go_simp
                            (try with_reducible rfl)
                          (try simp only [Act.put, List.setIfInBounds_toArray, List.set_cons_zero, List.set_cons_succ])
                          refine wpAnyH_take (i := 11) (v := ?_) (List.getElem?_toArray.trans rfl) (by kernel_rfl) (by kernel_rfl) (by kernel_rfl) (fun _ _ _ h => h) (Or.inl ⟨by rfl, ?_⟩) hHeld ?_
                          rotate_left
                          · intro wx hSw
                            (try dsimp only at hSw)
                            go_simp
                            (try with_reducible rfl)
                          (try simp only [Act.put, List.setIfInBounds_toArray, List.set_cons_zero, List.set_cons_succ])
                          refine wpAnyH_take (i := 12) (v := ?_) (List.getElem?_toArray.trans rfl) (by kernel_rfl) (by kernel_rfl) (by kernel_rfl) (fun _ _ _ h => h) (Or.inl ⟨by rfl, ?_⟩) hHeld ?_
                          rotate_left
                          · intro wx hSw
                            (try dsimp only at hSw)
                            go_simp
                            (try with_reducible rfl)
                          (try simp only [Act.put, List.setIfInBounds_toArray, List.set_cons_zero, List.set_cons_succ])
                          refine wpAnyH_take (i := 13) (v := ?_) (List.getElem?_toArray.trans rfl) (by kernel_rfl) (by kernel_rfl) (by kernel_rfl) (fun _ _ _ h => h) (Or.inl ⟨by rfl, ?_⟩) hHeld ?_
                          rotate_left
                          · intro wx hSw
                            (try dsimp only at hSw)
                            go_simp
                            (try with_reducible rfl)
                          (try simp only [Act.put, List.setIfInBounds_toArray, List.set_cons_zero, List.set_cons_succ])
                          refine wpAnyH_take (i := 14) (v := ?_) (List.getElem?_toArray.trans rfl) (by kernel_rfl) (by kernel_rfl) (by kernel_rfl) (fun _ _ _ h => h) (Or.inl ⟨by rfl, ?_⟩) hHeld ?_
                          rotate_left
                          · intro wx hSw
                            (try dsimp only at hSw)
                            go_simp
                            (try with_reducible rfl)
                          (try simp only [Act.put, List.setIfInBounds_toArray, List.set_cons_zero, List.set_cons_succ])
                          refine wpAnyH_take (i := 15) (v := ?_) (List.getElem?_toArray.trans rfl) (by kernel_rfl) (by kernel_rfl) (by kernel_rfl) (fun _ _ _ h => h) (Or.inl ⟨by rfl, ?_⟩) hHeld ?_
                          rotate_left
                          · intro wx hSw
                            (try dsimp only at hSw)
                            go_simp
                            (try with_reducible rfl)
                          (try simp only [Act.put, List.setIfInBounds_toArray, List.set_cons_zero, List.set_cons_succ])
                          refine wpAnyH_take (i := 16) (v := ?_) (List.getElem?_toArray.trans rfl) (by kernel_rfl) (by kernel_rfl) (by kernel_rfl) (fun _ _ _ h => h) (Or.inl ⟨by rfl, ?_⟩) hHeld ?_
                          rotate_left
                          · intro wx hSw
                            (try dsimp only at hSw)
                            go_simp
                            (try with_reducible rfl)
                          (try simp only [Act.put, List.setIfInBounds_toArray, List.set_cons_zero, List.set_cons_succ])
                          refine wpAnyH_take (i := 17) (v := ?_) (List.getElem?_toArray.trans rfl) (by kernel_rfl) (by kernel_rfl) (by kernel_rfl) (fun _ _ _ h => h) (Or.inl ⟨by rfl, ?_⟩) hHeld ?_
                          rotate_left
                          · intro wx hSw
                            (try dsimp only at hSw)
                            go_simp
                            (try with_reducible rfl)
                          (try simp only [Act.put, List.setIfInBounds_toArray, List.set_cons_zero, List.set_cons_succ])
                          refine wpAnyH_take (i := 18) (v := ?_) (List.getElem?_toArray.trans rfl) (by kernel_rfl) (by kernel_rfl) (by kernel_rfl) (fun _ _ _ h => h) (Or.inl ⟨by rfl, ?_⟩) hHeld ?_
                          rotate_left
                          · intro wx hSw
                            (try dsimp only at hSw)
                            go_simp
                            (try with_reducible rfl)
                          (try simp only [Act.put, List.setIfInBounds_toArray, List.set_cons_zero, List.set_cons_succ])
                          refine wpAnyH_take (i := 19) (v := ?_) (List.getElem?_toArray.trans rfl) (by kernel_rfl) (by kernel_rfl) (by kernel_rfl) (fun _ _ _ h => h) (Or.inl ⟨by rfl, ?_⟩) hHeld ?_
                          rotate_left
                          · intro wx hSw
                            (try dsimp only at hSw)
                            go_simp
                            (try with_reducible rfl)
                          (try simp only [Act.put, List.setIfInBounds_toArray, List.set_cons_zero, List.set_cons_succ])
                          refine wpAnyH_take (i := 20) (v := ?_) (List.getElem?_toArray.trans rfl) (by kernel_rfl) (by kernel_rfl) (by kernel_rfl) (fun _ _ _ h => h) (Or.inl ⟨by rfl, ?_⟩) hHeld ?_
                          rotate_left
                          · intro wx hSw
                            (try dsimp only at hSw)
                            go_simp
                            (try with_reducible rfl)
                          (try simp only [Act.put, List.setIfInBounds_toArray, List.set_cons_zero, List.set_cons_succ])
                          refine wpAnyH_take (i := 21) (v := ?_) (List.getElem?_toArray.trans rfl) (by kernel_rfl) (by kernel_rfl) (by kernel_rfl) (fun _ _ _ h => h) (Or.inl ⟨by rfl, ?_⟩) hHeld ?_
                          rotate_left
                          · intro wx hSw
                            (try dsimp only at hSw)
                            go_simp
                            (try with_reducible rfl)
                          (try simp only [Act.put, List.setIfInBounds_toArray, List.set_cons_zero, List.set_cons_succ])
                          refine wpAnyH_take (i := 22) (v := ?_) (List.getElem?_toArray.trans rfl) (by kernel_rfl) (by kernel_rfl) (by kernel_rfl) (fun _ _ _ h => h) (Or.inl ⟨by rfl, ?_⟩) hHeld ?_
                          rotate_left
                          · intro wx hSw
                            (try dsimp only at hSw)
                            go_simp
                            (try with_reducible rfl)
                          (try simp only [Act.put, List.setIfInBounds_toArray, List.set_cons_zero, List.set_cons_succ])
                          refine wpAnyH_ready (rs := [23]) (by kernel_rfl) (by simp) ?_
                          refine AllReadyH.cons (List.getElem?_toArray.trans rfl) (fun K hK => ?_) AllReadyH.nil
                          go_simp
                          go_at_call 44
                          with_reducible refine Calls.mono (HRY.out _ (below_on (RHeldIn.below HH5.out) hHeld.1)) ?_
                          rintro e w3 ⟨rfl, hB3⟩
                          have hHeld2 := HSX.out _ (hHeld.1.trans (hB3.mono hHeld.1.size))
                          refine hK.out _ _ hHeld2 (fun _ => ?_)
                          clear hK K hHeld hB3
                          have hHeld := hHeld2
                          clear hHeld2
                          (try simp only [Act.put, List.setIfInBounds_toArray, List.set_cons_zero, List.set_cons_succ])
                          refine wpAnyH_take (i := 24) (v := ?_) (List.getElem?_toArray.trans rfl) (by kernel_rfl) (by kernel_rfl) (by kernel_rfl) (fun _ _ _ h => h) (Or.inl ⟨by rfl, ?_⟩) hHeld ?_
                          rotate_left
                          · intro wx hSw
                            (try dsimp only at hSw)
                            go_simp
                            (try with_reducible rfl)
                          (try simp only [Act.put, List.setIfInBounds_toArray, List.set_cons_zero, List.set_cons_succ])
                          refine wpAnyH_take (i := 25) (v := ?_) (List.getElem?_toArray.trans rfl) (by kernel_rfl) (by kernel_rfl) (by kernel_rfl) (fun _ _ _ h => h) (Or.inl ⟨by rfl, ?_⟩) hHeld ?_
                          rotate_left
                          · intro wx hSw
                            (try dsimp only at hSw)
                            go_simp
                            (try with_reducible rfl)
                          (try simp only [Act.put, List.setIfInBounds_toArray, List.set_cons_zero, List.set_cons_succ])
                          refine wpAnyH_done (by kernel_rfl) ?_ _
                          obtain ⟨w6, rfl⟩ : ∃ w6 : World, w6 = w3 := ⟨_, rfl⟩
                          have HB56 := Lib.hid hHeld.1
                          have r6 := hHeld.2.2.1
                          have r1 := hHeld.2.2.2.2.1
                          have hbl : f < beg.length := (tabR_lt HTB.out).1
                          rcases HBG.out with hb0 | ⟨bb, offb, rfl, hbb, hbc⟩
                          · exfalso; rw [hb0] at hbl; simp at hbl
                          obtain ⟨z, hz⟩ : ∃ z, beg[f]? = some z := ⟨_, List.getElem?_eq_getElem hbl⟩
                          have hwb : Below w.heap.size w w6 := HH5.out.1.trans (HB56.out.mono HH5.out.1.size)
                          have r2 := (hwb.cell (p := ⟨bb, offb + f, none⟩) hbb).trans (hbc f z hz)
                          have hl6a := World.block_lt_of_cell? w6 _ r6
                          have hl6b := World.block_lt_of_cell? w6 _ r1
                          have hl6c := World.block_lt_of_cell? w6 _ r2
                          dsimp only at hl6a hl6b hl6c
                          have HW6 := Lib.hid hwb
                          have HCL := Lib.hid (show IntKind.i64.wrap (ax - z) = cl by rw [HCLE.out]; unfold colR; rw [getD_of hz]; exact wrap_eq _)
                          have HI6 := Lib.hid (HH5.out.call HB56.out)
                          have HON := Lib.hid (fun (W : World) (hB : Below w6.heap.size w6 W) => show Calls Try.prog 26 #[.slice A1 cj.length c1, .int .i64 cl] W (RetI (outJ (j + 1)) W) from HQ1.out ▸ once_any A1 c1 cj cl W ((HI6.out.ints).keep hB) (by omega))
                          have HSY := Lib.hid (show ∀ wx, Below w6.heap.size w6 wx → Below w6.heap.size w6 wx ∧ wx.cell? ⟨wi.heap.size, 6, none⟩ = some (.int .i64 ax) ∧ wx.cell? ⟨w.heap.size, 1, none⟩ = some (.slice (some ⟨bb, offb, none⟩) beg.length bc) ∧ wx.cell? ⟨bb, offb + f, none⟩ = some (.int .i64 z) ∧ wi.heap.size < wx.heap.size ∧ w.heap.size < wx.heap.size ∧ bb < wx.heap.size from fun wx h => ⟨h, cell_kept r6 h, cell_kept r1 h, cell_kept r2 h, Nat.lt_of_lt_of_le hl6a h.size, Nat.lt_of_lt_of_le hl6b h.size, Nat.lt_of_lt_of_le hl6c h.size⟩)
                          have hW0 : Below w6.heap.size w6 w6.drew := (Below.refl _ _).drew
                          clear hHeld hbc hz hwb
                          go_wp2_with fail
                          go_region_held3 (fun wx => Below w6.heap.size w6 wx ∧ wx.cell? ⟨wi.heap.size, 6, none⟩ = some (.int .i64 ax) ∧ wx.cell? ⟨w.heap.size, 1, none⟩ = some (.slice (some ⟨bb, offb, none⟩) beg.length bc) ∧ wx.cell? ⟨bb, offb + f, none⟩ = some (.int .i64 z) ∧ wi.heap.size < wx.heap.size ∧ w.heap.size < wx.heap.size ∧ bb < wx.heap.size)
                            (first
                              | exact HSY.out _ hW0
                              | (with_reducible assumption)
                              | exact HSY.out _ hW7
                              | fail)
                            (first
                            | (go_at_call 26; rw [HCL.out]; (with_reducible refine (HON.out _ hW0).mono ?_); rintro e w7 ⟨A7, c7, rfl, hI7, hB7⟩; have hW7 := hW0.trans (hB7.mono hW0.size))
                            | fail)
                          all_goals
                            have HI7 := Lib.hid hI7
                            have HW7 := Lib.hid hW7
                            go_wp2_with (first
                              | (go_at_call 45; (with_reducible refine (rturn_any _ _).mono ?_); rintro e w8 ⟨rfl, hB8⟩; have HB8 := Lib.hid hB8; clear hB8)
                              | fail)
                            go_roundw
                            case rel => exact ⟨j + 1, by omega, by go_num, by rw [HOPN.out], ⟨HW6.out.trans ((HW7.out.trans (HB8.out.mono HW7.out.size)).mono HW6.out.size), HI6.out.2.1.keep (HW7.out.trans (HB8.out.mono HW7.out.size)), A7, c7, rfl, HI7.out.keep HB8.out⟩, HN5.out.keep (HB56.out.trans ((HW7.out.trans (HB8.out.mono HW7.out.size)).mono HB56.out.size))⟩
                            case measure => simp [intOf] <;> omega
                    · have HTC := Lib.hid (HTAB.out ax)
                      have hne : (tabI (tabR ⟨tA, tc, tabs, bA, bc, beg, width, (some ⟨b, off, none⟩), wc, wh, gA, gn, gc, grouped, iA, i_n, ic, oA, oc, ord, limit⟩ ax) == (f : Int)) = false := by rw [tab_eq, decide_eq_false htf]
                      have HQ2 := Lib.hid (show outJ (j + 1) = cj by rw [HE.out, HS1.out, if_neg]; rw [HT1.out]; show ¬ ((2 : Int) == 2 && (decide (tabR _ ax = some f) && _)) = true; rw [decide_eq_false htf]; simp)
                      clear htf
                      generalize tabI (tabR ⟨tA, tc, tabs, bA, bc, beg, width, (some ⟨b, off, none⟩), wc, wh, gA, gn, gc, grouped, iA, i_n, ic, oA, oc, ord, limit⟩ ax) = tv at HTC hne
                      refine wp_region_held_drew (S := (fun wx => Below w5.heap.size w5 wx ∧ wx.cell? ⟨wi.heap.size, 0, none⟩ = some (.int .i64 2) ∧ wx.cell? ⟨wi.heap.size, 6, none⟩ = some (.int .i64 ax) ∧ wx.cell? ⟨w.heap.size, 0, none⟩ = some (.slice tA tabs.length tc) ∧ wx.cell? ⟨w.heap.size, 1, none⟩ = some (.slice bA beg.length bc) ∧ wx.cell? ⟨w.heap.size, 2, none⟩ = some (.int .i64 width) ∧ wx.cell? ⟨w.heap.size, 3, none⟩ = some (.slice (some ⟨b, off, none⟩) wh.length wc) ∧ wx.cell? ⟨w.heap.size, 4, none⟩ = some (.slice gA gn gc) ∧ wx.cell? ⟨w.heap.size, 5, none⟩ = some (.bool grouped) ∧ wx.cell? ⟨w.heap.size, 6, none⟩ = some (.slice iA i_n ic) ∧ wx.cell? ⟨w.heap.size, 7, none⟩ = some (.slice oA ord.length oc) ∧ wx.cell? ⟨w.heap.size, 8, none⟩ = some (.int .i64 limit) ∧ wx.cell? ⟨wo.heap.size, 9, none⟩ = some (.slice (some ⟨b2, off2, none⟩) 2 c') ∧ wx.cell? ⟨b2, off2 + j2 * 10, none⟩ = some (.int .i64 ky) ∧ wx.cell? ⟨b2, off2 + j2 * 10 + 1, none⟩ = some (.string oy) ∧ wx.cell? ⟨b2, off2 + j2 * 10 + 2, none⟩ = some (.int .i64 lky) ∧ wx.cell? ⟨b2, off2 + j2 * 10 + 3, none⟩ = some (.int .i64 lny) ∧ wx.cell? ⟨b2, off2 + j2 * 10 + 4, none⟩ = some (.float .f64 lfy) ∧ wx.cell? ⟨b2, off2 + j2 * 10 + 5, none⟩ = some (.string lsy) ∧ wx.cell? ⟨b2, off2 + j2 * 10 + 6, none⟩ = some (.int .i64 ay) ∧ wx.cell? ⟨b2, off2 + j2 * 10 + 7, none⟩ = some (.bool nty) ∧ wx.cell? ⟨b2, off2 + j2 * 10 + 8, none⟩ = some (.int .i64 tyy) ∧ wx.cell? ⟨b2, off2 + j2 * 10 + 9, none⟩ = some (.slice Ay ly.length cy))) (by kernel_rfl) (HSX.out _ (Below.refl _ _).drew) (fun hHeld => ?_)
                      (try dsimp only at hHeld)
                      refine wpAnyH_take (i := 0) (v := ?_) (List.getElem?_toArray.trans rfl) (by kernel_rfl) (by kernel_rfl) (by kernel_rfl) (fun _ _ _ h => h) (Or.inl ⟨by rfl, ?_⟩) hHeld ?_
                      rotate_left
                      · intro wx hSw
                        (try dsimp only at hSw)
                        go_simp
                        (try with_reducible rfl)
                      (try simp only [Act.put, List.setIfInBounds_toArray, List.set_cons_zero, List.set_cons_succ])
                      refine wpAnyH_take (i := 1) (v := ?_) (List.getElem?_toArray.trans rfl) (by kernel_rfl) (by kernel_rfl) (by kernel_rfl) (fun _ _ _ h => h) (Or.inl ⟨by rfl, ?_⟩) hHeld ?_
                      rotate_left
                      · intro wx hSw
                        (try dsimp only at hSw)
                        go_simp
                        (try with_reducible rfl)
                      (try simp only [Act.put, List.setIfInBounds_toArray, List.set_cons_zero, List.set_cons_succ])
                      refine wpAnyH_take (i := 2) (v := ?_) (List.getElem?_toArray.trans rfl) (by kernel_rfl) (by kernel_rfl) (by kernel_rfl) (fun _ _ _ h => h) (Or.inl ⟨by rfl, ?_⟩) hHeld ?_
                      rotate_left
                      · intro wx hSw
                        (try dsimp only at hSw)
                        go_simp
                        (try with_reducible rfl)
                      (try simp only [Act.put, List.setIfInBounds_toArray, List.set_cons_zero, List.set_cons_succ])
                      refine wpAnyH_take (i := 3) (v := ?_) (List.getElem?_toArray.trans rfl) (by kernel_rfl) (by kernel_rfl) (by kernel_rfl) (fun _ _ _ h => h) (Or.inl ⟨by rfl, ?_⟩) hHeld ?_
                      rotate_left
                      · intro wx hSw
                        (try dsimp only at hSw)
                        go_simp
                        (try with_reducible rfl)
                      (try simp only [Act.put, List.setIfInBounds_toArray, List.set_cons_zero, List.set_cons_succ])
                      refine wpAnyH_take (i := 4) (v := ?_) (List.getElem?_toArray.trans rfl) (by kernel_rfl) (by kernel_rfl) (by kernel_rfl) (fun _ _ _ h => h) (Or.inl ⟨by rfl, ?_⟩) hHeld ?_
                      rotate_left
                      · intro wx hSw
                        (try dsimp only at hSw)
                        go_simp
                        (try with_reducible rfl)
                      (try simp only [Act.put, List.setIfInBounds_toArray, List.set_cons_zero, List.set_cons_succ])
                      refine wpAnyH_take (i := 5) (v := ?_) (List.getElem?_toArray.trans rfl) (by kernel_rfl) (by kernel_rfl) (by kernel_rfl) (fun _ _ _ h => h) (Or.inl ⟨by rfl, ?_⟩) hHeld ?_
                      rotate_left
                      · intro wx hSw
                        (try dsimp only at hSw)
                        go_simp
                        (try with_reducible rfl)
                      (try simp only [Act.put, List.setIfInBounds_toArray, List.set_cons_zero, List.set_cons_succ])
                      refine wpAnyH_take (i := 6) (v := ?_) (List.getElem?_toArray.trans rfl) (by kernel_rfl) (by kernel_rfl) (by kernel_rfl) (fun _ _ _ h => h) (Or.inl ⟨by rfl, ?_⟩) hHeld ?_
                      rotate_left
                      · intro wx hSw
                        (try dsimp only at hSw)
                        go_simp
                        (try with_reducible rfl)
                      (try simp only [Act.put, List.setIfInBounds_toArray, List.set_cons_zero, List.set_cons_succ])
                      refine wpAnyH_take (i := 8) (v := ?_) (List.getElem?_toArray.trans rfl) (by kernel_rfl) (by kernel_rfl) (by kernel_rfl) (fun _ _ _ h => h) (Or.inl ⟨by rfl, ?_⟩) hHeld ?_
                      rotate_left
                      · intro wx hSw
                        (try dsimp only at hSw)
                        go_simp
                        (try with_reducible rfl)
                      (try simp only [Act.put, List.setIfInBounds_toArray, List.set_cons_zero, List.set_cons_succ])
                      refine wpAnyH_ready (rs := [7]) (by kernel_rfl) (by simp) ?_
                      refine AllReadyH.cons (List.getElem?_toArray.trans rfl) (fun K hK => ?_) AllReadyH.nil
                      go_simp
                      go_at_call 43
                      with_reducible refine Calls.mono (HTC.out _ (below_on (RHeldIn.below HH5.out) hHeld.1)) ?_
                      rintro e w3 ⟨rfl, hB3⟩
                      have hHeld2 := HSX.out _ (hHeld.1.trans (hB3.mono hHeld.1.size))
                      refine hK.out _ _ hHeld2 (fun _ => ?_)
                      clear hK K hHeld hB3
                      have hHeld := hHeld2
                      clear hHeld2
                      (try simp only [Act.put, List.setIfInBounds_toArray, List.set_cons_zero, List.set_cons_succ])
                      refine wpAnyH_take (i := 9) (v := ?_) (List.getElem?_toArray.trans rfl) (by kernel_rfl) (by kernel_rfl) (by kernel_rfl) (fun _ _ _ h => h) (Or.inl ⟨by rfl, ?_⟩) hHeld ?_
                      rotate_left
                      · intro wx hSw
                        (try dsimp only at hSw)
                        go_simp
                        (try with_reducible rfl)
                      (try simp only [Act.put, List.setIfInBounds_toArray, List.set_cons_zero, List.set_cons_succ])
                      refine wpAnyH_take (i := 10) (v := ?_) (List.getElem?_toArray.trans rfl) (by kernel_rfl) (by kernel_rfl) (by kernel_rfl) (fun _ _ _ h => h) (Or.inl ⟨by rfl, ?_⟩) hHeld ?_
                      rotate_left
                      · intro wx hSw
                        (try dsimp only at hSw)
                        go_simp
                        (try with_reducible rfl)
                      (try simp only [Act.put, List.setIfInBounds_toArray, List.set_cons_zero, List.set_cons_succ])
                      refine wpAnyH_take (i := 11) (v := ?_) (List.getElem?_toArray.trans rfl) (by kernel_rfl) (by kernel_rfl) (by kernel_rfl) (fun _ _ _ h => h) (Or.inl ⟨by rfl, ?_⟩) hHeld ?_
                      rotate_left
                      · intro wx hSw
                        (try dsimp only at hSw)
                        go_simp
                        (try with_reducible rfl)
                      (try simp only [Act.put, List.setIfInBounds_toArray, List.set_cons_zero, List.set_cons_succ])
                      refine wpAnyH_take (i := 12) (List.getElem?_toArray.trans rfl) (by kernel_rfl) (by kernel_rfl) (by kernel_rfl) (fun _ _ _ h => h) (Or.inr ⟨by rfl, rfl⟩) hHeld ?_
                      (try simp only [Act.put, List.setIfInBounds_toArray, List.set_cons_zero, List.set_cons_succ])
                      refine wpAnyH_take (i := 13) (v := ?_) (List.getElem?_toArray.trans rfl) (by kernel_rfl) (by kernel_rfl) (by kernel_rfl) (fun _ _ _ h => h) (Or.inl ⟨by rfl, ?_⟩) hHeld ?_
                      rotate_left
                      · intro wx hSw
                        (try dsimp only at hSw)
                        go_simp
                        (try with_reducible rfl)
                      (try simp only [Act.put, List.setIfInBounds_toArray, List.set_cons_zero, List.set_cons_succ])
                      refine wpAnyH_take (i := 14) (v := ?_) (List.getElem?_toArray.trans rfl) (by kernel_rfl) (by kernel_rfl) (by kernel_rfl) (fun _ _ _ h => h) (Or.inl ⟨by rfl, ?_⟩) hHeld ?_
                      rotate_left
                      · intro wx hSw
                        (try dsimp only at hSw)
                        go_simp
                        (try with_reducible rfl)
                      (try simp only [Act.put, List.setIfInBounds_toArray, List.set_cons_zero, List.set_cons_succ])
                      refine wpAnyH_take (i := 15) (List.getElem?_toArray.trans rfl) (by kernel_rfl) (by kernel_rfl) (by kernel_rfl) (fun _ _ _ h => h) (Or.inr ⟨by rfl, rfl⟩) hHeld ?_
                      (try simp only [Act.put, List.setIfInBounds_toArray, List.set_cons_zero, List.set_cons_succ])
                      refine wpAnyH_take (i := 16) (List.getElem?_toArray.trans rfl) (by kernel_rfl) (by kernel_rfl) (by kernel_rfl) (fun _ _ _ h => h) (Or.inr ⟨by rfl, rfl⟩) hHeld ?_
                      (try simp only [Act.put, List.setIfInBounds_toArray, List.set_cons_zero, List.set_cons_succ])
                      refine wpAnyH_take (i := 17) (List.getElem?_toArray.trans rfl) (by kernel_rfl) (by kernel_rfl) (by kernel_rfl) (fun _ _ _ h => h) (Or.inr ⟨by rfl, rfl⟩) hHeld ?_
                      (try simp only [Act.put, List.setIfInBounds_toArray, List.set_cons_zero, List.set_cons_succ])
                      refine wpAnyH_take (i := 18) (List.getElem?_toArray.trans rfl) (by kernel_rfl) (by kernel_rfl) (by kernel_rfl) (fun _ _ _ h => h) (Or.inr ⟨by rfl, rfl⟩) hHeld ?_
                      (try simp only [Act.put, List.setIfInBounds_toArray, List.set_cons_zero, List.set_cons_succ])
                      refine wpAnyH_take (i := 19) (List.getElem?_toArray.trans rfl) (by kernel_rfl) (by kernel_rfl) (by kernel_rfl) (fun _ _ _ h => h) (Or.inr ⟨by rfl, rfl⟩) hHeld ?_
                      (try simp only [Act.put, List.setIfInBounds_toArray, List.set_cons_zero, List.set_cons_succ])
                      refine wpAnyH_take (i := 20) (List.getElem?_toArray.trans rfl) (by kernel_rfl) (by kernel_rfl) (by kernel_rfl) (fun _ _ _ h => h) (Or.inr ⟨by rfl, rfl⟩) hHeld ?_
                      (try simp only [Act.put, List.setIfInBounds_toArray, List.set_cons_zero, List.set_cons_succ])
                      refine wpAnyH_take (i := 21) (List.getElem?_toArray.trans rfl) (by kernel_rfl) (by kernel_rfl) (by kernel_rfl) (fun _ _ _ h => h) (Or.inr ⟨by rfl, rfl⟩) hHeld ?_
                      (try simp only [Act.put, List.setIfInBounds_toArray, List.set_cons_zero, List.set_cons_succ])
                      refine wpAnyH_take (i := 22) (List.getElem?_toArray.trans rfl) (by kernel_rfl) (by kernel_rfl) (by kernel_rfl) (fun _ _ _ h => h) (Or.inr ⟨by rfl, rfl⟩) hHeld ?_
                      (try simp only [Act.put, List.setIfInBounds_toArray, List.set_cons_zero, List.set_cons_succ])
                      refine wpAnyH_take (i := 23) (List.getElem?_toArray.trans rfl) (by kernel_rfl) (by kernel_rfl) (by kernel_rfl) (fun _ _ _ h => h) (Or.inr ⟨by rfl, rfl⟩) hHeld ?_
                      (try simp only [Act.put, List.setIfInBounds_toArray, List.set_cons_zero, List.set_cons_succ])
                      refine wpAnyH_take (i := 24) (List.getElem?_toArray.trans rfl) (by kernel_rfl) (by kernel_rfl) (by kernel_rfl) (fun _ _ _ h => h) (Or.inr ⟨by rfl, rfl⟩) hHeld ?_
                      (try simp only [Act.put, List.setIfInBounds_toArray, List.set_cons_zero, List.set_cons_succ])
                      refine wpAnyH_take (i := 25) (v := ?_) (List.getElem?_toArray.trans rfl) (by kernel_rfl) (by kernel_rfl) (by kernel_rfl) (fun _ _ _ h => h) (Or.inl ⟨by rfl, ?_⟩) hHeld ?_
                      rotate_left
                      · intro wx hSw
                        (try dsimp only at hSw)
                        go_simp
                        (try with_reducible rfl)
                      (try simp only [Act.put, List.setIfInBounds_toArray, List.set_cons_zero, List.set_cons_succ])
                      refine wpAnyH_done (by kernel_rfl) ?_ _
                      go_wp2_with (first
                        | (go_at_call 45; (with_reducible refine (rturn_any _ _).mono ?_); rintro e w7 ⟨rfl, hB7⟩; have HB7 := Lib.hid (hHeld.1.trans (hB7.mono hHeld.1.size)); clear hB7)
                        | fail)
                      go_roundw
                      case rel => exact ⟨j + 1, by omega, by go_num, by rw [HOPN.out], (by rw [HQ2.out]; exact HH5.out.call HB7.out), HN5.out.keep HB7.out⟩
                      case measure => simp [intOf] <;> omega
                  · have hne : (kx == 2) = false := by simpa using hkx
                    have HQ2 := Lib.hid (show outJ (j + 1) = cj by rw [HE.out, HS1.out, if_neg]; rw [HT1.out]; show ¬ ((kx == 2) && _) = true; rw [hne]; simp)
                    clear hkx
                    refine wp_region_held_drew (S := (fun wx => Below w5.heap.size w5 wx ∧ wx.cell? ⟨wi.heap.size, 0, none⟩ = some (.int .i64 kx) ∧ wx.cell? ⟨wi.heap.size, 6, none⟩ = some (.int .i64 ax) ∧ wx.cell? ⟨w.heap.size, 0, none⟩ = some (.slice tA tabs.length tc) ∧ wx.cell? ⟨w.heap.size, 1, none⟩ = some (.slice bA beg.length bc) ∧ wx.cell? ⟨w.heap.size, 2, none⟩ = some (.int .i64 width) ∧ wx.cell? ⟨w.heap.size, 3, none⟩ = some (.slice (some ⟨b, off, none⟩) wh.length wc) ∧ wx.cell? ⟨w.heap.size, 4, none⟩ = some (.slice gA gn gc) ∧ wx.cell? ⟨w.heap.size, 5, none⟩ = some (.bool grouped) ∧ wx.cell? ⟨w.heap.size, 6, none⟩ = some (.slice iA i_n ic) ∧ wx.cell? ⟨w.heap.size, 7, none⟩ = some (.slice oA ord.length oc) ∧ wx.cell? ⟨w.heap.size, 8, none⟩ = some (.int .i64 limit) ∧ wx.cell? ⟨wo.heap.size, 9, none⟩ = some (.slice (some ⟨b2, off2, none⟩) 2 c') ∧ wx.cell? ⟨b2, off2 + j2 * 10, none⟩ = some (.int .i64 ky) ∧ wx.cell? ⟨b2, off2 + j2 * 10 + 1, none⟩ = some (.string oy) ∧ wx.cell? ⟨b2, off2 + j2 * 10 + 2, none⟩ = some (.int .i64 lky) ∧ wx.cell? ⟨b2, off2 + j2 * 10 + 3, none⟩ = some (.int .i64 lny) ∧ wx.cell? ⟨b2, off2 + j2 * 10 + 4, none⟩ = some (.float .f64 lfy) ∧ wx.cell? ⟨b2, off2 + j2 * 10 + 5, none⟩ = some (.string lsy) ∧ wx.cell? ⟨b2, off2 + j2 * 10 + 6, none⟩ = some (.int .i64 ay) ∧ wx.cell? ⟨b2, off2 + j2 * 10 + 7, none⟩ = some (.bool nty) ∧ wx.cell? ⟨b2, off2 + j2 * 10 + 8, none⟩ = some (.int .i64 tyy) ∧ wx.cell? ⟨b2, off2 + j2 * 10 + 9, none⟩ = some (.slice Ay ly.length cy))) (by kernel_rfl) (HSX.out _ (Below.refl _ _).drew) (fun hHeld => ?_)
                    (try dsimp only at hHeld)
                    refine wpAnyH_take (i := 0) (v := ?_) (List.getElem?_toArray.trans rfl) (by kernel_rfl) (by kernel_rfl) (by kernel_rfl) (fun _ _ _ h => h) (Or.inl ⟨by rfl, ?_⟩) hHeld ?_
                    rotate_left
                    · intro wx hSw
                      (try dsimp only at hSw)
                      go_simp
                      (try with_reducible rfl)
                    (try simp only [Act.put, List.setIfInBounds_toArray, List.set_cons_zero, List.set_cons_succ])
                    refine wpAnyH_take (i := 1) (v := ?_) (List.getElem?_toArray.trans rfl) (by kernel_rfl) (by kernel_rfl) (by kernel_rfl) (fun _ _ _ h => h) (Or.inl ⟨by rfl, ?_⟩) hHeld ?_
                    rotate_left
                    · intro wx hSw
                      (try dsimp only at hSw)
                      go_simp
                      (try with_reducible rfl)
                    (try simp only [Act.put, List.setIfInBounds_toArray, List.set_cons_zero, List.set_cons_succ])
                    refine wpAnyH_take (i := 2) (v := ?_) (List.getElem?_toArray.trans rfl) (by kernel_rfl) (by kernel_rfl) (by kernel_rfl) (fun _ _ _ h => h) (Or.inl ⟨by rfl, ?_⟩) hHeld ?_
                    rotate_left
                    · intro wx hSw
                      (try dsimp only at hSw)
                      go_simp
                      (try with_reducible rfl)
                    (try simp only [Act.put, List.setIfInBounds_toArray, List.set_cons_zero, List.set_cons_succ])
                    refine wpAnyH_take (i := 3) (v := ?_) (List.getElem?_toArray.trans rfl) (by kernel_rfl) (by kernel_rfl) (by kernel_rfl) (fun _ _ _ h => h) (Or.inl ⟨by rfl, ?_⟩) hHeld ?_
                    rotate_left
                    · intro wx hSw
                      (try dsimp only at hSw)
                      go_simp
                      (try with_reducible rfl)
                    (try simp only [Act.put, List.setIfInBounds_toArray, List.set_cons_zero, List.set_cons_succ])
                    refine wpAnyH_take (i := 4) (List.getElem?_toArray.trans rfl) (by kernel_rfl) (by kernel_rfl) (by kernel_rfl) (fun _ _ _ h => h) (Or.inr ⟨by rfl, rfl⟩) hHeld ?_
                    (try simp only [Act.put, List.setIfInBounds_toArray, List.set_cons_zero, List.set_cons_succ])
                    refine wpAnyH_take (i := 5) (List.getElem?_toArray.trans rfl) (by kernel_rfl) (by kernel_rfl) (by kernel_rfl) (fun _ _ _ h => h) (Or.inr ⟨by rfl, rfl⟩) hHeld ?_
                    (try simp only [Act.put, List.setIfInBounds_toArray, List.set_cons_zero, List.set_cons_succ])
                    refine wpAnyH_take (i := 6) (List.getElem?_toArray.trans rfl) (by kernel_rfl) (by kernel_rfl) (by kernel_rfl) (fun _ _ _ h => h) (Or.inr ⟨by rfl, rfl⟩) hHeld ?_
                    (try simp only [Act.put, List.setIfInBounds_toArray, List.set_cons_zero, List.set_cons_succ])
                    refine wpAnyH_take (i := 8) (List.getElem?_toArray.trans rfl) (by kernel_rfl) (by kernel_rfl) (by kernel_rfl) (fun _ _ _ h => h) (Or.inr ⟨by rfl, rfl⟩) hHeld ?_
                    (try simp only [Act.put, List.setIfInBounds_toArray, List.set_cons_zero, List.set_cons_succ])
                    refine wpAnyH_take (i := 7) (List.getElem?_toArray.trans rfl) (by kernel_rfl) (by kernel_rfl) (by kernel_rfl) (fun _ _ _ h => h) (Or.inr ⟨by rfl, rfl⟩) hHeld ?_
                    (try simp only [Act.put, List.setIfInBounds_toArray, List.set_cons_zero, List.set_cons_succ])
                    refine wpAnyH_take (i := 9) (List.getElem?_toArray.trans rfl) (by kernel_rfl) (by kernel_rfl) (by kernel_rfl) (fun _ _ _ h => h) (Or.inr ⟨by rfl, rfl⟩) hHeld ?_
                    (try simp only [Act.put, List.setIfInBounds_toArray, List.set_cons_zero, List.set_cons_succ])
                    refine wpAnyH_take (i := 10) (v := ?_) (List.getElem?_toArray.trans rfl) (by kernel_rfl) (by kernel_rfl) (by kernel_rfl) (fun _ _ _ h => h) (Or.inl ⟨by rfl, ?_⟩) hHeld ?_
                    rotate_left
                    · intro wx hSw
                      (try dsimp only at hSw)
                      go_simp
                      (try with_reducible rfl)
                    (try simp only [Act.put, List.setIfInBounds_toArray, List.set_cons_zero, List.set_cons_succ])
                    refine wpAnyH_take (i := 11) (v := ?_) (List.getElem?_toArray.trans rfl) (by kernel_rfl) (by kernel_rfl) (by kernel_rfl) (fun _ _ _ h => h) (Or.inl ⟨by rfl, ?_⟩) hHeld ?_
                    rotate_left
                    · intro wx hSw
                      (try dsimp only at hSw)
                      go_simp
                      (try with_reducible rfl)
                    (try simp only [Act.put, List.setIfInBounds_toArray, List.set_cons_zero, List.set_cons_succ])
                    refine wpAnyH_take (i := 12) (List.getElem?_toArray.trans rfl) (by kernel_rfl) (by kernel_rfl) (by kernel_rfl) (fun _ _ _ h => h) (Or.inr ⟨by rfl, rfl⟩) hHeld ?_
                    (try simp only [Act.put, List.setIfInBounds_toArray, List.set_cons_zero, List.set_cons_succ])
                    refine wpAnyH_take (i := 13) (v := ?_) (List.getElem?_toArray.trans rfl) (by kernel_rfl) (by kernel_rfl) (by kernel_rfl) (fun _ _ _ h => h) (Or.inl ⟨by rfl, ?_⟩) hHeld ?_
                    rotate_left
                    · intro wx hSw
                      (try dsimp only at hSw)
                      go_simp
                      (try with_reducible rfl)
                    (try simp only [Act.put, List.setIfInBounds_toArray, List.set_cons_zero, List.set_cons_succ])
                    refine wpAnyH_take (i := 14) (v := ?_) (List.getElem?_toArray.trans rfl) (by kernel_rfl) (by kernel_rfl) (by kernel_rfl) (fun _ _ _ h => h) (Or.inl ⟨by rfl, ?_⟩) hHeld ?_
                    rotate_left
                    · intro wx hSw
                      (try dsimp only at hSw)
                      go_simp
                      (try with_reducible rfl)
                    (try simp only [Act.put, List.setIfInBounds_toArray, List.set_cons_zero, List.set_cons_succ])
                    refine wpAnyH_take (i := 15) (List.getElem?_toArray.trans rfl) (by kernel_rfl) (by kernel_rfl) (by kernel_rfl) (fun _ _ _ h => h) (Or.inr ⟨by rfl, rfl⟩) hHeld ?_
                    (try simp only [Act.put, List.setIfInBounds_toArray, List.set_cons_zero, List.set_cons_succ])
                    refine wpAnyH_take (i := 16) (List.getElem?_toArray.trans rfl) (by kernel_rfl) (by kernel_rfl) (by kernel_rfl) (fun _ _ _ h => h) (Or.inr ⟨by rfl, rfl⟩) hHeld ?_
                    (try simp only [Act.put, List.setIfInBounds_toArray, List.set_cons_zero, List.set_cons_succ])
                    refine wpAnyH_take (i := 17) (List.getElem?_toArray.trans rfl) (by kernel_rfl) (by kernel_rfl) (by kernel_rfl) (fun _ _ _ h => h) (Or.inr ⟨by rfl, rfl⟩) hHeld ?_
                    (try simp only [Act.put, List.setIfInBounds_toArray, List.set_cons_zero, List.set_cons_succ])
                    refine wpAnyH_take (i := 18) (List.getElem?_toArray.trans rfl) (by kernel_rfl) (by kernel_rfl) (by kernel_rfl) (fun _ _ _ h => h) (Or.inr ⟨by rfl, rfl⟩) hHeld ?_
                    (try simp only [Act.put, List.setIfInBounds_toArray, List.set_cons_zero, List.set_cons_succ])
                    refine wpAnyH_take (i := 19) (List.getElem?_toArray.trans rfl) (by kernel_rfl) (by kernel_rfl) (by kernel_rfl) (fun _ _ _ h => h) (Or.inr ⟨by rfl, rfl⟩) hHeld ?_
                    (try simp only [Act.put, List.setIfInBounds_toArray, List.set_cons_zero, List.set_cons_succ])
                    refine wpAnyH_take (i := 20) (List.getElem?_toArray.trans rfl) (by kernel_rfl) (by kernel_rfl) (by kernel_rfl) (fun _ _ _ h => h) (Or.inr ⟨by rfl, rfl⟩) hHeld ?_
                    (try simp only [Act.put, List.setIfInBounds_toArray, List.set_cons_zero, List.set_cons_succ])
                    refine wpAnyH_take (i := 21) (List.getElem?_toArray.trans rfl) (by kernel_rfl) (by kernel_rfl) (by kernel_rfl) (fun _ _ _ h => h) (Or.inr ⟨by rfl, rfl⟩) hHeld ?_
                    (try simp only [Act.put, List.setIfInBounds_toArray, List.set_cons_zero, List.set_cons_succ])
                    refine wpAnyH_take (i := 22) (List.getElem?_toArray.trans rfl) (by kernel_rfl) (by kernel_rfl) (by kernel_rfl) (fun _ _ _ h => h) (Or.inr ⟨by rfl, rfl⟩) hHeld ?_
                    (try simp only [Act.put, List.setIfInBounds_toArray, List.set_cons_zero, List.set_cons_succ])
                    refine wpAnyH_take (i := 23) (List.getElem?_toArray.trans rfl) (by kernel_rfl) (by kernel_rfl) (by kernel_rfl) (fun _ _ _ h => h) (Or.inr ⟨by rfl, rfl⟩) hHeld ?_
                    (try simp only [Act.put, List.setIfInBounds_toArray, List.set_cons_zero, List.set_cons_succ])
                    refine wpAnyH_take (i := 24) (List.getElem?_toArray.trans rfl) (by kernel_rfl) (by kernel_rfl) (by kernel_rfl) (fun _ _ _ h => h) (Or.inr ⟨by rfl, rfl⟩) hHeld ?_
                    (try simp only [Act.put, List.setIfInBounds_toArray, List.set_cons_zero, List.set_cons_succ])
                    refine wpAnyH_take (i := 25) (v := ?_) (List.getElem?_toArray.trans rfl) (by kernel_rfl) (by kernel_rfl) (by kernel_rfl) (fun _ _ _ h => h) (Or.inl ⟨by rfl, ?_⟩) hHeld ?_
                    rotate_left
                    · intro wx hSw
                      (try dsimp only at hSw)
                      go_simp
                      (try with_reducible rfl)
                    (try simp only [Act.put, List.setIfInBounds_toArray, List.set_cons_zero, List.set_cons_succ])
                    refine wpAnyH_done (by kernel_rfl) ?_ _
                    go_wp2_with (first
                      | (go_at_call 45; (with_reducible refine (rturn_any _ _).mono ?_); rintro e w7 ⟨rfl, hB7⟩; have HB7 := Lib.hid (hHeld.1.trans (hB7.mono hHeld.1.size)); clear hB7)
                      | fail)
                    go_roundw
                    case rel => exact ⟨j + 1, by omega, by go_num, by rw [HOPN.out], (by rw [HQ2.out]; exact HH5.out.call HB7.out), HN5.out.keep HB7.out⟩
                    case measure => simp [intOf] <;> omega
              · obtain rfl : j = 2 := by omega
                clear hj2
                go_wp2_with fail
                go_roundw
                case rel => exact ⟨k + 1, by omega, by go_num, by rw [HF.out, HX.out, ← HJ2.out, ← HCJ.out]; exact HII.out⟩
                case measure => simp [intOf] <;> omega
          · have HX := Lib.hid (HP1.out (.inr hl2))
            have hne : ((l'.length : Int) != 2) = true := by simp; omega
            subst hk7
            clear hl2
            go_wp2_with fail
            go_roundw
            case rel => exact ⟨k + 1, by omega, by go_num, by rw [HF.out, HX.out]; exact HI.out.call (below1 _ _)⟩
            case measure => simp [intOf] <;> omega
        · have HX := Lib.hid (HP1.out (.inl hk7))
          have hne : (k' != 7) = true := by simpa using hk7
          clear hk7
          go_wp2_with fail
          go_roundw
          case rel => exact ⟨k + 1, by omega, by go_num, by rw [HF.out, HX.out]; exact HI.out.call (below1 _ _)⟩
          case measure => simp [intOf] <;> omega
    · have HRE := Lib.hid (show cur = R by rw [HC.out, HR.out, List.take_of_length_le (by omega)])
      have HII := Lib.hid HI.out.ints
      go_wp2_with fail
      go_ret
      exact ⟨A0, c0, by rw [← HRE.out]; rfl, by rw [← HRE.out]; exact HII.out, HI.out.1⟩
end Go.Proofs.Ytcnkghcdjicldaa
