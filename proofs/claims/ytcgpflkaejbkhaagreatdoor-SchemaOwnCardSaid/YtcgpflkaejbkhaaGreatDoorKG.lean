/- The walks of the document's Drop and DropIndex. -/
import Derived.Test.YtcgpflkaejbkhaaGreatDoorKF
import Derived.Test.YtcgpflkaejbkhaaGreatDoorJY
import Derived.Deep.RegionLaw
import Derived.Deep.RegionHeld3
namespace Go.Proofs.YtcgpflkaejbkhaaGreatDoor
open Go.RowKit

/-- the boxes of the document's Drop: the schema, the answer, what is collected -/
structure DocS (w : World) (A : Option Addr) (n c : Nat) (ia : Option Addr) (mx ic b : Nat) (v u : Value) (W : World) : Prop where
  below : Below w.heap.size w W
  sch : W.heap[w.heap.size]? = some (.cells #[.slice A n c, .slice ia mx ic] 36)
  ans : W.heap[w.heap.size + 1]? = some (.cells #[.slice none 0 0, .slice none 0 0] 36)
  out : W.heap[b]? = some (.cells #[v, u] 36)
  far : w.heap.size + 1 < b
theorem DocS.keep {w : World} {A : Option Addr} {n c : Nat} {ia : Option Addr} {mx ic b : Nat} {v u : Value} {W W' : World} (h : DocS w A n c ia mx ic b v u W) (hB : Below W.heap.size W W') : DocS w A n c ia mx ic b v u W' :=
  ⟨h.below.trans (hB.mono h.below.size), (hB.block _ (heap_lt h.sch)).trans h.sch, (hB.block _ (heap_lt h.ans)).trans h.ans, (hB.block _ (heap_lt h.out)).trans h.out, h.far⟩
theorem DocS.row {w : World} {A : Option Addr} {n c : Nat} {ia : Option Addr} {mx ic b : Nat} {v u : Value} {W W' : World} (h : DocS w A n c ia mx ic b v u W) {r : Option Nat} (hg : W.grownBy W' r) (hr : ∀ q, r = some q → b < q) : DocS w A n c ia mx ic b v u W' := by
  have hf := h.far
  refine ⟨h.below.grown hg h.below.size (fun q hq => by have := hr q hq; omega), ?_, ?_, ?_, h.far⟩
  · exact (hg.block _ (heap_lt h.sch) (fun e => by have := hr _ e.symm; omega)).trans h.sch
  · exact (hg.block _ (heap_lt h.ans) (fun e => by have := hr _ e.symm; omega)).trans h.ans
  · exact (hg.block _ (heap_lt h.out) (fun e => by have := hr _ e.symm; omega)).trans h.out
theorem DocS.setT {w : World} {A : Option Addr} {n c : Nat} {ia : Option Addr} {mx ic b : Nat} {v u : Value} {W : World} (h : DocS w A n c ia mx ic b v u W) (v' : Value) : DocS w A n c ia mx ic b v' u (W.setCell ⟨b, 0, none⟩ v') := by
  have hf := h.far
  refine ⟨h.below.setCell (p := ⟨b, 0, none⟩) (by show w.heap.size ≤ b; omega) _, ?_, ?_, ?_, h.far⟩
  · rw [heap_setFar _ (by omega)]; exact h.sch
  · rw [heap_setFar _ (by omega)]; exact h.ans
  · rw [setCell_eq_setRow W _ 0 _ 36 _ _ h.out]
    exact setRow_heap W _ _ _ 36 _ h.out
theorem DocS.setX {w : World} {A : Option Addr} {n c : Nat} {ia : Option Addr} {mx ic b : Nat} {v u : Value} {W : World} (h : DocS w A n c ia mx ic b v u W) (u' : Value) : DocS w A n c ia mx ic b v u' (W.setCell ⟨b, 1, none⟩ u') := by
  have hf := h.far
  refine ⟨h.below.setCell (p := ⟨b, 1, none⟩) (by show w.heap.size ≤ b; omega) _, ?_, ?_, ?_, h.far⟩
  · rw [heap_setFar _ (by omega)]; exact h.sch
  · rw [heap_setFar _ (by omega)]; exact h.ans
  · rw [setCell_eq_setRow W _ 1 _ 36 _ _ h.out]
    exact setRow_heap W _ _ _ 36 _ h.out
theorem DocS.done {w : World} {A : Option Addr} {n c : Nat} {ia : Option Addr} {mx ic b : Nat} {v u : Value} {W : World} (h : DocS w A n c ia mx ic b v u W) (x y : Value) : Below w.heap.size w ((W.setCell ⟨w.heap.size + 1, 0, none⟩ x).setCell ⟨w.heap.size + 1, 1, none⟩ y) :=
  (h.below.setCell (p := ⟨w.heap.size + 1, 0, none⟩) (Nat.le_succ _) _).setCell (p := ⟨w.heap.size + 1, 1, none⟩) (Nat.le_succ _) _
theorem erase_step {α : Type} (l : List α) (j k : Nat) (x : α) (hx : l[k]? = some x) : (l.take (k + 1)).eraseIdx j = if k = j then (l.take k).eraseIdx j else (l.take k).eraseIdx j ++ [x] := by
  obtain ⟨h1, h2⟩ := List.getElem?_eq_some_iff.1 hx
  have h3 : l.take (k + 1) = l.take k ++ [x] := by rw [List.take_succ_eq_append_getElem h1, h2]
  have h4 : (l.take k).length = k := by rw [List.length_take]; omega
  rw [h3]
  by_cases e : k = j
  · subst e
    rw [if_pos rfl, List.eraseIdx_append_of_length_le (by omega), h4, Nat.sub_self, List.eraseIdx_of_length_le (l := l.take k) (by omega)]
    simp
  · rw [if_neg e]
    rcases Nat.lt_or_ge j k with h | h
    · rw [List.eraseIdx_append_of_lt_length (by omega)]
    · rw [List.eraseIdx_append_of_length_le (by omega), h4, List.eraseIdx_of_length_le (l := l.take k) (by omega)]
      have : j - k = (j - k - 1) + 1 := by omega
      rw [this]
      rfl
theorem filter_step {α : Type} (l : List α) (f : α → Bool) (k : Nat) (x : α) (hx : l[k]? = some x) : (l.take (k + 1)).filter f = if f x then (l.take k).filter f ++ [x] else (l.take k).filter f := by
  obtain ⟨h1, h2⟩ := List.getElem?_eq_some_iff.1 hx
  have h3 : l.take (k + 1) = l.take k ++ [x] := by rw [List.take_succ_eq_append_getElem h1, h2]
  rw [h3, List.filter_append]
  cases h : f x <;> simp [h]
theorem own_ne {w : World} {base n m : Nat} {v u : Value} {xs ys : List Value} (h : w.ownsRow base 25 5 v n xs) (k : w.ownsRow base 28 6 u m ys) : v.ownBlock = none ∨ v.ownBlock ≠ u.ownBlock := by
  cases hv : v.ownBlock with
  | none => exact Or.inl rfl
  | some g =>
    right
    intro e
    obtain ⟨_, _, r1, e1⟩ := (RowsAt.of_own h).block hv
    obtain ⟨_, _, r2, e2⟩ := (RowsAt.of_own k).block e.symm
    rw [e1] at e2
    cases e2
set_option maxRecDepth 100000 in
set_option maxHeartbeats 16000000 in
theorem rdrop_none (A : Option Addr) (c : Nat) (ts : List (Tab × List Col)) (ia : Option Addr) (ic : Nat) (xs : List (Idx × List Int)) (nm : ByteArray) (w : World) (hD : DeepAt w A ts) (_hX : DeepIx w ia xs) (hk : findN PT.name (ts.map ptOf) nm = none) :
    Calls Tryz.prog 33 #[.agg #[.slice A ts.length c, .slice ia xs.length ic], .string nm] w (ErrP 130 w) := by
  have HST := Lib.hid (DropXL.start w A ts.length c ia xs.length ic nm)
  have HTA := Lib.hid (show ∀ W, Below w.heap.size w W → Calls Tryz.prog 13 #[.agg #[.slice A ts.length c, .slice ia xs.length ic], .string nm] W (RetV (.int .i64 (placeI (findN PT.name (ts.map ptOf) nm))) W) from fun W hB => rtable_at A c ts ia xs.length ic nm W (DeepAt.keep hB hD))
  rw [hk] at HTA
  simp only [placeI] at HTA
  have r6 : ((-1 : Int) < 0) = True := eq_true (by omega)
  generalize ts.length = n at HST HTA ⊢
  generalize xs.length = mx at HST HTA ⊢
  clear hD _hX hk
  go_enter Tryz.func33, Tryz.ntmps33
  go_wp2_with (first
    | (go_at_call 13; (with_reducible refine (HTA.out _ HST.out.below).mono ?_); rintro e w3 ⟨rfl, hB3⟩
       have HK3 := Lib.hid (HST.out.keep hB3)
       have s0 := cell_of_row _ _ 0 _ _ _ HK3.out.sch
       have s1 := cell_of_row _ _ 1 _ _ _ HK3.out.sch
       have a0 := cell_of_row _ _ 0 _ _ _ HK3.out.ans
       have a1 := cell_of_row _ _ 1 _ _ _ HK3.out.ans
       have f0 := frozen_of_row _ _ 0 _ _ HK3.out.ans
       have f1 := frozen_of_row _ _ 1 _ _ HK3.out.ans
       clear hB3)
    | fail)
  exact bodyPost_ret (v := .tuple #[.agg #[.slice none 0 0, .slice none 0 0], .int .i64 130]) (by simp [results, Tryz.results33, go_sem, a0, a1]) rfl ⟨rfl, HK3.out.done _ _⟩
set_option maxRecDepth 100000 in
set_option maxHeartbeats 16000000 in
theorem rdropx_none (A : Option Addr) (c : Nat) (ts : List (Tab × List Col)) (ia : Option Addr) (ic : Nat) (xs : List (Idx × List Int)) (nm : ByteArray) (w : World) (_hD : DeepAt w A ts) (hX : DeepIx w ia xs) (hk : findN PX.name (xs.map pxOf) nm = none) :
    Calls Tryz.prog 35 #[.agg #[.slice A ts.length c, .slice ia xs.length ic], .string nm] w (ErrP 2 w) := by
  have HST := Lib.hid (DropXL.start w A ts.length c ia xs.length ic nm)
  have HTA := Lib.hid (show ∀ W, Below w.heap.size w W → Calls Tryz.prog 15 #[.agg #[.slice A ts.length c, .slice ia xs.length ic], .string nm] W (RetV (.int .i64 (placeI (findN PX.name (xs.map pxOf) nm))) W) from fun W hB => rindex_at ia ic xs A ts.length c nm W (DeepIx.keep hB hX))
  rw [hk] at HTA
  simp only [placeI] at HTA
  have r6 : ((-1 : Int) < 0) = True := eq_true (by omega)
  generalize ts.length = n at HST HTA ⊢
  generalize xs.length = mx at HST HTA ⊢
  clear _hD hX hk
  go_enter Tryz.func35, Tryz.ntmps35
  go_wp2_with (first
    | (go_at_call 15; (with_reducible refine (HTA.out _ HST.out.below).mono ?_); rintro e w3 ⟨rfl, hB3⟩
       have HK3 := Lib.hid (HST.out.keep hB3)
       have s0 := cell_of_row _ _ 0 _ _ _ HK3.out.sch
       have s1 := cell_of_row _ _ 1 _ _ _ HK3.out.sch
       have a0 := cell_of_row _ _ 0 _ _ _ HK3.out.ans
       have a1 := cell_of_row _ _ 1 _ _ _ HK3.out.ans
       have f0 := frozen_of_row _ _ 0 _ _ HK3.out.ans
       have f1 := frozen_of_row _ _ 1 _ _ HK3.out.ans
       clear hB3)
    | fail)
  exact bodyPost_ret (v := .tuple #[.agg #[.slice none 0 0, .slice none 0 0], .int .i64 2]) (by simp [results, Tryz.results35, go_sem, a0, a1]) rfl ⟨rfl, HK3.out.done _ _⟩
set_option maxRecDepth 100000 in
set_option maxHeartbeats 16000000 in
theorem rdropx_some (A : Option Addr) (c : Nat) (ts : List (Tab × List Col)) (ia : Option Addr) (ic : Nat) (xs : List (Idx × List Int)) (nm : ByteArray) (w : World) (hD : DeepAt w A ts) (hX : DeepIx w ia xs) (hA0 : A = none → ts = []) (_hX0 : ia = none → xs = []) (_hn : ts.length ≤ 1000) (hm : xs.length ≤ 1000) (hl : ∀ p ∈ ts, p.2.length ≤ 1000) (hlx : ∀ p ∈ xs, p.2.length ≤ 1000) (at0 : Nat) (hk : findN PX.name (xs.map pxOf) nm = some at0) :
    Calls Tryz.prog 35 #[.agg #[.slice A ts.length c, .slice ia xs.length ic], .string nm] w (DocP w 0 (ts.map ptOf) ((xs.map pxOf).eraseIdx at0)) := by
  have HST := Lib.hid (DropXL.start w A ts.length c ia xs.length ic nm)
  have HTA := Lib.hid (show ∀ W, Below w.heap.size w W → Calls Tryz.prog 15 #[.agg #[.slice A ts.length c, .slice ia xs.length ic], .string nm] W (RetV (.int .i64 (placeI (findN PX.name (xs.map pxOf) nm))) W) from fun W hB => rindex_at ia ic xs A ts.length c nm W (DeepIx.keep hB hX))
  rw [hk] at HTA
  simp only [placeI] at HTA
  have r6 : ((at0 : Int) < 0) = False := eq_false (by omega)
  have HRT := Lib.hid (show ∀ p ∈ ts, ReadT w p ∧ p.2.length ≤ 1000 from fun p hp => ⟨hD.2 p hp, hl p hp⟩)
  have HRX := Lib.hid (show ∀ p ∈ xs, ReadX w p ∧ p.2.length ≤ 1000 from fun p hp => ⟨hX.2 p hp, hlx p hp⟩)
  have HDT := Lib.hid (show ∀ W, Below w.heap.size w W → DeepAt W A ts ∧ (A = none → ts = []) from fun W hB => ⟨hD.keep hB, hA0⟩)
  have HTC := Lib.hid hD.1
  have HXC := Lib.hid hX.1
  obtain ⟨lt, hlt⟩ : ∃ lt, lt = ts.map Prod.fst := ⟨_, rfl⟩
  obtain ⟨lx, hlx2⟩ : ∃ lx, lx = xs.map Prod.fst := ⟨_, rfl⟩
  rw [← hlt] at HTC
  rw [← hlx2] at HXC
  have HLT := Lib.hid hlt
  have HLX := Lib.hid hlx2
  obtain ⟨n, hnn⟩ : ∃ n, n = ts.length := ⟨_, rfl⟩
  obtain ⟨mx, hmm⟩ : ∃ mx, mx = xs.length := ⟨_, rfl⟩
  have HN := Lib.hid hnn
  have HM := Lib.hid hmm
  have HNL := Lib.hid (show lt.length = n by rw [hlt, List.length_map, hnn])
  have HML := Lib.hid (show lx.length = mx by rw [hlx2, List.length_map, hmm])
  rw [← hnn] at HST HTA _hn
  rw [← hmm] at HST HTA hm
  rw [← hnn, ← hmm]
  clear hD hX hk hl hlx hnn hmm hlt hlx2 hA0 _hX0
  go_enter Tryz.func35, Tryz.ntmps35
  go_wp2_with (first
    | (go_at_call 15; (with_reducible refine (HTA.out _ HST.out.below).mono ?_); rintro e w3 ⟨rfl, hB3⟩
       have HK3 := Lib.hid (HST.out.keep hB3)
       have s0 := cell_of_row _ _ 0 _ _ _ HK3.out.sch
       have s1 := cell_of_row _ _ 1 _ _ _ HK3.out.sch
       clear hB3)
    | fail)
  have HS0 := Lib.hid (show DocS w A n c ia mx ic w3.heap.size (.slice A n c) (.slice none 0 0) (w3.alloc (.cells #[.slice A n c, .slice none 0 0] 36)) from by
    have h0 := HK3.out.keep (below1 w3 (.cells #[.slice A n c, .slice none 0 0] 36))
    have h1 := heap_lt HK3.out.ans
    exact ⟨h0.below, h0.sch, h0.ans, heap_alloc_new w3 _, by omega⟩)
  clear s0 s1
  go_loopw [8] (fun i wr => ∃ (k m vc : Nat) (va : Option Addr), k ≤ mx ∧ i = .int .i64 k ∧ Hid (DocS w A n c ia mx ic w3.heap.size (.slice A n c) (.slice va m vc) wr ∧ wr.ownsRow (w3.heap.size + 1) 28 6 (.slice va m vc) m (((lx.take k).eraseIdx at0).map idxL).flatten ∧ m = ((lx.take k).eraseIdx at0).length)) (fun i _ => mx - (intOf i).toNat)
  case atStart => exact ⟨0, 0, 0, none, Nat.zero_le _, rfl, Lib.hid ⟨HS0.out, World.ownsRow_nil _ _ _ _, rfl⟩⟩
  case round =>
    obtain ⟨k, m, vc, va, hk, rfl, HI⟩ := hrel
    obtain ⟨wo, rfl⟩ : ∃ wo : World, wo = wr := ⟨_, rfl⟩
    have s0 := cell_of_row _ _ 0 _ _ _ HI.out.1.sch
    have s1 := cell_of_row _ _ 1 _ _ _ HI.out.1.sch
    by_cases hkn : k < mx
    · obtain ⟨x, hx⟩ : ∃ x, lx[k]? = some x := ⟨_, List.getElem?_eq_getElem (by have := HML.out; omega)⟩
      have hkn2 : ((k : Int) < (mx : Int)) = True := eq_true (by omega)
      obtain ⟨b, off, rfl, HCC⟩ : ∃ b off, ia = some ⟨b, off, none⟩ ∧ Hid (∀ W, Below w.heap.size w W → ∀ (i : Nat) (u : Value), (idxL x)[i]? = some u → W.cell? ⟨b, off + k * 6 + i, none⟩ = some u) := by
        rcases HXC.out.2 with h0 | ⟨b, off, h1, h2, h3⟩
        · exfalso
          rw [List.map_eq_nil_iff] at h0
          rw [h0] at hx
          simp at hx
        · refine ⟨b, off, h1, fun W hB i u hi => (hB.cell (p := ⟨b, off + k * 6 + i, none⟩) h2).trans ((h3 k (idxL x) ?_).2 i u hi)⟩
          rw [List.getElem?_map, hx]
          rfl
      have HSTP := Lib.hid (erase_step lx at0 k x hx)
      have hml : m ≤ k := by
        have h1 := HI.out.2.2
        rw [h1]
        refine Nat.le_trans (List.length_eraseIdx_le _ _) ?_
        rw [List.length_take]
        exact Nat.min_le_left _ _
      clear hx
      obtain ⟨xn, xt, xa, xl, xc, xr, xx, xs⟩ := x
      by_cases hka : k = at0
      · have hq : ((k : Int) == (at0 : Int)) = true := beq_iff_eq.2 (by omega)
        have HSL := Lib.hid (show ((lx.take (k + 1)).eraseIdx at0) = ((lx.take k).eraseIdx at0) from by rw [HSTP.out]; exact if_pos hka)
        clear hka
        go_wp2_with fail
        go_roundw
        case rel => exact ⟨k + 1, m, vc, va, by omega, by go_num, Lib.hid (by rw [HSL.out]; exact HI.out)⟩
        case measure => simp [intOf] <;> omega
      · have hq : ((k : Int) == (at0 : Int)) = false := beq_eq_false_iff_ne.2 (by omega)
        have HSL := Lib.hid (show ((lx.take (k + 1)).eraseIdx at0) = ((lx.take k).eraseIdx at0) ++ [(⟨xn, xt, xa, xl, xc, xr, xx, xs⟩ : Idx)] from by rw [HSTP.out]; exact if_neg hka)
        have k0 : wo.drew.cell? ⟨b, off + k * 6, none⟩ = some (.string xn) := HCC.out _ HI.out.1.below.drew 0 _ rfl
        have k1 : wo.drew.cell? ⟨b, off + k * 6 + 1, none⟩ = some (.string xt) := HCC.out _ HI.out.1.below.drew 1 _ rfl
        have k2 : wo.drew.cell? ⟨b, off + k * 6 + 2, none⟩ = some (.slice xa xl xc) := HCC.out _ HI.out.1.below.drew 2 _ rfl
        have k3 : wo.drew.cell? ⟨b, off + k * 6 + 3, none⟩ = some (.int .i64 xr) := HCC.out _ HI.out.1.below.drew 3 _ rfl
        have k4 : wo.drew.cell? ⟨b, off + k * 6 + 4, none⟩ = some (.int .i64 xx) := HCC.out _ HI.out.1.below.drew 4 _ rfl
        have k5 : wo.drew.cell? ⟨b, off + k * 6 + 5, none⟩ = some (.int .i64 xs) := HCC.out _ HI.out.1.below.drew 5 _ rfl
        have p0 : wo.drew.cell? ⟨w3.heap.size, 1, none⟩ = some (.slice va m vc) := cell_of_row wo.drew _ 1 _ _ _ HI.out.1.out
        have p0b : ∀ O, (wo.drew.alloc O).cell? ⟨w3.heap.size, 1, none⟩ = some (.slice va m vc) := fun O => cell_kept p0 (below1 wo.drew O)
        have p00 : wo.cell? ⟨w3.heap.size, 1, none⟩ = some (.slice va m vc) := cell_of_row wo _ 1 _ _ _ HI.out.1.out
        have p0c : ∀ O, (wo.alloc O).drew.cell? ⟨w3.heap.size, 1, none⟩ = some (.slice va m vc) := fun O => cell_kept p00 ((below1 wo O).drew)
        have HF := Lib.hid (show ∀ (O : Obj) (W : World), (W = wo.drew.alloc O ∨ W = (wo.alloc O).drew) → DocS w A n c (some ⟨b, off, none⟩) mx ic w3.heap.size (.slice A n c) (.slice va m vc) W ∧ W.ownsRow (w3.heap.size + 1) 28 6 (.slice va m vc) m (((lx.take k).eraseIdx at0).map idxL).flatten ∧ W.heap[wo.heap.size]? = some O ∧ w3.heap.size + 1 ≤ W.heap.size from fun O W hW => by
          have h1 := HI.out.1.keep (below1 wo O)
          have h2 := own_kept HI.out.2.1 (below1 wo O) (Nat.le_refl _)
          have h3 := heap_alloc_new wo O
          have h4 : w3.heap.size + 1 ≤ (wo.alloc O).heap.size := by have := heap_lt h1.out; omega
          rcases hW with rfl | rfl
          · exact ⟨(HI.out.1.keep ((Below.refl _ _).drew)).keep (below1 wo.drew O), h2, h3, h4⟩
          · exact ⟨h1.keep ((Below.refl _ _).drew), h2, h3, h4⟩)
        go_wp2_with fail
        go_region_law (first
          | (have HF1 := Lib.hid (HF.out (.cells #[.string xn, .string xt, .slice xa xl xc, .int .i64 xr, .int .i64 xx, .int .i64 xs] 28) _ (by first | exact Or.inl rfl | exact Or.inr rfl))
             refine step_idx _ (by rfl) (.tmp 29) (.tmp 35) (by rfl) (w3.heap.size + 1) (.slice va m vc) m (((lx.take k).eraseIdx at0).map idxL).flatten (by rfl) HF1.out.2.1 wo.heap.size 1 ⟨xn, xt, xa, xl, xc, xr, xx, xs⟩ (by rfl) HF1.out.2.2.1 (by omega) HF1.out.2.2.2 ?_
             intro v6 w6 hown hgr hat
             obtain ⟨g, cap, rfl⟩ := own_slice hown
             have h6 := HF1.out.1.row hgr (fun q hq => by have := (HF1.out.2.1.lt q hq).1; omega)
             have z6 := cell_of_row _ _ 1 _ _ _ h6.out
             have g6 := frozen_of_row _ _ 1 _ _ h6.out
             have HMO := Lib.hid (show DocS w A n c (some ⟨b, off, none⟩) mx ic w3.heap.size (.slice A n c) (.slice (some ⟨g, 0, none⟩) (m + 1) cap) (w6.setCell ⟨w3.heap.size, 1, none⟩ (.slice (some ⟨g, 0, none⟩) (m + 1) cap)) ∧ (w6.setCell ⟨w3.heap.size, 1, none⟩ (.slice (some ⟨g, 0, none⟩) (m + 1) cap)).ownsRow (w3.heap.size + 1) 28 6 (.slice (some ⟨g, 0, none⟩) (m + 1) cap) (m + 1) (((lx.take (k + 1)).eraseIdx at0).map idxL).flatten ∧ m + 1 = ((lx.take (k + 1)).eraseIdx at0).length from by
               refine ⟨h6.setX _, own_set (by rw [HSL.out]; simpa using hown) _ _ _ (Nat.lt_succ_self _), by rw [HSL.out, List.length_append, ← HI.out.2.2]; rfl⟩)
             clear hown hgr hat h6)
          | fail)
        all_goals
          go_wp2_with fail
          go_roundw
          case rel => exact ⟨k + 1, m + 1, cap, some ⟨g, 0, none⟩, by omega, by go_num, HMO⟩
          case measure => simp [intOf] <;> omega
    · obtain rfl : mx = k := by omega
      have q0 := cell_of_row _ _ 0 _ _ _ HI.out.1.out
      have q1 := cell_of_row _ _ 1 _ _ _ HI.out.1.out
      have a0 := cell_of_row _ _ 0 _ _ _ HI.out.1.ans
      have a1 := cell_of_row _ _ 1 _ _ _ HI.out.1.ans
      have f0 := frozen_of_row _ _ 0 _ _ HI.out.1.ans
      have f1 := frozen_of_row _ _ 1 _ _ HI.out.1.ans
      go_wp2_with fail
      refine bodyPost_ret (v := .tuple #[.agg #[.slice A n c, .slice va m vc], .int .i64 0]) (by simp [results, Tryz.results35, go_sem, a0, a1]) rfl ?_
      have hBF := HI.out.1.done (.slice A n c) (.slice va m vc)
      have hfar := HI.out.1.far
      have e2 : (lx.take mx).eraseIdx at0 = (xs.eraseIdx at0).map Prod.fst := by rw [← HML.out, List.take_length, HLX.out, List.eraseIdx_map_fst]
      have hr2 := RowsAt.of_own HI.out.2.1
      rw [e2] at hr2
      have hl2 := HI.out.2.2
      rw [e2, List.length_map] at hl2
      have hle2 : (xs.eraseIdx at0).length ≤ 1000 := Nat.le_trans (List.length_eraseIdx_le _ _) (by rw [← HM.out]; exact hm)
      obtain ⟨hd1, hd2⟩ := HDT.out _ hBF
      obtain ⟨hd3, hd4⟩ := doc_x (xs := xs.eraseIdx at0) hBF ((hr2.box (w.heap.size + 1) 0 _ (by omega)).box (w.heap.size + 1) 1 _ (by omega)) hle2 (fun p hp => (HRX.out p (List.mem_of_mem_eraseIdx hp)).1)
      exact ⟨hBF, Or.inl ⟨rfl, A, va, c, vc, ts, _, by rw [hl2, ← HN.out], hd1, hd3, hd2, hd4, fun p hp => (HRT.out p hp).2, fun p hp => (HRX.out p (List.mem_of_mem_eraseIdx hp)).2, rfl, List.eraseIdx_map_gen _ _ _⟩⟩
set_option maxRecDepth 100000 in
set_option maxHeartbeats 16000000 in
theorem rdrop_some (A : Option Addr) (c : Nat) (ts : List (Tab × List Col)) (ia : Option Addr) (ic : Nat) (xs : List (Idx × List Int)) (nm : ByteArray) (w : World) (hD : DeepAt w A ts) (hX : DeepIx w ia xs) (hA0 : A = none → ts = []) (_hX0 : ia = none → xs = []) (hn : ts.length ≤ 1000) (hm : xs.length ≤ 1000) (hl : ∀ p ∈ ts, p.2.length ≤ 1000) (hlx : ∀ p ∈ xs, p.2.length ≤ 1000) (at0 : Nat) (hk : findN PT.name (ts.map ptOf) nm = some at0) :
    Calls Tryz.prog 33 #[.agg #[.slice A ts.length c, .slice ia xs.length ic], .string nm] w (DocP w 0 ((ts.map ptOf).eraseIdx at0) ((xs.map pxOf).filter fun x => !sameN x.table nm)) := by
  have HST := Lib.hid (DropXL.start w A ts.length c ia xs.length ic nm)
  have HTA := Lib.hid (show ∀ W, Below w.heap.size w W → Calls Tryz.prog 13 #[.agg #[.slice A ts.length c, .slice ia xs.length ic], .string nm] W (RetV (.int .i64 (placeI (findN PT.name (ts.map ptOf) nm))) W) from fun W hB => rtable_at A c ts ia xs.length ic nm W (DeepAt.keep hB hD))
  rw [hk] at HTA
  simp only [placeI] at HTA
  have r6 : ((at0 : Int) < 0) = False := eq_false (by omega)
  have HRT := Lib.hid (show ∀ p ∈ ts, ReadT w p ∧ p.2.length ≤ 1000 from fun p hp => ⟨hD.2 p hp, hl p hp⟩)
  have HRX := Lib.hid (show ∀ p ∈ xs, ReadX w p ∧ p.2.length ≤ 1000 from fun p hp => ⟨hX.2 p hp, hlx p hp⟩)
  have HDT := Lib.hid (show ∀ W, Below w.heap.size w W → DeepAt W A ts ∧ (A = none → ts = []) from fun W hB => ⟨hD.keep hB, hA0⟩)
  have HTC := Lib.hid hD.1
  have HXC := Lib.hid hX.1
  obtain ⟨lt, hlt⟩ : ∃ lt, lt = ts.map Prod.fst := ⟨_, rfl⟩
  obtain ⟨lx, hlx2⟩ : ∃ lx, lx = xs.map Prod.fst := ⟨_, rfl⟩
  rw [← hlt] at HTC
  rw [← hlx2] at HXC
  have HLT := Lib.hid hlt
  have HLX := Lib.hid hlx2
  obtain ⟨n, hnn⟩ : ∃ n, n = ts.length := ⟨_, rfl⟩
  obtain ⟨mx, hmm⟩ : ∃ mx, mx = xs.length := ⟨_, rfl⟩
  have HN := Lib.hid hnn
  have HM := Lib.hid hmm
  have HNL := Lib.hid (show lt.length = n by rw [hlt, List.length_map, hnn])
  have HML := Lib.hid (show lx.length = mx by rw [hlx2, List.length_map, hmm])
  rw [← hnn] at HST HTA hn
  rw [← hmm] at HST HTA hm
  rw [← hnn, ← hmm]
  clear hD hX hk hl hlx hnn hmm hlt hlx2 hA0 _hX0
  go_enter Tryz.func33, Tryz.ntmps33
  go_wp2_with (first
    | (go_at_call 13; (with_reducible refine (HTA.out _ HST.out.below).mono ?_); rintro e w3 ⟨rfl, hB3⟩
       have HK3 := Lib.hid (HST.out.keep hB3)
       have s0 := cell_of_row _ _ 0 _ _ _ HK3.out.sch
       have s1 := cell_of_row _ _ 1 _ _ _ HK3.out.sch
       clear hB3)
    | fail)
  have HS0 := Lib.hid (show DocS w A n c ia mx ic w3.heap.size (.slice none 0 0) (.slice none 0 0) (w3.alloc (.cells #[.slice none 0 0, .slice none 0 0] 36)) from by
    have h0 := HK3.out.keep (below1 w3 (.cells #[.slice none 0 0, .slice none 0 0] 36))
    have h1 := heap_lt HK3.out.ans
    exact ⟨h0.below, h0.sch, h0.ans, heap_alloc_new w3 _, by omega⟩)
  clear s0 s1
  go_loopw [8] (fun i wr => ∃ (k m vc : Nat) (va : Option Addr), k ≤ n ∧ i = .int .i64 k ∧ Hid (DocS w A n c ia mx ic w3.heap.size (.slice va m vc) (.slice none 0 0) wr ∧ wr.ownsRow (w3.heap.size + 1) 25 5 (.slice va m vc) m (((lt.take k).eraseIdx at0).map tabL).flatten ∧ m = ((lt.take k).eraseIdx at0).length)) (fun i _ => n - (intOf i).toNat)
  case atStart => exact ⟨0, 0, 0, none, Nat.zero_le _, rfl, Lib.hid ⟨HS0.out, World.ownsRow_nil _ _ _ _, rfl⟩⟩
  case round =>
    obtain ⟨k, m, vc, va, hk, rfl, HI⟩ := hrel
    obtain ⟨wo, rfl⟩ : ∃ wo : World, wo = wr := ⟨_, rfl⟩
    have s0 := cell_of_row _ _ 0 _ _ _ HI.out.1.sch
    have s1 := cell_of_row _ _ 1 _ _ _ HI.out.1.sch
    by_cases hkn : k < n
    · obtain ⟨x, hx⟩ : ∃ x, lt[k]? = some x := ⟨_, List.getElem?_eq_getElem (by have := HNL.out; omega)⟩
      have hkn2 : ((k : Int) < (n : Int)) = True := eq_true (by omega)
      obtain ⟨b, off, rfl, HCC⟩ : ∃ b off, A = some ⟨b, off, none⟩ ∧ Hid (∀ W, Below w.heap.size w W → ∀ (i : Nat) (u : Value), (tabL x)[i]? = some u → W.cell? ⟨b, off + k * 5 + i, none⟩ = some u) := by
        rcases HTC.out.2 with h0 | ⟨b, off, h1, h2, h3⟩
        · exfalso
          rw [List.map_eq_nil_iff] at h0
          rw [h0] at hx
          simp at hx
        · refine ⟨b, off, h1, fun W hB i u hi => (hB.cell (p := ⟨b, off + k * 5 + i, none⟩) h2).trans ((h3 k (tabL x) ?_).2 i u hi)⟩
          rw [List.getElem?_map, hx]
          rfl
      have HSTP := Lib.hid (erase_step lt at0 k x hx)
      have hml : m ≤ k := by
        have h1 := HI.out.2.2
        rw [h1]
        refine Nat.le_trans (List.length_eraseIdx_le _ _) ?_
        rw [List.length_take]
        exact Nat.min_le_left _ _
      clear hx
      obtain ⟨xn, xa, xl, xc, xr, xx, xs⟩ := x
      by_cases hka : k = at0
      · have hq : ((k : Int) == (at0 : Int)) = true := beq_iff_eq.2 (by omega)
        have HSL := Lib.hid (show ((lt.take (k + 1)).eraseIdx at0) = ((lt.take k).eraseIdx at0) from by rw [HSTP.out]; exact if_pos hka)
        clear hka
        go_wp2_with fail
        go_roundw
        case rel => exact ⟨k + 1, m, vc, va, by omega, by go_num, Lib.hid (by rw [HSL.out]; exact HI.out)⟩
        case measure => simp [intOf] <;> omega
      · have hq : ((k : Int) == (at0 : Int)) = false := beq_eq_false_iff_ne.2 (by omega)
        have HSL := Lib.hid (show ((lt.take (k + 1)).eraseIdx at0) = ((lt.take k).eraseIdx at0) ++ [(⟨xn, xa, xl, xc, xr, xx, xs⟩ : Tab)] from by rw [HSTP.out]; exact if_neg hka)
        have k0 : wo.drew.cell? ⟨b, off + k * 5, none⟩ = some (.string xn) := HCC.out _ HI.out.1.below.drew 0 _ rfl
        have k1 : wo.drew.cell? ⟨b, off + k * 5 + 1, none⟩ = some (.slice xa xl xc) := HCC.out _ HI.out.1.below.drew 1 _ rfl
        have k2 : wo.drew.cell? ⟨b, off + k * 5 + 2, none⟩ = some (.int .i64 xr) := HCC.out _ HI.out.1.below.drew 2 _ rfl
        have k3 : wo.drew.cell? ⟨b, off + k * 5 + 3, none⟩ = some (.int .i64 xx) := HCC.out _ HI.out.1.below.drew 3 _ rfl
        have k4 : wo.drew.cell? ⟨b, off + k * 5 + 4, none⟩ = some (.int .i64 xs) := HCC.out _ HI.out.1.below.drew 4 _ rfl
        have p0 : wo.drew.cell? ⟨w3.heap.size, 0, none⟩ = some (.slice va m vc) := cell_of_row wo.drew _ 0 _ _ _ HI.out.1.out
        have p0b : ∀ O, (wo.drew.alloc O).cell? ⟨w3.heap.size, 0, none⟩ = some (.slice va m vc) := fun O => cell_kept p0 (below1 wo.drew O)
        have p00 : wo.cell? ⟨w3.heap.size, 0, none⟩ = some (.slice va m vc) := cell_of_row wo _ 0 _ _ _ HI.out.1.out
        have p0c : ∀ O, (wo.alloc O).drew.cell? ⟨w3.heap.size, 0, none⟩ = some (.slice va m vc) := fun O => cell_kept p00 ((below1 wo O).drew)
        have HF := Lib.hid (show ∀ (O : Obj) (W : World), (W = wo.drew.alloc O ∨ W = (wo.alloc O).drew) → DocS w (some ⟨b, off, none⟩) n c ia mx ic w3.heap.size (.slice va m vc) (.slice none 0 0) W ∧ W.ownsRow (w3.heap.size + 1) 25 5 (.slice va m vc) m (((lt.take k).eraseIdx at0).map tabL).flatten ∧ W.heap[wo.heap.size]? = some O ∧ w3.heap.size + 1 ≤ W.heap.size from fun O W hW => by
          have h1 := HI.out.1.keep (below1 wo O)
          have h2 := own_kept HI.out.2.1 (below1 wo O) (Nat.le_refl _)
          have h3 := heap_alloc_new wo O
          have h4 : w3.heap.size + 1 ≤ (wo.alloc O).heap.size := by have := heap_lt h1.out; omega
          rcases hW with rfl | rfl
          · exact ⟨(HI.out.1.keep ((Below.refl _ _).drew)).keep (below1 wo.drew O), h2, h3, h4⟩
          · exact ⟨h1.keep ((Below.refl _ _).drew), h2, h3, h4⟩)
        go_wp2_with fail
        go_region_law (first
          | (have HF1 := Lib.hid (HF.out (.cells #[.string xn, .slice xa xl xc, .int .i64 xr, .int .i64 xx, .int .i64 xs] 25) _ (by first | exact Or.inl rfl | exact Or.inr rfl))
             refine step_tab _ (by rfl) (.tmp 28) (.tmp 34) (by rfl) (w3.heap.size + 1) (.slice va m vc) m (((lt.take k).eraseIdx at0).map tabL).flatten (by rfl) HF1.out.2.1 wo.heap.size 1 ⟨xn, xa, xl, xc, xr, xx, xs⟩ (by rfl) HF1.out.2.2.1 (by omega) HF1.out.2.2.2 ?_
             intro v6 w6 hown hgr hat
             obtain ⟨g, cap, rfl⟩ := own_slice hown
             have h6 := HF1.out.1.row hgr (fun q hq => by have := (HF1.out.2.1.lt q hq).1; omega)
             have z6 := cell_of_row _ _ 0 _ _ _ h6.out
             have g6 := frozen_of_row _ _ 0 _ _ h6.out
             have HMO := Lib.hid (show DocS w (some ⟨b, off, none⟩) n c ia mx ic w3.heap.size (.slice (some ⟨g, 0, none⟩) (m + 1) cap) (.slice none 0 0) (w6.setCell ⟨w3.heap.size, 0, none⟩ (.slice (some ⟨g, 0, none⟩) (m + 1) cap)) ∧ (w6.setCell ⟨w3.heap.size, 0, none⟩ (.slice (some ⟨g, 0, none⟩) (m + 1) cap)).ownsRow (w3.heap.size + 1) 25 5 (.slice (some ⟨g, 0, none⟩) (m + 1) cap) (m + 1) (((lt.take (k + 1)).eraseIdx at0).map tabL).flatten ∧ m + 1 = ((lt.take (k + 1)).eraseIdx at0).length from by
               refine ⟨h6.setT _, own_set (by rw [HSL.out]; simpa using hown) _ _ _ (Nat.lt_succ_self _), by rw [HSL.out, List.length_append, ← HI.out.2.2]; rfl⟩)
             clear hown hgr hat h6)
          | fail)
        all_goals
          go_wp2_with fail
          go_roundw
          case rel => exact ⟨k + 1, m + 1, cap, some ⟨g, 0, none⟩, by omega, by go_num, HMO⟩
          case measure => simp [intOf] <;> omega
    · obtain rfl : n = k := by omega
      obtain ⟨mt, hmt⟩ : ∃ mt, mt = m := ⟨_, rfl⟩
      rw [← hmt] at HI
      obtain ⟨vt, hvt⟩ : ∃ vt, vt = va := ⟨_, rfl⟩
      obtain ⟨vtc, hvtc⟩ : ∃ vtc, vtc = vc := ⟨_, rfl⟩
      rw [← hvt, ← hvtc] at HI
      have HMT := Lib.hid (show mt = (lt.eraseIdx at0).length from by have h := HI.out.2.2; rwa [← HNL.out, List.take_length] at h)
      have HIT := Lib.hid (show wo.ownsRow (w3.heap.size + 1) 25 5 (.slice vt mt vtc) mt ((lt.eraseIdx at0).map tabL).flatten from by have h := HI.out.2.1; rwa [← HNL.out, List.take_length] at h)
      have HIS := Lib.hid HI.out.1
      clear HI hmt hvt hvtc
      go_wp2_with fail
      go_loopw [9] (fun i wr => ∃ (k m vc : Nat) (va : Option Addr), k ≤ mx ∧ i = .int .i64 k ∧ Hid (DocS w A n c ia mx ic w3.heap.size (.slice vt mt vtc) (.slice va m vc) wr ∧ wr.ownsRow (w3.heap.size + 1) 28 6 (.slice va m vc) m (((lx.take k).filter fun t : Idx => !sameN t.table nm).map idxL).flatten ∧ m = ((lx.take k).filter fun t : Idx => !sameN t.table nm).length ∧ wr.ownsRow (w3.heap.size + 1) 25 5 (.slice vt mt vtc) mt ((lt.eraseIdx at0).map tabL).flatten)) (fun i _ => mx - (intOf i).toNat)
      case atStart => exact ⟨0, 0, 0, none, Nat.zero_le _, rfl, Lib.hid ⟨HIS.out, World.ownsRow_nil _ _ _ _, rfl, HIT.out⟩⟩
      case round =>
        obtain ⟨k, m, vc, va, hk, rfl, HI⟩ := hrel
        obtain ⟨wo, rfl⟩ : ∃ wo : World, wo = wr := ⟨_, rfl⟩
        have s0 := cell_of_row _ _ 0 _ _ _ HI.out.1.sch
        have s1 := cell_of_row _ _ 1 _ _ _ HI.out.1.sch
        by_cases hkn : k < mx
        · obtain ⟨x, hx⟩ : ∃ x, lx[k]? = some x := ⟨_, List.getElem?_eq_getElem (by have := HML.out; omega)⟩
          have hkn2 : ((k : Int) < (mx : Int)) = True := eq_true (by omega)
          obtain ⟨b, off, rfl, HCC⟩ : ∃ b off, ia = some ⟨b, off, none⟩ ∧ Hid (∀ W, Below w.heap.size w W → ∀ (i : Nat) (u : Value), (idxL x)[i]? = some u → W.cell? ⟨b, off + k * 6 + i, none⟩ = some u) := by
            rcases HXC.out.2 with h0 | ⟨b, off, h1, h2, h3⟩
            · exfalso
              rw [List.map_eq_nil_iff] at h0
              rw [h0] at hx
              simp at hx
            · refine ⟨b, off, h1, fun W hB i u hi => (hB.cell (p := ⟨b, off + k * 6 + i, none⟩) h2).trans ((h3 k (idxL x) ?_).2 i u hi)⟩
              rw [List.getElem?_map, hx]
              rfl
          have HSTP := Lib.hid (filter_step lx (fun t : Idx => !sameN t.table nm) k x hx)
          have hml : m ≤ k := by
            have h1 := HI.out.2.2.1
            rw [h1]
            refine Nat.le_trans (List.length_filter_le _ _) ?_
            rw [List.length_take]
            exact Nat.min_le_left _ _
          clear hx
          obtain ⟨xn, xt, xa, xl, xc, xr, xx, xs⟩ := x
          have t1 : wo.cell? ⟨b, off + k * 6 + 1, none⟩ = some (.string xt) := HCC.out _ HI.out.1.below 1 _ rfl
          cases hq : (xt.toList == nm.toList) with
          | true =>
            have HSL := Lib.hid (show ((lx.take (k + 1)).filter fun t : Idx => !sameN t.table nm) = ((lx.take k).filter fun t : Idx => !sameN t.table nm) from by rw [HSTP.out]; exact (if_neg (by show ¬ ((!sameN xt nm) = true); rw [show sameN xt nm = true from hq]; decide)))
            go_wp2_with fail
            go_roundw
            case rel => exact ⟨k + 1, m, vc, va, by omega, by go_num, Lib.hid (by rw [HSL.out]; exact HI.out)⟩
            case measure => simp [intOf] <;> omega
          | false =>
            have HSL := Lib.hid (show ((lx.take (k + 1)).filter fun t : Idx => !sameN t.table nm) = ((lx.take k).filter fun t : Idx => !sameN t.table nm) ++ [(⟨xn, xt, xa, xl, xc, xr, xx, xs⟩ : Idx)] from by rw [HSTP.out]; exact (if_pos (by show (!sameN xt nm) = true; rw [show sameN xt nm = false from hq]; rfl)))
            have k0 : wo.drew.cell? ⟨b, off + k * 6, none⟩ = some (.string xn) := HCC.out _ HI.out.1.below.drew 0 _ rfl
            have k1 : wo.drew.cell? ⟨b, off + k * 6 + 1, none⟩ = some (.string xt) := HCC.out _ HI.out.1.below.drew 1 _ rfl
            have k2 : wo.drew.cell? ⟨b, off + k * 6 + 2, none⟩ = some (.slice xa xl xc) := HCC.out _ HI.out.1.below.drew 2 _ rfl
            have k3 : wo.drew.cell? ⟨b, off + k * 6 + 3, none⟩ = some (.int .i64 xr) := HCC.out _ HI.out.1.below.drew 3 _ rfl
            have k4 : wo.drew.cell? ⟨b, off + k * 6 + 4, none⟩ = some (.int .i64 xx) := HCC.out _ HI.out.1.below.drew 4 _ rfl
            have k5 : wo.drew.cell? ⟨b, off + k * 6 + 5, none⟩ = some (.int .i64 xs) := HCC.out _ HI.out.1.below.drew 5 _ rfl
            have p0 : wo.drew.cell? ⟨w3.heap.size, 1, none⟩ = some (.slice va m vc) := cell_of_row wo.drew _ 1 _ _ _ HI.out.1.out
            have p0b : ∀ O, (wo.drew.alloc O).cell? ⟨w3.heap.size, 1, none⟩ = some (.slice va m vc) := fun O => cell_kept p0 (below1 wo.drew O)
            have p00 : wo.cell? ⟨w3.heap.size, 1, none⟩ = some (.slice va m vc) := cell_of_row wo _ 1 _ _ _ HI.out.1.out
            have p0c : ∀ O, (wo.alloc O).drew.cell? ⟨w3.heap.size, 1, none⟩ = some (.slice va m vc) := fun O => cell_kept p00 ((below1 wo O).drew)
            have HF := Lib.hid (show ∀ (O : Obj) (W : World), (W = wo.drew.alloc O ∨ W = (wo.alloc O).drew) → DocS w A n c (some ⟨b, off, none⟩) mx ic w3.heap.size (.slice vt mt vtc) (.slice va m vc) W ∧ W.ownsRow (w3.heap.size + 1) 28 6 (.slice va m vc) m (((lx.take k).filter fun t : Idx => !sameN t.table nm).map idxL).flatten ∧ W.heap[wo.heap.size]? = some O ∧ w3.heap.size + 1 ≤ W.heap.size ∧ W.ownsRow (w3.heap.size + 1) 25 5 (.slice vt mt vtc) mt ((lt.eraseIdx at0).map tabL).flatten from fun O W hW => by
              have h1 := HI.out.1.keep (below1 wo O)
              have h2 := own_kept HI.out.2.1 (below1 wo O) (Nat.le_refl _)
              have h3 := heap_alloc_new wo O
              have h4 : w3.heap.size + 1 ≤ (wo.alloc O).heap.size := by have := heap_lt h1.out; omega
              have h5 := own_kept HI.out.2.2.2 (below1 wo O) (Nat.le_refl _)
              rcases hW with rfl | rfl
              · exact ⟨(HI.out.1.keep ((Below.refl _ _).drew)).keep (below1 wo.drew O), h2, h3, h4, h5⟩
              · exact ⟨h1.keep ((Below.refl _ _).drew), h2, h3, h4, h5⟩)
            go_wp2_with fail
            go_region_law (first
              | (have HF1 := Lib.hid (HF.out (.cells #[.string xn, .string xt, .slice xa xl xc, .int .i64 xr, .int .i64 xx, .int .i64 xs] 28) _ (by first | exact Or.inl rfl | exact Or.inr rfl))
                 refine step_idx _ (by rfl) (.tmp 53) (.tmp 59) (by rfl) (w3.heap.size + 1) (.slice va m vc) m (((lx.take k).filter fun t : Idx => !sameN t.table nm).map idxL).flatten (by rfl) HF1.out.2.1 wo.heap.size 1 ⟨xn, xt, xa, xl, xc, xr, xx, xs⟩ (by rfl) HF1.out.2.2.1 (by omega) HF1.out.2.2.2.1 ?_
                 intro v6 w6 hown hgr hat
                 obtain ⟨g, cap, rfl⟩ := own_slice hown
                 have h6 := HF1.out.1.row hgr (fun q hq => by have := (HF1.out.2.1.lt q hq).1; omega)
                 have z6 := cell_of_row _ _ 1 _ _ _ h6.out
                 have g6 := frozen_of_row _ _ 1 _ _ h6.out
                 have HMO := Lib.hid (show DocS w A n c (some ⟨b, off, none⟩) mx ic w3.heap.size (.slice vt mt vtc) (.slice (some ⟨g, 0, none⟩) (m + 1) cap) (w6.setCell ⟨w3.heap.size, 1, none⟩ (.slice (some ⟨g, 0, none⟩) (m + 1) cap)) ∧ (w6.setCell ⟨w3.heap.size, 1, none⟩ (.slice (some ⟨g, 0, none⟩) (m + 1) cap)).ownsRow (w3.heap.size + 1) 28 6 (.slice (some ⟨g, 0, none⟩) (m + 1) cap) (m + 1) (((lx.take (k + 1)).filter fun t : Idx => !sameN t.table nm).map idxL).flatten ∧ m + 1 = ((lx.take (k + 1)).filter fun t : Idx => !sameN t.table nm).length ∧ (w6.setCell ⟨w3.heap.size, 1, none⟩ (.slice (some ⟨g, 0, none⟩) (m + 1) cap)).ownsRow (w3.heap.size + 1) 25 5 (.slice vt mt vtc) mt ((lt.eraseIdx at0).map tabL).flatten from by
                   refine ⟨h6.setX _, own_set (by rw [HSL.out]; simpa using hown) _ _ _ (Nat.lt_succ_self _), by rw [HSL.out, List.length_append, ← HI.out.2.2.1]; rfl, own_set (World.ownsRow.kept HF1.out.2.2.2.2 hgr (own_ne HF1.out.2.2.2.2 HF1.out.2.1)) _ _ _ (Nat.lt_succ_self _)⟩)
                 clear hown hgr hat h6)
              | fail)
            all_goals
              go_wp2_with fail
              go_roundw
              case rel => exact ⟨k + 1, m + 1, cap, some ⟨g, 0, none⟩, by omega, by go_num, HMO⟩
              case measure => simp [intOf] <;> omega
        · obtain rfl : mx = k := by omega
          have q0 := cell_of_row _ _ 0 _ _ _ HI.out.1.out
          have q1 := cell_of_row _ _ 1 _ _ _ HI.out.1.out
          have a0 := cell_of_row _ _ 0 _ _ _ HI.out.1.ans
          have a1 := cell_of_row _ _ 1 _ _ _ HI.out.1.ans
          have f0 := frozen_of_row _ _ 0 _ _ HI.out.1.ans
          have f1 := frozen_of_row _ _ 1 _ _ HI.out.1.ans
          go_wp2_with fail
          refine bodyPost_ret (v := .tuple #[.agg #[.slice vt mt vtc, .slice va m vc], .int .i64 0]) (by simp [results, Tryz.results33, go_sem, a0, a1]) rfl ?_
          have hBF := HI.out.1.done (.slice vt mt vtc) (.slice va m vc)
          have hfar := HI.out.1.far
          have e1 : lt.eraseIdx at0 = (ts.eraseIdx at0).map Prod.fst := by rw [HLT.out, List.eraseIdx_map_fst]
          have e2 : (lx.take mx).filter (fun t => !sameN t.table nm) = (xs.filter fun p => !sameN p.1.table nm).map Prod.fst := by rw [← HML.out, List.take_length, HLX.out, filter_fst]
          have hr1 := RowsAt.of_own HI.out.2.2.2
          have hr2 := RowsAt.of_own HI.out.2.1
          rw [e1] at hr1
          rw [e2] at hr2
          have hl1 := HMT.out
          have hl2 := HI.out.2.2.1
          rw [e1, List.length_map] at hl1
          rw [e2, List.length_map] at hl2
          have hle1 : (ts.eraseIdx at0).length ≤ 1000 := Nat.le_trans (List.length_eraseIdx_le _ _) (by rw [← HN.out]; exact hn)
          have hle2 : (xs.filter fun p => !sameN p.1.table nm).length ≤ 1000 := Nat.le_trans (List.length_filter_le _ _) (by rw [← HM.out]; exact hm)
          obtain ⟨hd1, hd2⟩ := doc_t (ts := ts.eraseIdx at0) hBF ((hr1.box (w.heap.size + 1) 0 _ (by omega)).box (w.heap.size + 1) 1 _ (by omega)) hle1 (fun p hp => (HRT.out p (List.mem_of_mem_eraseIdx hp)).1)
          obtain ⟨hd3, hd4⟩ := doc_x (xs := xs.filter fun p => !sameN p.1.table nm) hBF ((hr2.box (w.heap.size + 1) 0 _ (by omega)).box (w.heap.size + 1) 1 _ (by omega)) hle2 (fun p hp => (HRX.out p (List.mem_filter.1 hp).1).1)
          exact ⟨hBF, Or.inl ⟨rfl, vt, va, vtc, vc, _, _, by rw [hl1, hl2], hd1, hd3, hd2, hd4, fun p hp => (HRT.out p (List.mem_of_mem_eraseIdx hp)).2, fun p hp => (HRX.out p (List.mem_filter.1 hp).1).2, List.eraseIdx_map_gen _ _ _, filter_px _ _⟩⟩
end Go.Proofs.YtcgpflkaejbkhaaGreatDoor
