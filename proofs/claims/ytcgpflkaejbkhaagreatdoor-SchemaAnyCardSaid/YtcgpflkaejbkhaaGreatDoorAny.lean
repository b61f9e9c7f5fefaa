/- The walk of SchemaAny. -/
import Derived.Test.YtcgpflkaejbkhaaGreatDoorKJ
import Derived.Test.YtcgpflkaejbkhaaGreatDoorJP
import Derived.Test.YtcgpflkaejbkhaaGreatDoorJU
import Derived.Deep.RegionLaw
import Derived.Deep.RegionHeld3
namespace Go.Proofs.YtcgpflkaejbkhaaGreatDoor
open Go.RowKit

theorem putT_len (T : List PT) (t : PT) : (putT T t).length ≤ T.length + 1 := by
  unfold putT
  split
  · rw [List.length_set]; omega
  · rw [sortG_len, List.length_append]; simp
theorem putX_len (X : List PX) (x : PX) : (putX X x).length ≤ X.length + 1 := by
  unfold putX
  split
  · rw [List.length_set]; omega
  · rw [sortG_len, List.length_append]; simp
theorem dropT_len (T : List PT) (nm : ByteArray) : (dropT T nm).length ≤ T.length := by
  unfold dropT
  split
  · exact List.length_eraseIdx_le _ _
  · exact Nat.le_refl _
theorem dropX_len (X : List PX) (nm : ByteArray) : (dropX X nm).length ≤ X.length := by
  unfold dropX
  split
  · exact List.length_eraseIdx_le _ _
  · exact Nat.le_refl _
theorem opT_len (kind : Int) (T : List PT) (t : PT) (nm : ByteArray) : (opT kind T t nm).length ≤ T.length + 1 := by
  unfold opT
  split
  · exact putT_len _ _
  · split
    · omega
    · split
      · exact Nat.le_succ_of_le (dropT_len _ _)
      · omega
theorem opX_len (kind : Int) (X : List PX) (x : PX) (nm : ByteArray) : (opX kind X x nm).length ≤ X.length + 1 := by
  unfold opX
  split
  · omega
  · split
    · exact putX_len _ _
    · split
      · exact Nat.le_succ_of_le (List.length_filter_le _ _)
      · exact Nat.le_succ_of_le (dropX_len _ _)
/-- the boxes of SchemaAny: the schema, what is done -/
structure AnyB (w : World) (A : Option Addr) (n c : Nat) (ia : Option Addr) (mx ic : Nat) (kk : Int) (tn : ByteArray) (ta : Option Addr) (tl tc : Nat) (tr tx tw : Int) (un ut : ByteArray) (ua : Option Addr) (ul uc : Nat) (us ur ux : Int) (nm : ByteArray) (W : World) : Prop where
  below : Below w.heap.size w W
  s : W.heap[w.heap.size]? = some (.cells #[.slice A n c, .slice ia mx ic] 36)
  o : W.heap[w.heap.size + 1]? = some (.cells #[.int .i64 kk, .string tn, .slice ta tl tc, .int .i64 tr, .int .i64 tx, .int .i64 tw, .string un, .string ut, .slice ua ul uc, .int .i64 us, .int .i64 ur, .int .i64 ux, .string nm] 30)
theorem AnyB.keep {w : World} {A : Option Addr} {n c : Nat} {ia : Option Addr} {mx ic : Nat} {kk : Int} {tn : ByteArray} {ta : Option Addr} {tl tc : Nat} {tr tx tw : Int} {un ut : ByteArray} {ua : Option Addr} {ul uc : Nat} {us ur ux : Int} {nm : ByteArray} {W W' : World} (h : AnyB w A n c ia mx ic kk tn ta tl tc tr tx tw un ut ua ul uc us ur ux nm W) (hB : Below W.heap.size W W') : AnyB w A n c ia mx ic kk tn ta tl tc tr tx tw un ut ua ul uc us ur ux nm W' :=
  ⟨h.below.trans (hB.mono h.below.size), (hB.block _ (heap_lt h.s)).trans h.s, (hB.block _ (heap_lt h.o)).trans h.o⟩
theorem AnyB.set {w : World} {A : Option Addr} {n c : Nat} {ia : Option Addr} {mx ic : Nat} {kk : Int} {tn : ByteArray} {ta : Option Addr} {tl tc : Nat} {tr tx tw : Int} {un ut : ByteArray} {ua : Option Addr} {ul uc : Nat} {us ur ux : Int} {nm : ByteArray} {W : World} (h : AnyB w A n c ia mx ic kk tn ta tl tc tr tx tw un ut ua ul uc us ur ux nm W) (j : Int) : AnyB w A n c ia mx ic j tn ta tl tc tr tx tw un ut ua ul uc us ur ux nm (W.setCell ⟨w.heap.size + 1, 0, none⟩ (.int .i64 j)) := by
  refine ⟨h.below.setCell (p := ⟨w.heap.size + 1, 0, none⟩) (Nat.le_succ _) _, ?_, ?_⟩
  · rw [heap_setFar _ (by omega)]; exact h.s
  · rw [setCell_eq_setRow W _ 0 _ 30 _ _ h.o]
    exact setRow_heap W _ _ _ 30 _ h.o
theorem AnyB.start (w : World) (A : Option Addr) (n c : Nat) (ia : Option Addr) (mx ic : Nat) (kk : Int) (tn : ByteArray) (ta : Option Addr) (tl tc : Nat) (tr tx tw : Int) (un ut : ByteArray) (ua : Option Addr) (ul uc : Nat) (us ur ux : Int) (nm : ByteArray) : AnyB w A n c ia mx ic kk tn ta tl tc tr tx tw un ut ua ul uc us ur ux nm ((w.alloc (.cells #[.slice A n c, .slice ia mx ic] 36)).alloc (.cells #[.int .i64 kk, .string tn, .slice ta tl tc, .int .i64 tr, .int .i64 tx, .int .i64 tw, .string un, .string ut, .slice ua ul uc, .int .i64 us, .int .i64 ur, .int .i64 ux, .string nm] 30)) := by
  refine ⟨(below1 w _).alloc (by simp) _, ?_, ?_⟩
  · rw [heap_alloc_old _ _ (by simp)]; exact heap_alloc_new w _
  · have := heap_alloc_new (w.alloc (.cells #[.slice A n c, .slice ia mx ic] 36)) (.cells #[.int .i64 kk, .string tn, .slice ta tl tc, .int .i64 tr, .int .i64 tx, .int .i64 tw, .string un, .string ut, .slice ua ul uc, .int .i64 us, .int .i64 ur, .int .i64 ux, .string nm] 30)
    rwa [World.size_alloc] at this
/-- with the copy -/
structure AnyC (w : World) (A : Option Addr) (n c : Nat) (ia : Option Addr) (mx ic : Nat) (kk : Int) (tn : ByteArray) (ta : Option Addr) (tl tc : Nat) (tr tx tw : Int) (un ut : ByteArray) (ua : Option Addr) (ul uc : Nat) (us ur ux : Int) (nm : ByteArray) (b : Nat) (va : Option Addr) (vc : Nat) (ua2 : Option Addr) (uc2 : Nat) (W : World) : Prop where
  box : AnyB w A n c ia mx ic kk tn ta tl tc tr tx tw un ut ua ul uc us ur ux nm W
  cl : W.heap[b]? = some (.cells #[.slice va n vc, .slice ua2 mx uc2] 36)
theorem AnyC.keep {w : World} {A : Option Addr} {n c : Nat} {ia : Option Addr} {mx ic : Nat} {kk : Int} {tn : ByteArray} {ta : Option Addr} {tl tc : Nat} {tr tx tw : Int} {un ut : ByteArray} {ua : Option Addr} {ul uc : Nat} {us ur ux : Int} {nm : ByteArray} {b : Nat} {va : Option Addr} {vc : Nat} {ua2 : Option Addr} {uc2 : Nat} {W W' : World} (h : AnyC w A n c ia mx ic kk tn ta tl tc tr tx tw un ut ua ul uc us ur ux nm b va vc ua2 uc2 W) (hB : Below W.heap.size W W') : AnyC w A n c ia mx ic kk tn ta tl tc tr tx tw un ut ua ul uc us ur ux nm b va vc ua2 uc2 W' :=
  ⟨h.box.keep hB, (hB.block _ (heap_lt h.cl)).trans h.cl⟩
/-- a slice of one thing that is done -/
theorem one_o {W : World} {g : Nat} {o : Opv} (h : W.heap[g]? = some (.cells (opL o).toArray 30)) (hr : ReadO W o) : OpsAt W (some ⟨g, 0, none⟩) [o] := by
  refine ⟨⟨by unfold maxLen; simp, Or.inr ⟨g, 0, rfl, heap_lt h, fun j x hx => ?_⟩⟩, fun p hp => by rw [List.mem_singleton.1 hp]; exact hr⟩
  cases j with
  | zero =>
    obtain rfl : opL o = x := by simpa using hx
    refine ⟨rfl, fun i u hu => ?_⟩
    rw [Nat.zero_mul, Nat.zero_add]
    refine (cell_of_row W g i _ _ _ h).trans ?_
    simpa [opL] using hu
  | succ j => simp at hx
set_option maxRecDepth 100000 in
set_option maxHeartbeats 16000000 in
theorem any_any (m : Int) (gt : Nat → Nat) (ht : ∀ j, j < 23 → finD (Ieee.double.read (gt j)) = true) (A : Option Addr) (c : Nat) (ts : List (Tab × List Col)) (ia : Option Addr) (ic : Nat) (xs : List (Idx × List Int)) (o : Opv) (w : World) (hG : Glob m gt w) (hD : DeepAt w A ts) (hX : DeepIx w ia xs) (hO : ReadO w o) :
    Calls Tryz.prog 5 #[.agg #[.slice A ts.length c, .slice ia xs.length ic], .agg (opL o).toArray] w (RetT w) := by
  have HLV := Lib.hid (show ∀ W, Below w.heap.size w W → Calls Tryz.prog 7 #[] W (RetT W) from fun W hB => lives_any m gt ht W (hG.keep hB))
  have HSM := Lib.hid (show ∀ W, Below w.heap.size w W → Calls Tryz.prog 17 #[.agg #[.slice A ts.length c, .slice ia xs.length ic]] W (SmallP W ts xs) from fun W hB => small_any A c ts ia ic xs W (hD.keep hB) (hX.keep hB))
  have HFT := Lib.hid (show ∀ (b : Nat) W, Below w.heap.size w W → W.heap[b]? = some (.cells (opL o).toArray 30) → Calls Tryz.prog 8 #[.slice (some ⟨b, 0, none⟩) 1 1] W (FitsP W [o]) from fun b W hB hb => fits_any (some ⟨b, 0, none⟩) 1 [o] W (one_o hb (hO.keep hB)))
  have HDO := Lib.hid (show ∀ (W : World) (j : Int), Below w.heap.size w W → ts.length ≤ 20 → xs.length ≤ 20 → (∀ p ∈ ts, p.2.length ≤ 20) → (∀ p ∈ xs, p.2.length ≤ 20) → o.cl.length ≤ 20 → o.xl.length ≤ 20 → Calls Tryz.prog 9 #[.agg #[.slice A ts.length c, .slice ia xs.length ic], .agg #[.slice A ts.length c, .slice ia xs.length ic], .agg #[.int .i64 j, .string o.tab.name, .slice o.tab.ca o.tab.cn o.tab.cc, .int .i64 o.tab.root, .int .i64 o.tab.next, .int .i64 o.tab.rows, .string o.idx.name, .string o.idx.table, .slice o.idx.pa o.idx.pn o.idx.pc, .int .i64 o.idx.state, .int .i64 o.idx.root, .int .i64 o.idx.cursor, .string o.nm]] W fun e w' => ∃ (p1 : Option Addr) (p2 p3 : Nat) (p4 : Option Addr) (p5 p6 : Nat) (q1 : Option Addr) (q2 q3 : Nat) (q4 : Option Addr) (q5 q6 : Nat), e = .returned (.tuple #[.agg #[.slice p1 p2 p3, .slice p4 p5 p6], .agg #[.slice q1 q2 q3, .slice q4 q5 q6], .bool true]) ∧ Below W.heap.size W w' from fun W j hB h1 h2 h3 h4 h5 h6 => by
    have hS : ReadS W A ia ts xs := ⟨hD.keep hB, hX.keep hB, by omega, by omega, fun p hp => by have := h3 p hp; omega, fun p hp => by have := h4 p hp; omega⟩
    have hO2 := hO.keep hB
    obtain ⟨⟨r1, r2, r3, r4⟩, r5, r6, r7, r8⟩ := hO2
    refine (do_all m gt ht A c ts ia ic xs A c ts ia ic xs j o.tab o.cl o.idx o.xl o.nm W (hG.keep hB) hS hS rfl rfl ⟨r1, r2, r3, r4, by omega⟩ ⟨r5, r6, r7, r8, by omega⟩ (Nat.le_trans (opT_len _ _ _ _) (by rw [List.length_map]; omega)) (Nat.le_trans (opX_len _ _ _ _) (by rw [List.length_map]; omega))).mono fun e w' h => ?_
    rcases h with ⟨hB2, ⟨_, rfl⟩ | ⟨_, A1, ia1, A2, ia2, c1, ic1, c2, ic2, _, _, _, _, _, rfl, _⟩⟩
    · exact ⟨A, ts.length, c, ia, xs.length, ic, A, ts.length, c, ia, xs.length, ic, rfl, hB2⟩
    · exact ⟨_, _, _, _, _, _, _, _, _, _, _, _, rfl, hB2⟩)
  have HCL := Lib.hid (show ∀ (W : World), Below w.heap.size w W → ts.length ≤ 20 → xs.length ≤ 20 → (∀ p ∈ ts, p.2.length ≤ 20) → (∀ p ∈ xs, p.2.length ≤ 20) → Calls Tryz.prog 10 #[.agg #[.slice A ts.length c, .slice ia xs.length ic]] W (CloneO W ts xs) from fun W hB h1 h2 h3 h4 => clones_own A c ts ia ic xs W (hD.keep hB) (hX.keep hB) (by omega) (by omega) (fun p hp => by have := h3 p hp; omega) (fun p hp => by have := h4 p hp; omega))
  have HSA := Lib.hid (show ∀ (W W1 : World) (va : Option Addr) (vc : Nat) (ua : Option Addr) (uc h : Nat) (ts' : List (Tab × List Col)) (xs' : List (Idx × List Int)) (base : Nat), OwnS base h (.slice va ts.length vc) (.slice ua xs.length uc) ts' xs' W1 → ts'.map ptOf = ts.map ptOf → xs'.map pxOf = xs.map pxOf → ts.length ≤ 20 → xs.length ≤ 20 → Below w.heap.size w W → Below W1.heap.size W1 W → Calls Tryz.prog 11 #[.agg #[.slice va ts.length vc, .slice ua xs.length uc], .agg #[.slice A ts.length c, .slice ia xs.length ic]] W (RetV (.bool true) W) from fun W W1 va vc ua uc h ts' xs' base hS e1 e2 h1 h2 hB hB1 => by
    have hl1 : ts'.length = ts.length := by have := congrArg List.length e1; rwa [List.length_map, List.length_map] at this
    have hl2 : xs'.length = xs.length := by have := congrArg List.length e2; rwa [List.length_map, List.length_map] at this
    have hR := (hS.readP hl1.symm hl2.symm (by omega) (by omega)).keep hB1
    have h := same_eq va vc ts' ua uc xs' A c ts ia ic xs W hR.1 hR.2.1 (hD.keep hB) (hX.keep hB) e1 e2
    rw [hl1, hl2] at h
    exact h)
  have HOF := Lib.hid (show ∀ (W : World), Below w.heap.size w W → xs.length ≤ 20 → Calls Tryz.prog 16 #[.agg #[.slice A ts.length c, .slice ia xs.length ic], .string o.nm] W fun e w' => ∃ (va : Option Addr) (vc : Nat), e = .returned (.slice va (ofR (xs.map Prod.fst) o.nm xs.length).length vc) ∧ Below W.heap.size W w' from fun W hB h1 => by
    have h := of_any A ts.length c ia ic (xs.map Prod.fst) o.nm W (hX.keep hB).1 (by rw [List.length_map]; omega)
    rw [List.length_map] at h
    refine h.mono fun e w' h => ?_
    obtain ⟨v, rfl, hB2, ho⟩ := h
    obtain ⟨va, vc, rfl⟩ := own_val ho
    exact ⟨va, vc, rfl, hB2⟩)
  have HC1 := Lib.hid (show ∃ r : Int, (∀ W, Below w.heap.size w W → Calls Tryz.prog 18 #[.agg #[.string o.tab.name, .slice o.tab.ca o.tab.cn o.tab.cc, .int .i64 o.tab.root, .int .i64 o.tab.next, .int .i64 o.tab.rows], .string o.nm] W (RetV (.int .i64 r) W)) ∧ (∀ W, Below w.heap.size w W → Calls Tryz.prog 19 #[.agg #[.string o.tab.name, .slice o.tab.ca o.tab.cn o.tab.cc, .int .i64 o.tab.root, .int .i64 o.tab.next, .int .i64 o.tab.rows], .string o.nm] W (RetV (.int .i64 r) W)) from by
    obtain ⟨⟨r1, r2, r3, r4⟩, _⟩ := hO
    dsimp only at r1 r2
    refine ⟨placeI (findN Col.name o.cl o.nm), fun W hB => ?_, fun W hB => ?_⟩
    · have h := column_any o.tab.ca o.tab.cc o.cl o.tab.name o.tab.root o.tab.next o.tab.rows o.nm W (CellsAt.keep hB r1)
      rw [← r2] at h
      refine h.mono fun e w' h => ?_
      obtain ⟨r, h1, h2, h3⟩ := h
      rw [r2] at h2
      rw [first_place (P := cnameAt o.cl o.nm) (l := o.cl) (nm := Col.name) (fun j y hj => by unfold cnameAt; rw [hj]) h2] at h1
      exact ⟨h1, h3⟩
    · have h := rcolumn_any o.tab.ca o.tab.cc o.cl o.tab.name o.tab.root o.tab.next o.tab.rows o.nm W (CellsAt.keep hB r1)
      rw [← r2] at h
      refine h.mono fun e w' h => ?_
      obtain ⟨r, h1, h2, h3⟩ := h
      rw [r2] at h2
      rw [first_place (P := cnameAt o.cl o.nm) (l := o.cl) (nm := Col.name) (fun j y hj => by unfold cnameAt; rw [hj]) h2] at h1
      exact ⟨h1, h3⟩)
  have HC2 := Lib.hid (show ∃ r : Int, (∀ W, Below w.heap.size w W → Calls Tryz.prog 20 #[.slice o.tab.ca o.tab.cn o.tab.cc] W (RetV (.int .i64 r) W)) ∧ (∀ W, Below w.heap.size w W → Calls Tryz.prog 21 #[.slice o.tab.ca o.tab.cn o.tab.cc] W (RetV (.int .i64 r) W)) from by
    obtain ⟨⟨r1, r2, r3, r4⟩, _⟩ := hO
    dsimp only at r1 r2 r3
    refine ⟨colsR o.cl, fun W hB => ?_, fun W hB => ?_⟩
    · have h := columns_any m gt ht o.tab.ca o.tab.cc o.cl W (hG.keep hB) (CellsAt.keep hB r1) r3
      rw [← r2] at h
      exact h
    · have h := rcolumns_any m gt ht o.tab.ca o.tab.cc o.cl W (hG.keep hB) (CellsAt.keep hB r1)
      rw [← r2] at h
      exact h)
  have HC3 := Lib.hid (show ∃ r : Int, (∀ W, Below w.heap.size w W → Calls Tryz.prog 22 #[.agg #[.string o.tab.name, .slice o.tab.ca o.tab.cn o.tab.cc, .int .i64 o.tab.root, .int .i64 o.tab.next, .int .i64 o.tab.rows], .slice o.idx.pa o.idx.pn o.idx.pc] W (RetV (.int .i64 r) W)) ∧ (∀ W, Below w.heap.size w W → Calls Tryz.prog 23 #[.agg #[.string o.tab.name, .slice o.tab.ca o.tab.cn o.tab.cc, .int .i64 o.tab.root, .int .i64 o.tab.next, .int .i64 o.tab.rows], .slice o.idx.pa o.idx.pn o.idx.pc] W (RetV (.int .i64 r) W)) from by
    obtain ⟨_, r5, r6, r7, r8⟩ := hO
    dsimp only at r5 r6 r7
    refine ⟨placesR o.tab.cn o.xl, fun W hB => ?_, fun W hB => ?_⟩
    · have h := places_any o.tab.name o.tab.ca o.tab.cn o.tab.cc o.tab.root o.tab.next o.tab.rows o.idx.pa o.idx.pc o.xl W (IntsAt.keep hB r5) r7
      rw [← r6] at h
      exact h
    · have h := rplaces_any o.tab.name o.tab.ca o.tab.cn o.tab.cc o.tab.root o.tab.next o.tab.rows o.idx.pa o.idx.pc o.xl W (IntsAt.keep hB r5)
      rw [← r6] at h
      exact h)
  have HXC := Lib.hid (show DeepIx w ia xs from hX)
  obtain ⟨kk0, ⟨tn, ta, tl, tc, tr, tx, tw⟩, cl, ⟨un, ut, ua, ul, uc, us, ur, ux⟩, xl, nm⟩ := o
  obtain ⟨n, hn⟩ : ∃ n, n = ts.length := ⟨_, rfl⟩
  obtain ⟨mx, hm⟩ : ∃ mx, mx = xs.length := ⟨_, rfl⟩
  have HN := Lib.hid hn
  have HM := Lib.hid hm
  dsimp only [opL] at HLV HSM HFT HDO HCL HSA HOF HC1 HC2 HC3 ⊢
  rw [← hn] at HSM HDO HCL HSA HOF ⊢
  rw [← hm] at HSM HDO HCL HSA HOF ⊢
  have HST := Lib.hid (AnyB.start w A n c ia mx ic kk0 tn ta tl tc tr tx tw un ut ua ul uc us ur ux nm)
  obtain ⟨R, hR⟩ : ∃ R : Nat → Nat, R = fun k => (ofR (xs.map Prod.fst) nm k).length := ⟨_, rfl⟩
  have HRS := Lib.hid (show ∀ k, R (k + 1) = if tnameAt (xs.map Prod.fst) nm k then R k + 1 else R k from fun k => by
    rw [hR]
    dsimp only
    rw [ofR_succ]
    split
    · rw [List.length_append]; rfl
    · rfl)
  have HR0 := Lib.hid (show R 0 = 0 by rw [hR]; rfl)
  have HRL := Lib.hid (show ∀ k, R k ≤ k from fun k => by rw [hR]; exact ofR_len _ _ _)
  rw [show (ofR (xs.map Prod.fst) nm mx).length = R mx by rw [hR]] at HOF
  clear hD hX hO hG ht hn hm hR
  go_enter Tryz.func5, Tryz.ntmps5
  go_wp2_with (first
    | (go_at_call 7; first
       | (with_reducible refine (HLV.out _ HBV.out).mono ?_
          rintro e w9 ⟨rfl, hB9⟩
          have HB9 := Lib.hid (HBV.out.trans (hB9.mono HBV.out.size))
          clear hB9)
       | (with_reducible refine (HLV.out _ HST.out.below).mono ?_
          rintro e w1 ⟨rfl, hB1⟩
          have HK1 := Lib.hid (HST.out.keep hB1)
          have s0 := cell_of_row _ _ 0 _ _ _ HK1.out.s
          have s1 := cell_of_row _ _ 1 _ _ _ HK1.out.s
          have o0 := cell_of_row _ _ 0 _ _ _ HK1.out.o
          have o1 := cell_of_row _ _ 1 _ _ _ HK1.out.o
          have o2 := cell_of_row _ _ 2 _ _ _ HK1.out.o
          have o3 := cell_of_row _ _ 3 _ _ _ HK1.out.o
          have o4 := cell_of_row _ _ 4 _ _ _ HK1.out.o
          have o5 := cell_of_row _ _ 5 _ _ _ HK1.out.o
          have o6 := cell_of_row _ _ 6 _ _ _ HK1.out.o
          have o7 := cell_of_row _ _ 7 _ _ _ HK1.out.o
          have o8 := cell_of_row _ _ 8 _ _ _ HK1.out.o
          have o9 := cell_of_row _ _ 9 _ _ _ HK1.out.o
          have o10 := cell_of_row _ _ 10 _ _ _ HK1.out.o
          have o11 := cell_of_row _ _ 11 _ _ _ HK1.out.o
          have o12 := cell_of_row _ _ 12 _ _ _ HK1.out.o
          clear hB1))
    | (go_at_call 17; (with_reducible refine (HSM.out _ HK1.out.below).mono ?_); rintro e w2 ⟨r, rfl, hr, hB2⟩
       have HK2 := Lib.hid (HK1.out.keep hB2)
       have HR2 := Lib.hid hr
       have HBV := Lib.hid HK2.out.below
       clear s0 s1 o0 o1 o2 o3 o4 o5 o6 o7 o8 o9 o10 o11 o12
       have s0 := cell_of_row _ _ 0 _ _ _ HK2.out.s
       have s1 := cell_of_row _ _ 1 _ _ _ HK2.out.s
       have o0 := cell_of_row _ _ 0 _ _ _ HK2.out.o
       have o1 := cell_of_row _ _ 1 _ _ _ HK2.out.o
       have o2 := cell_of_row _ _ 2 _ _ _ HK2.out.o
       have o3 := cell_of_row _ _ 3 _ _ _ HK2.out.o
       have o4 := cell_of_row _ _ 4 _ _ _ HK2.out.o
       have o5 := cell_of_row _ _ 5 _ _ _ HK2.out.o
       have o6 := cell_of_row _ _ 6 _ _ _ HK2.out.o
       have o7 := cell_of_row _ _ 7 _ _ _ HK2.out.o
       have o8 := cell_of_row _ _ 8 _ _ _ HK2.out.o
       have o9 := cell_of_row _ _ 9 _ _ _ HK2.out.o
       have o10 := cell_of_row _ _ 10 _ _ _ HK2.out.o
       have o11 := cell_of_row _ _ 11 _ _ _ HK2.out.o
       have o12 := cell_of_row _ _ 12 _ _ _ HK2.out.o
       have HFN := Lib.hid (heap_alloc_new w2 (.cells #[.int .i64 kk0, .string tn, .slice ta tl tc, .int .i64 tr, .int .i64 tx, .int .i64 tw, .string un, .string ut, .slice ua ul uc, .int .i64 us, .int .i64 ur, .int .i64 ux, .string nm] 30))
       have HKF := Lib.hid (HK2.out.keep (below1 w2 (.cells #[.int .i64 kk0, .string tn, .slice ta tl tc, .int .i64 tr, .int .i64 tx, .int .i64 tw, .string un, .string ut, .slice ua ul uc, .int .i64 us, .int .i64 ur, .int .i64 ux, .string nm] 30)))
       clear hB2 hr
       cases r)
    | (go_at_call 8; (with_reducible refine (HFT.out _ _ HKF.out.below HFN.out).mono ?_); rintro e w3 ⟨r, rfl, hr, hB3⟩
       have HK3 := Lib.hid (HKF.out.keep hB3)
       have HR3 := Lib.hid hr
       clear HBV
       have HBV := Lib.hid HK3.out.below
       clear s0 s1 o0 o1 o2 o3 o4 o5 o6 o7 o8 o9 o10 o11 o12
       have s0 := cell_of_row _ _ 0 _ _ _ HK3.out.s
       have s1 := cell_of_row _ _ 1 _ _ _ HK3.out.s
       have o0 := cell_of_row _ _ 0 _ _ _ HK3.out.o
       have o1 := cell_of_row _ _ 1 _ _ _ HK3.out.o
       have o2 := cell_of_row _ _ 2 _ _ _ HK3.out.o
       have o3 := cell_of_row _ _ 3 _ _ _ HK3.out.o
       have o4 := cell_of_row _ _ 4 _ _ _ HK3.out.o
       have o5 := cell_of_row _ _ 5 _ _ _ HK3.out.o
       have o6 := cell_of_row _ _ 6 _ _ _ HK3.out.o
       have o7 := cell_of_row _ _ 7 _ _ _ HK3.out.o
       have o8 := cell_of_row _ _ 8 _ _ _ HK3.out.o
       have o9 := cell_of_row _ _ 9 _ _ _ HK3.out.o
       have o10 := cell_of_row _ _ 10 _ _ _ HK3.out.o
       have o11 := cell_of_row _ _ 11 _ _ _ HK3.out.o
       have o12 := cell_of_row _ _ 12 _ _ _ HK3.out.o
       clear hB3 hr
       cases r)
    | fail)
  · go_ret
    exact ⟨rfl, HB9.out⟩
  · go_ret
    exact ⟨rfl, HB9.out⟩
  have HSZ := Lib.hid (show (n ≤ 20 ∧ mx ≤ 20 ∧ (∀ p ∈ ts, p.2.length ≤ 20) ∧ (∀ p ∈ xs, p.2.length ≤ 20)) ∧ cl.length ≤ 20 ∧ xl.length ≤ 20 from by
    have h1 := HR2.out (by first | rfl | trivial)
    have h2 := HR3.out (by first | rfl | trivial)
    rw [← HN.out, ← HM.out] at h1
    exact ⟨h1, h2.2 _ (List.mem_singleton.2 rfl)⟩)
  have hn20 := HSZ.out.1.1
  have hm20 := HSZ.out.1.2.1
  have HD2 := Lib.hid (fun W (j : Int) hB => HDO.out W j hB HSZ.out.1.1 HSZ.out.1.2.1 HSZ.out.1.2.2.1 HSZ.out.1.2.2.2 HSZ.out.2.1 HSZ.out.2.2)
  have HC9 := Lib.hid (fun W hB => HCL.out W hB HSZ.out.1.1 HSZ.out.1.2.1 HSZ.out.1.2.2.1 HSZ.out.1.2.2.2)
  have HO9 := Lib.hid (fun W hB => HOF.out W hB HSZ.out.1.2.1)
  clear s0 s1 o0 o1 o2 o3 o4 o5 o6 o7 o8 o9 o10 o11 o12
  clear HBV HR2 HR3 HDO HCL HOF
  go_loopw [27] (fun i wr => ∃ (k : Nat) (kk : Int), k ≤ 4 ∧ i = .int .i64 k ∧ Hid (AnyB w A n c ia mx ic kk tn ta tl tc tr tx tw un ut ua ul uc us ur ux nm wr)) (fun i _ => 4 - (intOf i).toNat)
  case atStart => exact ⟨0, kk0, by omega, rfl, HK3⟩
  case round =>
    obtain ⟨k, kk, hk, rfl, HK⟩ := hrel
    obtain ⟨wo, rfl⟩ : ∃ wo : World, wo = wr := ⟨_, rfl⟩
    by_cases hk4 : k < 4
    · have hk2 : ((k : Int) < 4) = True := eq_true (by omega)
      have o0 := cell_of_row _ _ 0 _ _ _ HK.out.o
      have z0 := frozen_of_row _ _ 0 _ _ HK.out.o
      have HKS := Lib.hid (HK.out.set (k : Int))
      have s0 := cell_of_row _ _ 0 _ _ _ HKS.out.s
      have s1 := cell_of_row _ _ 1 _ _ _ HKS.out.s
      have p0 := cell_of_row _ _ 0 _ _ _ HKS.out.o
      have o1 := cell_of_row _ _ 1 _ _ _ HKS.out.o
      have o2 := cell_of_row _ _ 2 _ _ _ HKS.out.o
      have o3 := cell_of_row _ _ 3 _ _ _ HKS.out.o
      have o4 := cell_of_row _ _ 4 _ _ _ HKS.out.o
      have o5 := cell_of_row _ _ 5 _ _ _ HKS.out.o
      have o6 := cell_of_row _ _ 6 _ _ _ HKS.out.o
      have o7 := cell_of_row _ _ 7 _ _ _ HKS.out.o
      have o8 := cell_of_row _ _ 8 _ _ _ HKS.out.o
      have o9 := cell_of_row _ _ 9 _ _ _ HKS.out.o
      have o10 := cell_of_row _ _ 10 _ _ _ HKS.out.o
      have o11 := cell_of_row _ _ 11 _ _ _ HKS.out.o
      have o12 := cell_of_row _ _ 12 _ _ _ HKS.out.o
      go_wp2_with (first
        | (go_at_call 9; (with_reducible refine (HD2.out _ _ HKS.out.below).mono ?_); rintro e w5 ⟨p1, p2, p3, p4, p5, p6, q1, q2, q3, q4, q5, q6, rfl, hB5⟩
           have HK5 := Lib.hid ((HKS.out.keep hB5).keep ((below1 w5 (.cells #[.slice p1 p2 p3, .slice p4 p5 p6] 36)).trans ((below1 _ (.cells #[.slice q1 q2 q3, .slice q4 q5 q6] 36)).mono (by simp))))
           clear hB5 p0 s0 s1 o0 o1 o2 o3 o4 o5 o6 o7 o8 o9 o10 o11 o12 z0)
        | fail)
      go_roundw
      case rel => exact ⟨k + 1, _, by omega, by go_num, HK5⟩
      case measure => simp [intOf] <;> omega
    · obtain rfl : k = 4 := by omega
      have s0 := cell_of_row _ _ 0 _ _ _ HK.out.s
      have s1 := cell_of_row _ _ 1 _ _ _ HK.out.s
      have o0 := cell_of_row _ _ 0 _ _ _ HK.out.o
      have o1 := cell_of_row _ _ 1 _ _ _ HK.out.o
      have o2 := cell_of_row _ _ 2 _ _ _ HK.out.o
      have o3 := cell_of_row _ _ 3 _ _ _ HK.out.o
      have o4 := cell_of_row _ _ 4 _ _ _ HK.out.o
      have o5 := cell_of_row _ _ 5 _ _ _ HK.out.o
      have o6 := cell_of_row _ _ 6 _ _ _ HK.out.o
      have o7 := cell_of_row _ _ 7 _ _ _ HK.out.o
      have o8 := cell_of_row _ _ 8 _ _ _ HK.out.o
      have o9 := cell_of_row _ _ 9 _ _ _ HK.out.o
      have o10 := cell_of_row _ _ 10 _ _ _ HK.out.o
      have o11 := cell_of_row _ _ 11 _ _ _ HK.out.o
      have o12 := cell_of_row _ _ 12 _ _ _ HK.out.o
      go_wp2_with fail
      clear s0 s1 o0 o1 o2 o3 o4 o5 o6 o7 o8 o9 o10 o11 o12
      go_loopw [9, 46] (fun q i wr => ∃ k : Nat, k ≤ mx ∧ q = .int .i64 (R k) ∧ i = .int .i64 k ∧ Hid (AnyB w A n c ia mx ic kk tn ta tl tc tr tx tw un ut ua ul uc us ur ux nm wr)) (fun _ i _ => mx - (intOf i).toNat)
      case atStart => exact ⟨0, Nat.zero_le _, by rw [HR0.out]; rfl, rfl, HK⟩
      case round =>
        obtain ⟨k, hk, rfl, rfl, HK⟩ := hrel
        obtain ⟨wi, rfl⟩ : ∃ wi : World, wi = wr := ⟨_, rfl⟩
        by_cases hkm : k < mx
        · obtain ⟨⟨x, xl2⟩, hx⟩ : ∃ x, xs[k]? = some x := ⟨_, List.getElem?_eq_getElem (by have := HM.out; omega)⟩
          have hkm2 : ((k : Int) < (mx : Int)) = True := eq_true (by omega)
          have hrl := HRL.out k
          obtain ⟨b, off, rfl, HC⟩ := HXC.out.cell hx
          have HTN := Lib.hid (show tnameAt (xs.map Prod.fst) nm k = sameN x.table nm by unfold tnameAt; rw [List.getElem?_map, hx]; rfl)
          have HRK := Lib.hid (HRS.out k)
          rw [HTN.out] at HRK
          clear hx
          obtain ⟨xn, xt, xa, xll, xc, xr, xx, xs2⟩ := x
          have k0 : wi.cell? ⟨b, off + k * 6, none⟩ = some (.string xn) := HC.out _ HK.out.below 0 _ rfl
          have k1 : wi.cell? ⟨b, off + k * 6 + 1, none⟩ = some (.string xt) := HC.out _ HK.out.below 1 _ rfl
          have k2 : wi.cell? ⟨b, off + k * 6 + 2, none⟩ = some (.slice xa xll xc) := HC.out _ HK.out.below 2 _ rfl
          have k3 : wi.cell? ⟨b, off + k * 6 + 3, none⟩ = some (.int .i64 xr) := HC.out _ HK.out.below 3 _ rfl
          have k4 : wi.cell? ⟨b, off + k * 6 + 4, none⟩ = some (.int .i64 xx) := HC.out _ HK.out.below 4 _ rfl
          have k5 : wi.cell? ⟨b, off + k * 6 + 5, none⟩ = some (.int .i64 xs2) := HC.out _ HK.out.below 5 _ rfl
          have HKA := Lib.hid (HK.out.keep (below1 wi (.cells #[.string xn, .string xt, .slice xa xll xc, .int .i64 xr, .int .i64 xx, .int .i64 xs2] 28)))
          have o12 := cell_of_row _ _ 12 _ _ _ HKA.out.o
          dsimp only at HRK
          cases hq : (xt.toList == nm.toList) with
          | true =>
            have HE := Lib.hid (show R (k + 1) = R k + 1 by rw [HRK.out, if_pos (by exact hq)])
            go_wp2_with fail
            go_roundw
            case rel => exact ⟨k + 1, by omega, by rw [HE.out]; go_num, by go_num, HKA⟩
            case measure => simp [intOf] <;> omega
          | false =>
            have HE := Lib.hid (show R (k + 1) = R k by rw [HRK.out, if_neg (by show ¬ ((xt.toList == nm.toList) = true); rw [hq]; decide)])
            go_wp2_with fail
            go_roundw
            case rel => exact ⟨k + 1, by omega, by rw [HE.out], by go_num, HKA⟩
            case measure => simp [intOf] <;> omega
        · obtain rfl : mx = k := by omega
          have s0 := cell_of_row _ _ 0 _ _ _ HK.out.s
          have s1 := cell_of_row _ _ 1 _ _ _ HK.out.s
          have o0 := cell_of_row _ _ 0 _ _ _ HK.out.o
          have o1 := cell_of_row _ _ 1 _ _ _ HK.out.o
          have o2 := cell_of_row _ _ 2 _ _ _ HK.out.o
          have o3 := cell_of_row _ _ 3 _ _ _ HK.out.o
          have o4 := cell_of_row _ _ 4 _ _ _ HK.out.o
          have o5 := cell_of_row _ _ 5 _ _ _ HK.out.o
          have o6 := cell_of_row _ _ 6 _ _ _ HK.out.o
          have o7 := cell_of_row _ _ 7 _ _ _ HK.out.o
          have o8 := cell_of_row _ _ 8 _ _ _ HK.out.o
          have o9 := cell_of_row _ _ 9 _ _ _ HK.out.o
          have o10 := cell_of_row _ _ 10 _ _ _ HK.out.o
          have o11 := cell_of_row _ _ 11 _ _ _ HK.out.o
          have o12 := cell_of_row _ _ 12 _ _ _ HK.out.o
          go_wp2_with (first
            | (go_at_call 10; (with_reducible refine (HC9.out _ HK.out.below).mono ?_); rintro e w7 ⟨va, ua2, vc, uc2, ts', xs', rfl, hB7, hO7, e1, e2, _, _, _⟩
               have HK7 := Lib.hid (HK.out.keep hB7)
               have HSA7 := Lib.hid (fun W hB hB1 => HSA.out W w7 va vc ua2 uc2 w7.heap.size ts' xs' _ (by have h := hO7 w7.heap.size (Nat.le_refl _); rw [← HN.out, ← HM.out] at h; exact h) e1 e2 HSZ.out.1.1 HSZ.out.1.2.1 hB hB1)
               rw [← HN.out, ← HM.out]
               clear hB7 hO7 e1 e2 s0 s1 o0 o1 o2 o3 o4 o5 o6 o7 o8 o9 o10 o11 o12)
            | fail)
          obtain ⟨r1, HA1, HB1⟩ := HC1.out
          obtain ⟨r2, HA2, HB2⟩ := HC2.out
          obtain ⟨r3, HA3, HB3⟩ := HC3.out
          have HA1 := Lib.hid HA1
          have HB1 := Lib.hid HB1
          have HA2 := Lib.hid HA2
          have HB2 := Lib.hid HB2
          have HA3 := Lib.hid HA3
          have HB3 := Lib.hid HB3
          clear HC1 HC2 HC3
          have HSX := Lib.hid (show ∀ wx, (AnyC w A n c ia mx ic kk tn ta tl tc tr tx tw un ut ua ul uc us ur ux nm w7.heap.size va vc ua2 uc2 wx) ∧ Below w7.heap.size w7 wx → ((AnyC w A n c ia mx ic kk tn ta tl tc tr tx tw un ut ua ul uc us ur ux nm w7.heap.size va vc ua2 uc2 wx) ∧ Below w7.heap.size w7 wx) ∧ wx.cell? ⟨w.heap.size, 0, none⟩ = some (.slice A n c) ∧ wx.cell? ⟨w.heap.size, 1, none⟩ = some (.slice ia mx ic) ∧ wx.cell? ⟨w.heap.size + 1, 0, none⟩ = some (.int .i64 kk) ∧ wx.cell? ⟨w.heap.size + 1, 1, none⟩ = some (.string tn) ∧ wx.cell? ⟨w.heap.size + 1, 2, none⟩ = some (.slice ta tl tc) ∧ wx.cell? ⟨w.heap.size + 1, 3, none⟩ = some (.int .i64 tr) ∧ wx.cell? ⟨w.heap.size + 1, 4, none⟩ = some (.int .i64 tx) ∧ wx.cell? ⟨w.heap.size + 1, 5, none⟩ = some (.int .i64 tw) ∧ wx.cell? ⟨w.heap.size + 1, 6, none⟩ = some (.string un) ∧ wx.cell? ⟨w.heap.size + 1, 7, none⟩ = some (.string ut) ∧ wx.cell? ⟨w.heap.size + 1, 8, none⟩ = some (.slice ua ul uc) ∧ wx.cell? ⟨w.heap.size + 1, 9, none⟩ = some (.int .i64 us) ∧ wx.cell? ⟨w.heap.size + 1, 10, none⟩ = some (.int .i64 ur) ∧ wx.cell? ⟨w.heap.size + 1, 11, none⟩ = some (.int .i64 ux) ∧ wx.cell? ⟨w.heap.size + 1, 12, none⟩ = some (.string nm) ∧ wx.cell? ⟨w7.heap.size, 0, none⟩ = some (.slice va n vc) ∧ wx.cell? ⟨w7.heap.size, 1, none⟩ = some (.slice ua2 mx uc2) from fun wx h => ⟨h, cell_of_row _ _ 0 _ _ _ h.1.box.s, cell_of_row _ _ 1 _ _ _ h.1.box.s, cell_of_row _ _ 0 _ _ _ h.1.box.o, cell_of_row _ _ 1 _ _ _ h.1.box.o, cell_of_row _ _ 2 _ _ _ h.1.box.o, cell_of_row _ _ 3 _ _ _ h.1.box.o, cell_of_row _ _ 4 _ _ _ h.1.box.o, cell_of_row _ _ 5 _ _ _ h.1.box.o, cell_of_row _ _ 6 _ _ _ h.1.box.o, cell_of_row _ _ 7 _ _ _ h.1.box.o, cell_of_row _ _ 8 _ _ _ h.1.box.o, cell_of_row _ _ 9 _ _ _ h.1.box.o, cell_of_row _ _ 10 _ _ _ h.1.box.o, cell_of_row _ _ 11 _ _ _ h.1.box.o, cell_of_row _ _ 12 _ _ _ h.1.box.o, cell_of_row _ _ 0 _ _ _ h.1.cl, cell_of_row _ _ 1 _ _ _ h.1.cl⟩)
          have HKC := Lib.hid (show (AnyC w A n c ia mx ic kk tn ta tl tc tr tx tw un ut ua ul uc us ur ux nm w7.heap.size va vc ua2 uc2 (w7.alloc (.cells #[.slice va n vc, .slice ua2 mx uc2] 36)).drew) ∧ Below w7.heap.size w7 (w7.alloc (.cells #[.slice va n vc, .slice ua2 mx uc2] 36)).drew from ⟨⟨(HK7.out.keep (below1 w7 _)).keep ((Below.refl _ _).drew), heap_alloc_new w7 _⟩, (below1 w7 _).drew⟩)
          refine wp_region_held_drew (S := (fun wx => ((AnyC w A n c ia mx ic kk tn ta tl tc tr tx tw un ut ua ul uc us ur ux nm w7.heap.size va vc ua2 uc2 wx) ∧ Below w7.heap.size w7 wx) ∧ wx.cell? ⟨w.heap.size, 0, none⟩ = some (.slice A n c) ∧ wx.cell? ⟨w.heap.size, 1, none⟩ = some (.slice ia mx ic) ∧ wx.cell? ⟨w.heap.size + 1, 0, none⟩ = some (.int .i64 kk) ∧ wx.cell? ⟨w.heap.size + 1, 1, none⟩ = some (.string tn) ∧ wx.cell? ⟨w.heap.size + 1, 2, none⟩ = some (.slice ta tl tc) ∧ wx.cell? ⟨w.heap.size + 1, 3, none⟩ = some (.int .i64 tr) ∧ wx.cell? ⟨w.heap.size + 1, 4, none⟩ = some (.int .i64 tx) ∧ wx.cell? ⟨w.heap.size + 1, 5, none⟩ = some (.int .i64 tw) ∧ wx.cell? ⟨w.heap.size + 1, 6, none⟩ = some (.string un) ∧ wx.cell? ⟨w.heap.size + 1, 7, none⟩ = some (.string ut) ∧ wx.cell? ⟨w.heap.size + 1, 8, none⟩ = some (.slice ua ul uc) ∧ wx.cell? ⟨w.heap.size + 1, 9, none⟩ = some (.int .i64 us) ∧ wx.cell? ⟨w.heap.size + 1, 10, none⟩ = some (.int .i64 ur) ∧ wx.cell? ⟨w.heap.size + 1, 11, none⟩ = some (.int .i64 ux) ∧ wx.cell? ⟨w.heap.size + 1, 12, none⟩ = some (.string nm) ∧ wx.cell? ⟨w7.heap.size, 0, none⟩ = some (.slice va n vc) ∧ wx.cell? ⟨w7.heap.size, 1, none⟩ = some (.slice ua2 mx uc2))) (by kernel_rfl) (HSX.out _ HKC.out) (fun hHeld => ?_)
          (try dsimp only at hHeld)
          refine wpAnyH_take (i := 0) (v := ?_) (List.getElem?_toArray.trans rfl) (by kernel_rfl) (by kernel_rfl) (by kernel_rfl) (fun _ _ _ h => h) (Or.inl ⟨by rfl, ?_⟩) hHeld ?_
          rotate_left
          · intro wx hSw
            (try dsimp only at hSw)
            obtain ⟨_, e0, e1, e2, e3, e4, e5, e6, e7, e8, e9, e10, e11, e12, e13, e14, e15, e16⟩ := hSw
            go_simp
            (try with_reducible rfl)
          (try simp only [Act.put, List.setIfInBounds_toArray, List.set_cons_zero, List.set_cons_succ])
          refine wpAnyH_take (i := 1) (v := ?_) (List.getElem?_toArray.trans rfl) (by kernel_rfl) (by kernel_rfl) (by kernel_rfl) (fun _ _ _ h => h) (Or.inl ⟨by rfl, ?_⟩) hHeld ?_
          rotate_left
          · intro wx hSw
            (try dsimp only at hSw)
            obtain ⟨_, e0, e1, e2, e3, e4, e5, e6, e7, e8, e9, e10, e11, e12, e13, e14, e15, e16⟩ := hSw
            go_simp
            (try with_reducible rfl)
          (try simp only [Act.put, List.setIfInBounds_toArray, List.set_cons_zero, List.set_cons_succ])
          refine wpAnyH_ready (rs := [2]) (by kernel_rfl) (by simp) ?_
          refine AllReadyH.cons (List.getElem?_toArray.trans rfl) (fun K hK => ?_) AllReadyH.nil
          go_simp
          go_at_call 11
          with_reducible refine Calls.mono (HSA7.out _ hHeld.1.1.box.below hHeld.1.2) ?_
          rintro e w22 ⟨rfl, hB5⟩
          have hHeld2 := HSX.out _ ⟨hHeld.1.1.keep hB5, hHeld.1.2.trans (hB5.mono hHeld.1.2.size)⟩
          refine hK.out _ _ hHeld2 (fun _ => ?_)
          clear hK K hHeld hB5
          have hHeld := hHeld2
          clear hHeld2
          (try simp only [Act.put, List.setIfInBounds_toArray, List.set_cons_zero, List.set_cons_succ])
          refine wpAnyH_take (i := 3) (v := ?_) (List.getElem?_toArray.trans rfl) (by kernel_rfl) (by kernel_rfl) (by kernel_rfl) (fun _ _ _ h => h) (Or.inl ⟨by rfl, ?_⟩) hHeld ?_
          rotate_left
          · intro wx hSw
            (try dsimp only at hSw)
            obtain ⟨_, e0, e1, e2, e3, e4, e5, e6, e7, e8, e9, e10, e11, e12, e13, e14, e15, e16⟩ := hSw
            go_simp
            (try with_reducible rfl)
          (try simp only [Act.put, List.setIfInBounds_toArray, List.set_cons_zero, List.set_cons_succ])
          refine wpAnyH_take (i := 4) (v := ?_) (List.getElem?_toArray.trans rfl) (by kernel_rfl) (by kernel_rfl) (by kernel_rfl) (fun _ _ _ h => h) (Or.inl ⟨by rfl, ?_⟩) hHeld ?_
          rotate_left
          · intro wx hSw
            (try dsimp only at hSw)
            obtain ⟨_, e0, e1, e2, e3, e4, e5, e6, e7, e8, e9, e10, e11, e12, e13, e14, e15, e16⟩ := hSw
            go_simp
            (try with_reducible rfl)
          (try simp only [Act.put, List.setIfInBounds_toArray, List.set_cons_zero, List.set_cons_succ])
          refine wpAnyH_take (i := 5) (v := ?_) (List.getElem?_toArray.trans rfl) (by kernel_rfl) (by kernel_rfl) (by kernel_rfl) (fun _ _ _ h => h) (Or.inl ⟨by rfl, ?_⟩) hHeld ?_
          rotate_left
          · intro wx hSw
            (try dsimp only at hSw)
            obtain ⟨_, e0, e1, e2, e3, e4, e5, e6, e7, e8, e9, e10, e11, e12, e13, e14, e15, e16⟩ := hSw
            go_simp
            (try with_reducible rfl)
          (try simp only [Act.put, List.setIfInBounds_toArray, List.set_cons_zero, List.set_cons_succ])
          refine wpAnyH_take (i := 6) (v := ?_) (List.getElem?_toArray.trans rfl) (by kernel_rfl) (by kernel_rfl) (by kernel_rfl) (fun _ _ _ h => h) (Or.inl ⟨by rfl, ?_⟩) hHeld ?_
          rotate_left
          · intro wx hSw
            (try dsimp only at hSw)
            obtain ⟨_, e0, e1, e2, e3, e4, e5, e6, e7, e8, e9, e10, e11, e12, e13, e14, e15, e16⟩ := hSw
            go_simp
            (try with_reducible rfl)
          (try simp only [Act.put, List.setIfInBounds_toArray, List.set_cons_zero, List.set_cons_succ])
          refine wpAnyH_take (i := 9) (v := ?_) (List.getElem?_toArray.trans rfl) (by kernel_rfl) (by kernel_rfl) (by kernel_rfl) (fun _ _ _ h => h) (Or.inl ⟨by rfl, ?_⟩) hHeld ?_
          rotate_left
          · intro wx hSw
            (try dsimp only at hSw)
            obtain ⟨_, e0, e1, e2, e3, e4, e5, e6, e7, e8, e9, e10, e11, e12, e13, e14, e15, e16⟩ := hSw
            go_simp
            (try with_reducible rfl)
          (try simp only [Act.put, List.setIfInBounds_toArray, List.set_cons_zero, List.set_cons_succ])
          refine wpAnyH_ready (rs := [7]) (by kernel_rfl) (by simp) ?_
          refine AllReadyH.cons (List.getElem?_toArray.trans rfl) (fun K hK => ?_) AllReadyH.nil
          go_simp
          go_at_call 16
          with_reducible refine Calls.mono (HO9.out _ hHeld.1.1.box.below) ?_
          rintro e w27 ⟨va3, vc3, rfl, hB5⟩
          have hHeld2 := HSX.out _ ⟨hHeld.1.1.keep hB5, hHeld.1.2.trans (hB5.mono hHeld.1.2.size)⟩
          refine hK.out _ _ hHeld2 (fun _ => ?_)
          clear hK K hHeld hB5
          have hHeld := hHeld2
          clear hHeld2
          (try simp only [Act.put, List.setIfInBounds_toArray, List.set_cons_zero, List.set_cons_succ])
          refine wpAnyH_take (i := 8) (v := ?_) (List.getElem?_toArray.trans rfl) (by kernel_rfl) (by kernel_rfl) (by kernel_rfl) (fun _ _ _ h => h) (Or.inl ⟨by rfl, ?_⟩) hHeld ?_
          rotate_left
          · intro wx hSw
            (try dsimp only at hSw)
            obtain ⟨_, e0, e1, e2, e3, e4, e5, e6, e7, e8, e9, e10, e11, e12, e13, e14, e15, e16⟩ := hSw
            go_simp
            (try with_reducible rfl)
          (try simp only [Act.put, List.setIfInBounds_toArray, List.set_cons_zero, List.set_cons_succ])
          refine wpAnyH_take (i := 10) (v := ?_) (List.getElem?_toArray.trans rfl) (by kernel_rfl) (by kernel_rfl) (by kernel_rfl) (fun _ _ _ h => h) (Or.inl ⟨by rfl, ?_⟩) hHeld ?_
          rotate_left
          · intro wx hSw
            (try dsimp only at hSw)
            obtain ⟨_, e0, e1, e2, e3, e4, e5, e6, e7, e8, e9, e10, e11, e12, e13, e14, e15, e16⟩ := hSw
            go_simp
            (try with_reducible rfl)
          (try simp only [Act.put, List.setIfInBounds_toArray, List.set_cons_zero, List.set_cons_succ])
          refine wpAnyH_take (i := 11) (v := ?_) (List.getElem?_toArray.trans rfl) (by kernel_rfl) (by kernel_rfl) (by kernel_rfl) (fun _ _ _ h => h) (Or.inl ⟨by rfl, ?_⟩) hHeld ?_
          rotate_left
          · intro wx hSw
            (try dsimp only at hSw)
            obtain ⟨_, e0, e1, e2, e3, e4, e5, e6, e7, e8, e9, e10, e11, e12, e13, e14, e15, e16⟩ := hSw
            go_simp
            (try with_reducible rfl)
          (try simp only [Act.put, List.setIfInBounds_toArray, List.set_cons_zero, List.set_cons_succ])
          refine wpAnyH_take (i := 12) (v := ?_) (List.getElem?_toArray.trans rfl) (by kernel_rfl) (by kernel_rfl) (by kernel_rfl) (fun _ _ _ h => h) (Or.inl ⟨by rfl, ?_⟩) hHeld ?_
          rotate_left
          · intro wx hSw
            (try dsimp only at hSw)
            obtain ⟨_, e0, e1, e2, e3, e4, e5, e6, e7, e8, e9, e10, e11, e12, e13, e14, e15, e16⟩ := hSw
            go_simp
            (try with_reducible rfl)
          (try simp only [Act.put, List.setIfInBounds_toArray, List.set_cons_zero, List.set_cons_succ])
          refine wpAnyH_take (i := 13) (v := ?_) (List.getElem?_toArray.trans rfl) (by kernel_rfl) (by kernel_rfl) (by kernel_rfl) (fun _ _ _ h => h) (Or.inl ⟨by rfl, ?_⟩) hHeld ?_
          rotate_left
          · intro wx hSw
            (try dsimp only at hSw)
            obtain ⟨_, e0, e1, e2, e3, e4, e5, e6, e7, e8, e9, e10, e11, e12, e13, e14, e15, e16⟩ := hSw
            go_simp
            (try with_reducible rfl)
          (try simp only [Act.put, List.setIfInBounds_toArray, List.set_cons_zero, List.set_cons_succ])
          refine wpAnyH_take (i := 14) (v := ?_) (List.getElem?_toArray.trans rfl) (by kernel_rfl) (by kernel_rfl) (by kernel_rfl) (fun _ _ _ h => h) (Or.inl ⟨by rfl, ?_⟩) hHeld ?_
          rotate_left
          · intro wx hSw
            (try dsimp only at hSw)
            obtain ⟨_, e0, e1, e2, e3, e4, e5, e6, e7, e8, e9, e10, e11, e12, e13, e14, e15, e16⟩ := hSw
            go_simp
            (try with_reducible rfl)
          (try simp only [Act.put, List.setIfInBounds_toArray, List.set_cons_zero, List.set_cons_succ])
          refine wpAnyH_take (i := 15) (v := ?_) (List.getElem?_toArray.trans rfl) (by kernel_rfl) (by kernel_rfl) (by kernel_rfl) (fun _ _ _ h => h) (Or.inl ⟨by rfl, ?_⟩) hHeld ?_
          rotate_left
          · intro wx hSw
            (try dsimp only at hSw)
            obtain ⟨_, e0, e1, e2, e3, e4, e5, e6, e7, e8, e9, e10, e11, e12, e13, e14, e15, e16⟩ := hSw
            go_simp
            (try with_reducible rfl)
          (try simp only [Act.put, List.setIfInBounds_toArray, List.set_cons_zero, List.set_cons_succ])
          refine wpAnyH_take (i := 16) (v := ?_) (List.getElem?_toArray.trans rfl) (by kernel_rfl) (by kernel_rfl) (by kernel_rfl) (fun _ _ _ h => h) (Or.inl ⟨by rfl, ?_⟩) hHeld ?_
          rotate_left
          · intro wx hSw
            (try dsimp only at hSw)
            obtain ⟨_, e0, e1, e2, e3, e4, e5, e6, e7, e8, e9, e10, e11, e12, e13, e14, e15, e16⟩ := hSw
            go_simp
            (try with_reducible rfl)
          (try simp only [Act.put, List.setIfInBounds_toArray, List.set_cons_zero, List.set_cons_succ])
          refine wpAnyH_take (i := 18) (v := ?_) (List.getElem?_toArray.trans rfl) (by kernel_rfl) (by kernel_rfl) (by kernel_rfl) (fun _ _ _ h => h) (Or.inl ⟨by rfl, ?_⟩) hHeld ?_
          rotate_left
          · intro wx hSw
            (try dsimp only at hSw)
            obtain ⟨_, e0, e1, e2, e3, e4, e5, e6, e7, e8, e9, e10, e11, e12, e13, e14, e15, e16⟩ := hSw
            go_simp
            (try with_reducible rfl)
          (try simp only [Act.put, List.setIfInBounds_toArray, List.set_cons_zero, List.set_cons_succ])
          refine wpAnyH_take (i := 19) (v := ?_) (List.getElem?_toArray.trans rfl) (by kernel_rfl) (by kernel_rfl) (by kernel_rfl) (fun _ _ _ h => h) (Or.inl ⟨by rfl, ?_⟩) hHeld ?_
          rotate_left
          · intro wx hSw
            (try dsimp only at hSw)
            obtain ⟨_, e0, e1, e2, e3, e4, e5, e6, e7, e8, e9, e10, e11, e12, e13, e14, e15, e16⟩ := hSw
            go_simp
            (try with_reducible rfl)
          (try simp only [Act.put, List.setIfInBounds_toArray, List.set_cons_zero, List.set_cons_succ])
          refine wpAnyH_take (i := 20) (v := ?_) (List.getElem?_toArray.trans rfl) (by kernel_rfl) (by kernel_rfl) (by kernel_rfl) (fun _ _ _ h => h) (Or.inl ⟨by rfl, ?_⟩) hHeld ?_
          rotate_left
          · intro wx hSw
            (try dsimp only at hSw)
            obtain ⟨_, e0, e1, e2, e3, e4, e5, e6, e7, e8, e9, e10, e11, e12, e13, e14, e15, e16⟩ := hSw
            go_simp
            (try with_reducible rfl)
          (try simp only [Act.put, List.setIfInBounds_toArray, List.set_cons_zero, List.set_cons_succ])
          refine wpAnyH_take (i := 21) (v := ?_) (List.getElem?_toArray.trans rfl) (by kernel_rfl) (by kernel_rfl) (by kernel_rfl) (fun _ _ _ h => h) (Or.inl ⟨by rfl, ?_⟩) hHeld ?_
          rotate_left
          · intro wx hSw
            (try dsimp only at hSw)
            obtain ⟨_, e0, e1, e2, e3, e4, e5, e6, e7, e8, e9, e10, e11, e12, e13, e14, e15, e16⟩ := hSw
            go_simp
            (try with_reducible rfl)
          (try simp only [Act.put, List.setIfInBounds_toArray, List.set_cons_zero, List.set_cons_succ])
          refine wpAnyH_ready (rs := [17]) (by kernel_rfl) (by simp) ?_
          refine AllReadyH.cons (List.getElem?_toArray.trans rfl) (fun K hK => ?_) AllReadyH.nil
          go_simp
          go_at_call 18
          with_reducible refine Calls.mono (HA1.out _ hHeld.1.1.box.below) ?_
          rintro e w37 ⟨rfl, hB5⟩
          have hHeld2 := HSX.out _ ⟨hHeld.1.1.keep hB5, hHeld.1.2.trans (hB5.mono hHeld.1.2.size)⟩
          refine hK.out _ _ hHeld2 (fun _ => ?_)
          clear hK K hHeld hB5
          have hHeld := hHeld2
          clear hHeld2
          (try simp only [Act.put, List.setIfInBounds_toArray, List.set_cons_zero, List.set_cons_succ])
          refine wpAnyH_ready (rs := [22]) (by kernel_rfl) (by simp) ?_
          refine AllReadyH.cons (List.getElem?_toArray.trans rfl) (fun K hK => ?_) AllReadyH.nil
          go_simp
          go_at_call 19
          with_reducible refine Calls.mono (HB1.out _ hHeld.1.1.box.below) ?_
          rintro e w42 ⟨rfl, hB5⟩
          have hHeld2 := HSX.out _ ⟨hHeld.1.1.keep hB5, hHeld.1.2.trans (hB5.mono hHeld.1.2.size)⟩
          refine hK.out _ _ hHeld2 (fun _ => ?_)
          clear hK K hHeld hB5
          have hHeld := hHeld2
          clear hHeld2
          (try simp only [Act.put, List.setIfInBounds_toArray, List.set_cons_zero, List.set_cons_succ])
          refine wpAnyH_take (i := 23) (v := ?_) (List.getElem?_toArray.trans rfl) (by kernel_rfl) (by kernel_rfl) (by kernel_rfl) (fun _ _ _ h => h) (Or.inl ⟨by rfl, ?_⟩) hHeld ?_
          rotate_left
          · intro wx hSw
            (try dsimp only at hSw)
            obtain ⟨_, e0, e1, e2, e3, e4, e5, e6, e7, e8, e9, e10, e11, e12, e13, e14, e15, e16⟩ := hSw
            go_simp
            (try with_reducible rfl)
          (try simp only [Act.put, List.setIfInBounds_toArray, List.set_cons_zero, List.set_cons_succ])
          refine wpAnyH_take (i := 24) (v := ?_) (List.getElem?_toArray.trans rfl) (by kernel_rfl) (by kernel_rfl) (by kernel_rfl) (fun _ _ _ h => h) (Or.inl ⟨by rfl, ?_⟩) hHeld ?_
          rotate_left
          · intro wx hSw
            (try dsimp only at hSw)
            obtain ⟨_, e0, e1, e2, e3, e4, e5, e6, e7, e8, e9, e10, e11, e12, e13, e14, e15, e16⟩ := hSw
            go_simp
            (try with_reducible rfl)
          (try simp only [Act.put, List.setIfInBounds_toArray, List.set_cons_zero, List.set_cons_succ])
          refine wpAnyH_take (i := 25) (v := ?_) (List.getElem?_toArray.trans rfl) (by kernel_rfl) (by kernel_rfl) (by kernel_rfl) (fun _ _ _ h => h) (Or.inl ⟨by rfl, ?_⟩) hHeld ?_
          rotate_left
          · intro wx hSw
            (try dsimp only at hSw)
            obtain ⟨_, e0, e1, e2, e3, e4, e5, e6, e7, e8, e9, e10, e11, e12, e13, e14, e15, e16⟩ := hSw
            go_simp
            (try with_reducible rfl)
          (try simp only [Act.put, List.setIfInBounds_toArray, List.set_cons_zero, List.set_cons_succ])
          refine wpAnyH_take (i := 26) (v := ?_) (List.getElem?_toArray.trans rfl) (by kernel_rfl) (by kernel_rfl) (by kernel_rfl) (fun _ _ _ h => h) (Or.inl ⟨by rfl, ?_⟩) hHeld ?_
          rotate_left
          · intro wx hSw
            (try dsimp only at hSw)
            obtain ⟨_, e0, e1, e2, e3, e4, e5, e6, e7, e8, e9, e10, e11, e12, e13, e14, e15, e16⟩ := hSw
            go_simp
            (try with_reducible rfl)
          (try simp only [Act.put, List.setIfInBounds_toArray, List.set_cons_zero, List.set_cons_succ])
          refine wpAnyH_take (i := 27) (v := ?_) (List.getElem?_toArray.trans rfl) (by kernel_rfl) (by kernel_rfl) (by kernel_rfl) (fun _ _ _ h => h) (Or.inl ⟨by rfl, ?_⟩) hHeld ?_
          rotate_left
          · intro wx hSw
            (try dsimp only at hSw)
            obtain ⟨_, e0, e1, e2, e3, e4, e5, e6, e7, e8, e9, e10, e11, e12, e13, e14, e15, e16⟩ := hSw
            go_simp
            (try with_reducible rfl)
          (try simp only [Act.put, List.setIfInBounds_toArray, List.set_cons_zero, List.set_cons_succ])
          refine wpAnyH_take (i := 28) (v := ?_) (List.getElem?_toArray.trans rfl) (by kernel_rfl) (by kernel_rfl) (by kernel_rfl) (fun _ _ _ h => h) (Or.inl ⟨by rfl, ?_⟩) hHeld ?_
          rotate_left
          · intro wx hSw
            (try dsimp only at hSw)
            obtain ⟨_, e0, e1, e2, e3, e4, e5, e6, e7, e8, e9, e10, e11, e12, e13, e14, e15, e16⟩ := hSw
            go_simp
            (try with_reducible rfl)
          (try simp only [Act.put, List.setIfInBounds_toArray, List.set_cons_zero, List.set_cons_succ])
          refine wpAnyH_take (i := 30) (v := ?_) (List.getElem?_toArray.trans rfl) (by kernel_rfl) (by kernel_rfl) (by kernel_rfl) (fun _ _ _ h => h) (Or.inl ⟨by rfl, ?_⟩) hHeld ?_
          rotate_left
          · intro wx hSw
            (try dsimp only at hSw)
            obtain ⟨_, e0, e1, e2, e3, e4, e5, e6, e7, e8, e9, e10, e11, e12, e13, e14, e15, e16⟩ := hSw
            go_simp
            (try with_reducible rfl)
          (try simp only [Act.put, List.setIfInBounds_toArray, List.set_cons_zero, List.set_cons_succ])
          refine wpAnyH_take (i := 31) (v := ?_) (List.getElem?_toArray.trans rfl) (by kernel_rfl) (by kernel_rfl) (by kernel_rfl) (fun _ _ _ h => h) (Or.inl ⟨by rfl, ?_⟩) hHeld ?_
          rotate_left
          · intro wx hSw
            (try dsimp only at hSw)
            obtain ⟨_, e0, e1, e2, e3, e4, e5, e6, e7, e8, e9, e10, e11, e12, e13, e14, e15, e16⟩ := hSw
            go_simp
            (try with_reducible rfl)
          (try simp only [Act.put, List.setIfInBounds_toArray, List.set_cons_zero, List.set_cons_succ])
          refine wpAnyH_take (i := 32) (v := ?_) (List.getElem?_toArray.trans rfl) (by kernel_rfl) (by kernel_rfl) (by kernel_rfl) (fun _ _ _ h => h) (Or.inl ⟨by rfl, ?_⟩) hHeld ?_
          rotate_left
          · intro wx hSw
            (try dsimp only at hSw)
            obtain ⟨_, e0, e1, e2, e3, e4, e5, e6, e7, e8, e9, e10, e11, e12, e13, e14, e15, e16⟩ := hSw
            go_simp
            (try with_reducible rfl)
          (try simp only [Act.put, List.setIfInBounds_toArray, List.set_cons_zero, List.set_cons_succ])
          refine wpAnyH_ready (rs := [29]) (by kernel_rfl) (by simp) ?_
          refine AllReadyH.cons (List.getElem?_toArray.trans rfl) (fun K hK => ?_) AllReadyH.nil
          go_simp
          go_at_call 20
          with_reducible refine Calls.mono (HA2.out _ hHeld.1.1.box.below) ?_
          rintro e w49 ⟨rfl, hB5⟩
          have hHeld2 := HSX.out _ ⟨hHeld.1.1.keep hB5, hHeld.1.2.trans (hB5.mono hHeld.1.2.size)⟩
          refine hK.out _ _ hHeld2 (fun _ => ?_)
          clear hK K hHeld hB5
          have hHeld := hHeld2
          clear hHeld2
          (try simp only [Act.put, List.setIfInBounds_toArray, List.set_cons_zero, List.set_cons_succ])
          refine wpAnyH_ready (rs := [33]) (by kernel_rfl) (by simp) ?_
          refine AllReadyH.cons (List.getElem?_toArray.trans rfl) (fun K hK => ?_) AllReadyH.nil
          go_simp
          go_at_call 21
          with_reducible refine Calls.mono (HB2.out _ hHeld.1.1.box.below) ?_
          rintro e w53 ⟨rfl, hB5⟩
          have hHeld2 := HSX.out _ ⟨hHeld.1.1.keep hB5, hHeld.1.2.trans (hB5.mono hHeld.1.2.size)⟩
          refine hK.out _ _ hHeld2 (fun _ => ?_)
          clear hK K hHeld hB5
          have hHeld := hHeld2
          clear hHeld2
          (try simp only [Act.put, List.setIfInBounds_toArray, List.set_cons_zero, List.set_cons_succ])
          refine wpAnyH_take (i := 34) (v := ?_) (List.getElem?_toArray.trans rfl) (by kernel_rfl) (by kernel_rfl) (by kernel_rfl) (fun _ _ _ h => h) (Or.inl ⟨by rfl, ?_⟩) hHeld ?_
          rotate_left
          · intro wx hSw
            (try dsimp only at hSw)
            obtain ⟨_, e0, e1, e2, e3, e4, e5, e6, e7, e8, e9, e10, e11, e12, e13, e14, e15, e16⟩ := hSw
            go_simp
            (try with_reducible rfl)
          (try simp only [Act.put, List.setIfInBounds_toArray, List.set_cons_zero, List.set_cons_succ])
          refine wpAnyH_take (i := 35) (v := ?_) (List.getElem?_toArray.trans rfl) (by kernel_rfl) (by kernel_rfl) (by kernel_rfl) (fun _ _ _ h => h) (Or.inl ⟨by rfl, ?_⟩) hHeld ?_
          rotate_left
          · intro wx hSw
            (try dsimp only at hSw)
            obtain ⟨_, e0, e1, e2, e3, e4, e5, e6, e7, e8, e9, e10, e11, e12, e13, e14, e15, e16⟩ := hSw
            go_simp
            (try with_reducible rfl)
          (try simp only [Act.put, List.setIfInBounds_toArray, List.set_cons_zero, List.set_cons_succ])
          refine wpAnyH_take (i := 36) (v := ?_) (List.getElem?_toArray.trans rfl) (by kernel_rfl) (by kernel_rfl) (by kernel_rfl) (fun _ _ _ h => h) (Or.inl ⟨by rfl, ?_⟩) hHeld ?_
          rotate_left
          · intro wx hSw
            (try dsimp only at hSw)
            obtain ⟨_, e0, e1, e2, e3, e4, e5, e6, e7, e8, e9, e10, e11, e12, e13, e14, e15, e16⟩ := hSw
            go_simp
            (try with_reducible rfl)
          (try simp only [Act.put, List.setIfInBounds_toArray, List.set_cons_zero, List.set_cons_succ])
          refine wpAnyH_take (i := 37) (v := ?_) (List.getElem?_toArray.trans rfl) (by kernel_rfl) (by kernel_rfl) (by kernel_rfl) (fun _ _ _ h => h) (Or.inl ⟨by rfl, ?_⟩) hHeld ?_
          rotate_left
          · intro wx hSw
            (try dsimp only at hSw)
            obtain ⟨_, e0, e1, e2, e3, e4, e5, e6, e7, e8, e9, e10, e11, e12, e13, e14, e15, e16⟩ := hSw
            go_simp
            (try with_reducible rfl)
          (try simp only [Act.put, List.setIfInBounds_toArray, List.set_cons_zero, List.set_cons_succ])
          refine wpAnyH_take (i := 38) (v := ?_) (List.getElem?_toArray.trans rfl) (by kernel_rfl) (by kernel_rfl) (by kernel_rfl) (fun _ _ _ h => h) (Or.inl ⟨by rfl, ?_⟩) hHeld ?_
          rotate_left
          · intro wx hSw
            (try dsimp only at hSw)
            obtain ⟨_, e0, e1, e2, e3, e4, e5, e6, e7, e8, e9, e10, e11, e12, e13, e14, e15, e16⟩ := hSw
            go_simp
            (try with_reducible rfl)
          (try simp only [Act.put, List.setIfInBounds_toArray, List.set_cons_zero, List.set_cons_succ])
          refine wpAnyH_take (i := 39) (v := ?_) (List.getElem?_toArray.trans rfl) (by kernel_rfl) (by kernel_rfl) (by kernel_rfl) (fun _ _ _ h => h) (Or.inl ⟨by rfl, ?_⟩) hHeld ?_
          rotate_left
          · intro wx hSw
            (try dsimp only at hSw)
            obtain ⟨_, e0, e1, e2, e3, e4, e5, e6, e7, e8, e9, e10, e11, e12, e13, e14, e15, e16⟩ := hSw
            go_simp
            (try with_reducible rfl)
          (try simp only [Act.put, List.setIfInBounds_toArray, List.set_cons_zero, List.set_cons_succ])
          refine wpAnyH_take (i := 40) (v := ?_) (List.getElem?_toArray.trans rfl) (by kernel_rfl) (by kernel_rfl) (by kernel_rfl) (fun _ _ _ h => h) (Or.inl ⟨by rfl, ?_⟩) hHeld ?_
          rotate_left
          · intro wx hSw
            (try dsimp only at hSw)
            obtain ⟨_, e0, e1, e2, e3, e4, e5, e6, e7, e8, e9, e10, e11, e12, e13, e14, e15, e16⟩ := hSw
            go_simp
            (try with_reducible rfl)
          (try simp only [Act.put, List.setIfInBounds_toArray, List.set_cons_zero, List.set_cons_succ])
          refine wpAnyH_take (i := 41) (v := ?_) (List.getElem?_toArray.trans rfl) (by kernel_rfl) (by kernel_rfl) (by kernel_rfl) (fun _ _ _ h => h) (Or.inl ⟨by rfl, ?_⟩) hHeld ?_
          rotate_left
          · intro wx hSw
            (try dsimp only at hSw)
            obtain ⟨_, e0, e1, e2, e3, e4, e5, e6, e7, e8, e9, e10, e11, e12, e13, e14, e15, e16⟩ := hSw
            go_simp
            (try with_reducible rfl)
          (try simp only [Act.put, List.setIfInBounds_toArray, List.set_cons_zero, List.set_cons_succ])
          refine wpAnyH_take (i := 43) (v := ?_) (List.getElem?_toArray.trans rfl) (by kernel_rfl) (by kernel_rfl) (by kernel_rfl) (fun _ _ _ h => h) (Or.inl ⟨by rfl, ?_⟩) hHeld ?_
          rotate_left
          · intro wx hSw
            (try dsimp only at hSw)
            obtain ⟨_, e0, e1, e2, e3, e4, e5, e6, e7, e8, e9, e10, e11, e12, e13, e14, e15, e16⟩ := hSw
            go_simp
            (try with_reducible rfl)
          (try simp only [Act.put, List.setIfInBounds_toArray, List.set_cons_zero, List.set_cons_succ])
          refine wpAnyH_take (i := 44) (v := ?_) (List.getElem?_toArray.trans rfl) (by kernel_rfl) (by kernel_rfl) (by kernel_rfl) (fun _ _ _ h => h) (Or.inl ⟨by rfl, ?_⟩) hHeld ?_
          rotate_left
          · intro wx hSw
            (try dsimp only at hSw)
            obtain ⟨_, e0, e1, e2, e3, e4, e5, e6, e7, e8, e9, e10, e11, e12, e13, e14, e15, e16⟩ := hSw
            go_simp
            (try with_reducible rfl)
          (try simp only [Act.put, List.setIfInBounds_toArray, List.set_cons_zero, List.set_cons_succ])
          refine wpAnyH_take (i := 45) (v := ?_) (List.getElem?_toArray.trans rfl) (by kernel_rfl) (by kernel_rfl) (by kernel_rfl) (fun _ _ _ h => h) (Or.inl ⟨by rfl, ?_⟩) hHeld ?_
          rotate_left
          · intro wx hSw
            (try dsimp only at hSw)
            obtain ⟨_, e0, e1, e2, e3, e4, e5, e6, e7, e8, e9, e10, e11, e12, e13, e14, e15, e16⟩ := hSw
            go_simp
            (try with_reducible rfl)
          (try simp only [Act.put, List.setIfInBounds_toArray, List.set_cons_zero, List.set_cons_succ])
          refine wpAnyH_take (i := 46) (v := ?_) (List.getElem?_toArray.trans rfl) (by kernel_rfl) (by kernel_rfl) (by kernel_rfl) (fun _ _ _ h => h) (Or.inl ⟨by rfl, ?_⟩) hHeld ?_
          rotate_left
          · intro wx hSw
            (try dsimp only at hSw)
            obtain ⟨_, e0, e1, e2, e3, e4, e5, e6, e7, e8, e9, e10, e11, e12, e13, e14, e15, e16⟩ := hSw
            go_simp
            (try with_reducible rfl)
          (try simp only [Act.put, List.setIfInBounds_toArray, List.set_cons_zero, List.set_cons_succ])
          refine wpAnyH_take (i := 47) (v := ?_) (List.getElem?_toArray.trans rfl) (by kernel_rfl) (by kernel_rfl) (by kernel_rfl) (fun _ _ _ h => h) (Or.inl ⟨by rfl, ?_⟩) hHeld ?_
          rotate_left
          · intro wx hSw
            (try dsimp only at hSw)
            obtain ⟨_, e0, e1, e2, e3, e4, e5, e6, e7, e8, e9, e10, e11, e12, e13, e14, e15, e16⟩ := hSw
            go_simp
            (try with_reducible rfl)
          (try simp only [Act.put, List.setIfInBounds_toArray, List.set_cons_zero, List.set_cons_succ])
          refine wpAnyH_ready (rs := [42]) (by kernel_rfl) (by simp) ?_
          refine AllReadyH.cons (List.getElem?_toArray.trans rfl) (fun K hK => ?_) AllReadyH.nil
          go_simp
          go_at_call 22
          with_reducible refine Calls.mono (HA3.out _ hHeld.1.1.box.below) ?_
          rintro e w62 ⟨rfl, hB5⟩
          have hHeld2 := HSX.out _ ⟨hHeld.1.1.keep hB5, hHeld.1.2.trans (hB5.mono hHeld.1.2.size)⟩
          refine hK.out _ _ hHeld2 (fun _ => ?_)
          clear hK K hHeld hB5
          have hHeld := hHeld2
          clear hHeld2
          (try simp only [Act.put, List.setIfInBounds_toArray, List.set_cons_zero, List.set_cons_succ])
          refine wpAnyH_ready (rs := [48]) (by kernel_rfl) (by simp) ?_
          refine AllReadyH.cons (List.getElem?_toArray.trans rfl) (fun K hK => ?_) AllReadyH.nil
          go_simp
          go_at_call 23
          with_reducible refine Calls.mono (HB3.out _ hHeld.1.1.box.below) ?_
          rintro e w68 ⟨rfl, hB5⟩
          have hHeld2 := HSX.out _ ⟨hHeld.1.1.keep hB5, hHeld.1.2.trans (hB5.mono hHeld.1.2.size)⟩
          refine hK.out _ _ hHeld2 (fun _ => ?_)
          clear hK K hHeld hB5
          have hHeld := hHeld2
          clear hHeld2
          (try simp only [Act.put, List.setIfInBounds_toArray, List.set_cons_zero, List.set_cons_succ])
          refine wpAnyH_take (i := 49) (v := ?_) (List.getElem?_toArray.trans rfl) (by kernel_rfl) (by kernel_rfl) (by kernel_rfl) (fun _ _ _ h => h) (Or.inl ⟨by rfl, ?_⟩) hHeld ?_
          rotate_left
          · intro wx hSw
            (try dsimp only at hSw)
            obtain ⟨_, e0, e1, e2, e3, e4, e5, e6, e7, e8, e9, e10, e11, e12, e13, e14, e15, e16⟩ := hSw
            go_simp
            (try with_reducible rfl)
          (try simp only [Act.put, List.setIfInBounds_toArray, List.set_cons_zero, List.set_cons_succ])
          refine wpAnyH_take (i := 50) (v := ?_) (List.getElem?_toArray.trans rfl) (by kernel_rfl) (by kernel_rfl) (by kernel_rfl) (fun _ _ _ h => h) (Or.inl ⟨by rfl, ?_⟩) hHeld ?_
          rotate_left
          · intro wx hSw
            (try dsimp only at hSw)
            obtain ⟨_, e0, e1, e2, e3, e4, e5, e6, e7, e8, e9, e10, e11, e12, e13, e14, e15, e16⟩ := hSw
            go_simp
            (try with_reducible rfl)
          (try simp only [Act.put, List.setIfInBounds_toArray, List.set_cons_zero, List.set_cons_succ])
          refine wpAnyH_take (i := 51) (v := ?_) (List.getElem?_toArray.trans rfl) (by kernel_rfl) (by kernel_rfl) (by kernel_rfl) (fun _ _ _ h => h) (Or.inl ⟨by rfl, ?_⟩) hHeld ?_
          rotate_left
          · intro wx hSw
            (try dsimp only at hSw)
            obtain ⟨_, e0, e1, e2, e3, e4, e5, e6, e7, e8, e9, e10, e11, e12, e13, e14, e15, e16⟩ := hSw
            go_simp
            (try with_reducible rfl)
          (try simp only [Act.put, List.setIfInBounds_toArray, List.set_cons_zero, List.set_cons_succ])
          refine wpAnyH_done (by kernel_rfl) ?_ _
          have HFB := Lib.hid hHeld.1.1.box.below
          clear hHeld HSX
          go_wp2_with fail
          go_ret
          exact ⟨rfl, HFB.out⟩
end Go.Proofs.YtcgpflkaejbkhaaGreatDoor
