/- The walk of SchemaPlays. -/
import Derived.Test.YtcgpflkaejbkhaaGreatDoorKJ
import Derived.Test.YtcgpflkaejbkhaaGreatDoorJP
import Derived.Test.YtcgpflkaejbkhaaGreatDoorJU
import Derived.Deep.RegionLaw
import Derived.Deep.RegionHeld3
import Derived.BigQuiet
import Derived.IntWalk
namespace Go.Proofs.YtcgpflkaejbkhaaGreatDoor
open Go.RowKit

theorem putT_ok {T : List PT} {t : PT} (h : errT T t = 0) (hT : T.length ≤ 8) : (putT T t).length ≤ 8 := by
  unfold errT at h
  unfold putT
  split at h
  · exact absurd h (by decide)
  · cases hf : findN PT.name T t.name with
    | some k => dsimp only; rw [List.length_set]; exact hT
    | none =>
      rw [hf] at h
      dsimp only
      rw [sortG_len, List.length_append]
      by_cases h8 : 8 ≤ T.length
      · rw [if_pos (by simp [h8])] at h
        exact absurd h (by decide)
      · simp; omega
theorem putX_ok {T : List PT} {X : List PX} {x : PX} (h : errX T X x = 0) (hX : X.length ≤ 12) : (putX X x).length ≤ 12 := by
  unfold errX at h
  unfold putX
  split at h
  · exact absurd h (by decide)
  · split at h
    · exact absurd h (by decide)
    · cases hf : findN PX.name X x.name with
      | some k => dsimp only; rw [List.length_set]; exact hX
      | none =>
        rw [hf] at h
        dsimp only
        rw [sortG_len, List.length_append]
        by_cases h12 : 12 ≤ X.length
        · rw [if_pos (by simp [h12])] at h
          exact absurd h (by decide)
        · simp; omega
theorem dropT_le (T : List PT) (nm : ByteArray) : (dropT T nm).length ≤ T.length := by
  unfold dropT
  split
  · exact List.length_eraseIdx_le _ _
  · exact Nat.le_refl _
theorem dropX_le (X : List PX) (nm : ByteArray) : (dropX X nm).length ≤ X.length := by
  unfold dropX
  split
  · exact List.length_eraseIdx_le _ _
  · exact Nat.le_refl _
theorem op_ok {kind : Int} {T : List PT} {X : List PX} {t : PT} {x : PX} {nm : ByteArray} (h : opErr kind T X t x nm = 0) (hT : T.length ≤ 8) (hX : X.length ≤ 12) : (opT kind T t nm).length ≤ 8 ∧ (opX kind X x nm).length ≤ 12 := by
  unfold opErr at h
  unfold opT opX
  by_cases h0 : opR kind = 0
  · rw [if_pos h0] at h
    rw [if_pos h0, if_pos h0]
    exact ⟨putT_ok h hT, hX⟩
  · rw [if_neg h0] at h
    rw [if_neg h0, if_neg h0]
    by_cases h1 : opR kind = 1
    · rw [if_pos h1] at h
      rw [if_pos h1, if_pos h1]
      exact ⟨hT, putX_ok h hX⟩
    · rw [if_neg h1, if_neg h1]
      by_cases h2 : opR kind = 2
      · rw [if_pos h2, if_pos h2]
        exact ⟨Nat.le_trans (dropT_le _ _) hT, Nat.le_trans (List.length_filter_le _ _) hX⟩
      · rw [if_neg h2, if_neg h2]
        exact ⟨hT, Nat.le_trans (dropX_le _ _) hX⟩
theorem op_any {kind : Int} {T : List PT} {X : List PX} {t : PT} {x : PX} {nm : ByteArray} (hT : T.length ≤ 8) (hX : X.length ≤ 12) : (opT kind T t nm).length ≤ 9 ∧ (opX kind X x nm).length ≤ 13 := by
  unfold opT opX
  have e1 : (putT T t).length ≤ 9 := by
    unfold putT
    split
    · rw [List.length_set]; omega
    · rw [sortG_len, List.length_append]; simp; omega
  have e2 : (putX X x).length ≤ 13 := by
    unfold putX
    split
    · rw [List.length_set]; omega
    · rw [sortG_len, List.length_append]; simp; omega
  have e3 := dropT_le T nm
  have e4 := dropX_le X nm
  have e5 : (dropTX X nm).length ≤ X.length := List.length_filter_le _ _
  constructor
  · split
    · exact e1
    · split
      · omega
      · split <;> omega
  · split
    · omega
    · split
      · exact e2
      · split <;> omega
theorem readP_nil (W : World) : ReadP W none none [] [] := ⟨⟨CellsAt.nil_at _ _ _, (fun p hp => by cases hp)⟩, ⟨CellsAt.nil_at _ _ _, (fun p hp => by cases hp)⟩, (fun p hp => by cases hp), (fun p hp => by cases hp)⟩
/-- the least place that is still wanted -/
def wantF (NL : List Nat) : Nat → Nat
  | 0 => 0
  | j + 1 => NL.getD j 0 + 1
theorem want_le {NL : List Nat} {mx : Nat} {p : Nat → Bool} (h : NL = (List.range mx).filter p) (hm : mx ≤ 12) {j z : Nat} (hz : NL[j]? = some z) : wantF NL j ≤ z ∧ wantF NL j ≤ 13 := by
  have hs : NL.Pairwise (· < ·) := by rw [h]; exact List.Pairwise.filter _ List.pairwise_lt_range
  have hlt : ∀ y ∈ NL, y < mx := fun y hy => by
    rw [h, List.mem_filter, List.mem_range] at hy
    exact hy.1
  cases j with
  | zero => exact ⟨Nat.zero_le _, Nat.zero_le _⟩
  | succ j =>
    obtain ⟨h1, h2⟩ := List.getElem?_eq_some_iff.1 hz
    have h3 : NL[j]'(by omega) < NL[j + 1] := (List.pairwise_iff_getElem.1 hs) j (j + 1) (by omega) h1 (Nat.lt_succ_self j)
    have h4 := hlt z (List.mem_of_getElem? hz)
    show NL.getD j 0 + 1 ≤ z ∧ NL.getD j 0 + 1 ≤ 13
    rw [List.getD_eq_getElem?_getD, List.getElem?_eq_getElem (by omega : j < NL.length)]
    simp only [Option.getD_some]
    omega
/-- two schemas that are read, and read the same -/
def PlayR (W : World) (A ia A2 ia2 : Option Addr) (n mx : Nat) (ts : List (Tab × List Col)) (xs : List (Idx × List Int)) (ts2 : List (Tab × List Col)) (xs2 : List (Idx × List Int)) : Prop := ReadP W A ia ts xs ∧ ReadP W A2 ia2 ts2 xs2 ∧ ts.length = n ∧ xs.length = mx ∧ ts2.map ptOf = ts.map ptOf ∧ xs2.map pxOf = xs.map pxOf ∧ n ≤ 8 ∧ mx ≤ 12
theorem PlayR.len2 {W : World} {A ia A2 ia2 : Option Addr} {n mx : Nat} {ts : List (Tab × List Col)} {xs : List (Idx × List Int)} {ts2 : List (Tab × List Col)} {xs2 : List (Idx × List Int)} (h : PlayR W A ia A2 ia2 n mx ts xs ts2 xs2) : ts2.length = n ∧ xs2.length = mx := by
  obtain ⟨_, _, h1, h2, h3, h4, _⟩ := h
  have e1 := congrArg List.length h3
  have e2 := congrArg List.length h4
  rw [List.length_map, List.length_map] at e1 e2
  exact ⟨e1.trans h1, e2.trans h2⟩
theorem PlayR.keep {W W' : World} {A ia A2 ia2 : Option Addr} {n mx : Nat} {ts : List (Tab × List Col)} {xs : List (Idx × List Int)} {ts2 : List (Tab × List Col)} {xs2 : List (Idx × List Int)} (h : PlayR W A ia A2 ia2 n mx ts xs ts2 xs2) (hB : Below W.heap.size W W') : PlayR W' A ia A2 ia2 n mx ts xs ts2 xs2 := ⟨h.1.keep hB, h.2.1.keep hB, h.2.2⟩
/-- the boxes of the two schemas -/
structure PlayK (w : World) (bs : Nat) (A : Option Addr) (n c : Nat) (ia : Option Addr) (mx ic : Nat) (A2 : Option Addr) (c2 : Nat) (ia2 : Option Addr) (ic2 : Nat) (W : World) : Prop where
  below : Below w.heap.size w W
  s : W.heap[bs]? = some (.cells #[.slice A n c, .slice ia mx ic] 36)
  x : W.heap[bs + 1]? = some (.cells #[.slice A2 n c2, .slice ia2 mx ic2] 36)
  far : w.heap.size ≤ bs
theorem PlayK.keep {w : World} {bs : Nat} {A : Option Addr} {n c : Nat} {ia : Option Addr} {mx ic : Nat} {A2 : Option Addr} {c2 : Nat} {ia2 : Option Addr} {ic2 : Nat} {W W' : World} (h : PlayK w bs A n c ia mx ic A2 c2 ia2 ic2 W) (hB : Below W.heap.size W W') : PlayK w bs A n c ia mx ic A2 c2 ia2 ic2 W' :=
  ⟨h.below.trans (hB.mono h.below.size), (hB.block _ (heap_lt h.s)).trans h.s, (hB.block _ (heap_lt h.x)).trans h.x, h.far⟩
theorem box_two {W : World} {b : Nat} {p1 p4 : Option Addr} {p2 p3 p5 p6 : Nat} (hb : W.heap[b]? = some (.cells #[.slice p1 p2 p3, .slice p4 p5 p6] 36)) (r1 : Option Addr) (r2 r3 : Nat) (r4 : Option Addr) (r5 r6 : Nat) : ((W.setCell ⟨b, 0, none⟩ (.slice r1 r2 r3)).setCell ⟨b, 1, none⟩ (.slice r4 r5 r6)).heap[b]? = some (.cells #[.slice r1 r2 r3, .slice r4 r5 r6] 36) := by
  have h2 : (W.setCell ⟨b, 0, none⟩ (.slice r1 r2 r3)).heap[b]? = some (.cells #[.slice r1 r2 r3, .slice p4 p5 p6] 36) := by
    rw [setCell_eq_setRow W b 0 _ 36 _ _ hb]
    exact setRow_heap W _ _ _ 36 _ hb
  rw [setCell_eq_setRow _ b 1 _ 36 _ _ h2]
  exact setRow_heap _ _ _ _ 36 _ h2
/-- both boxes are set, in either order -/
theorem PlayK.set {w : World} {bs : Nat} {A : Option Addr} {n c : Nat} {ia : Option Addr} {mx ic : Nat} {A2 : Option Addr} {c2 : Nat} {ia2 : Option Addr} {ic2 : Nat} {W : World} (h : PlayK w bs A n c ia mx ic A2 c2 ia2 ic2 W) (B : Option Addr) (bn bc : Nat) (ib : Option Addr) (bm bi : Nat) (B2 : Option Addr) (bc2 : Nat) (ib2 : Option Addr) (bi2 : Nat) :
    PlayK w bs B bn bc ib bm bi B2 bc2 ib2 bi2 ((((W.setCell ⟨bs, 0, none⟩ (.slice B bn bc)).setCell ⟨bs, 1, none⟩ (.slice ib bm bi)).setCell ⟨bs + 1, 0, none⟩ (.slice B2 bn bc2)).setCell ⟨bs + 1, 1, none⟩ (.slice ib2 bm bi2)) ∧
    PlayK w bs B bn bc ib bm bi B2 bc2 ib2 bi2 ((((W.setCell ⟨bs + 1, 0, none⟩ (.slice B2 bn bc2)).setCell ⟨bs + 1, 1, none⟩ (.slice ib2 bm bi2)).setCell ⟨bs, 0, none⟩ (.slice B bn bc)).setCell ⟨bs, 1, none⟩ (.slice ib bm bi)) := by
  have hf := h.far
  refine ⟨⟨?_, ?_, ?_, hf⟩, ⟨?_, ?_, ?_, hf⟩⟩
  · exact (((h.below.setCell (p := ⟨bs, 0, none⟩) hf _).setCell (p := ⟨bs, 1, none⟩) hf _).setCell (p := ⟨bs + 1, 0, none⟩) (Nat.le_succ_of_le hf) _).setCell (p := ⟨bs + 1, 1, none⟩) (Nat.le_succ_of_le hf) _
  · exact far2 (box_two h.s _ _ _ _ _ _) (by omega)
  · exact box_two (far2 h.x (by omega)) _ _ _ _ _ _
  · exact (((h.below.setCell (p := ⟨bs + 1, 0, none⟩) (Nat.le_succ_of_le hf) _).setCell (p := ⟨bs + 1, 1, none⟩) (Nat.le_succ_of_le hf) _).setCell (p := ⟨bs, 0, none⟩) hf _).setCell (p := ⟨bs, 1, none⟩) hf _
  · exact box_two (far2 h.s (by omega)) _ _ _ _ _ _
  · exact far2 (box_two h.x _ _ _ _ _ _) (by omega)
theorem PlayR.set {W : World} {A ia A2 ia2 : Option Addr} {n mx : Nat} {ts : List (Tab × List Col)} {xs : List (Idx × List Int)} {ts2 : List (Tab × List Col)} {xs2 : List (Idx × List Int)} (h : PlayR W A ia A2 ia2 n mx ts xs ts2 xs2) {b b' : Nat} {p1 p4 q1 q4 : Option Addr} {p2 p3 p5 p6 q2 q3 q5 q6 : Nat} (hne : b' ≠ b) (hb : W.heap[b]? = some (.cells #[.slice p1 p2 p3, .slice p4 p5 p6] 36)) (hb' : W.heap[b']? = some (.cells #[.slice q1 q2 q3, .slice q4 q5 q6] 36)) (r1 : Option Addr) (r2 r3 : Nat) (v : Value) (r4 : Option Addr) (r5 r6 : Nat) (v' : Value) :
    PlayR ((((W.setCell ⟨b, 0, none⟩ (.slice r1 r2 r3)).setCell ⟨b, 1, none⟩ v).setCell ⟨b', 0, none⟩ (.slice r4 r5 r6)).setCell ⟨b', 1, none⟩ v') A ia A2 ia2 n mx ts xs ts2 xs2 :=
  ⟨(h.1.setBox hb r1 r2 r3 v).setBox (far2 hb' hne) r4 r5 r6 v', (h.2.1.setBox hb r1 r2 r3 v).setBox (far2 hb' hne) r4 r5 r6 v', h.2.2⟩
/-- what do answers, as the law goes on with it -/
def PlayP (W : World) (e : Ending) (w' : World) : Prop := ∃ (A ia A2 ia2 : Option Addr) (n mx c ic c2 ic2 : Nat) (ts : List (Tab × List Col)) (xs : List (Idx × List Int)) (ts2 : List (Tab × List Col)) (xs2 : List (Idx × List Int)), e = .returned (.tuple #[.agg #[.slice A n c, .slice ia mx ic], .agg #[.slice A2 n c2, .slice ia2 mx ic2], .bool true]) ∧ Below W.heap.size W w' ∧ PlayR w' A ia A2 ia2 n mx ts xs ts2 xs2
theorem play_do (m : Int) (gt : Nat → Nat) (ht : ∀ j, j < 23 → finD (Ieee.double.read (gt j)) = true) (A : Option Addr) (n c : Nat) (ia : Option Addr) (mx ic : Nat) (A2 : Option Addr) (c2 : Nat) (ia2 : Option Addr) (ic2 : Nat) (ts : List (Tab × List Col)) (xs : List (Idx × List Int)) (ts2 : List (Tab × List Col)) (xs2 : List (Idx × List Int)) (o : Opv) (W : World) (hG : Glob m gt W) (h : PlayR W A ia A2 ia2 n mx ts xs ts2 xs2) (hO : ReadO W o) (h1 : o.cl.length ≤ 20) (h2 : o.xl.length ≤ 20) :
    Calls Tryz.prog 9 #[.agg #[.slice A n c, .slice ia mx ic], .agg #[.slice A2 n c2, .slice ia2 mx ic2], .agg #[.int .i64 o.kind, .string o.tab.name, .slice o.tab.ca o.tab.cn o.tab.cc, .int .i64 o.tab.root, .int .i64 o.tab.next, .int .i64 o.tab.rows, .string o.idx.name, .string o.idx.table, .slice o.idx.pa o.idx.pn o.idx.pc, .int .i64 o.idx.state, .int .i64 o.idx.root, .int .i64 o.idx.cursor, .string o.nm]] W (PlayP W) := by
  obtain ⟨l1, l2⟩ := h.len2
  have h0 := h
  obtain ⟨r1, r2, e1, e2, e3, e4, h8, h12⟩ := h
  obtain ⟨⟨a1, a2, a3, a4⟩, b1, b2, b3, b4⟩ := hO
  have hl := op_any (kind := o.kind) (t := ptOf (o.tab, o.cl)) (x := pxOf (o.idx, o.xl)) (nm := o.nm) (T := ts.map ptOf) (X := xs.map pxOf) (by rw [List.length_map]; omega) (by rw [List.length_map]; omega)
  have hd := do_all m gt ht A c ts ia ic xs A2 c2 ts2 ia2 ic2 xs2 o.kind o.tab o.cl o.idx o.xl o.nm W hG ⟨r1.1, r1.2.1, by omega, by omega, r1.2.2⟩ ⟨r2.1, r2.2.1, by omega, by omega, r2.2.2⟩ e3 e4 ⟨a1, a2, a3, a4, by omega⟩ ⟨b1, b2, b3, b4, by omega⟩ (by omega) (by omega)
  rw [e1, e2, l1, l2] at hd
  refine hd.mono fun e w' hp => ?_
  obtain ⟨hB, hp⟩ := hp
  rcases hp with ⟨_, rfl⟩ | ⟨h0', A', ia', A2', ia2', c', ic', c2', ic2', hh, ts', xs', ts2', xs2', rfl, hS, hR, f1, f2, f3, f4⟩
  · exact ⟨A, ia, A2, ia2, n, mx, c, ic, c2, ic2, ts, xs, ts2, xs2, rfl, hB, h0.keep hB⟩
  · obtain ⟨g1, g2⟩ := op_ok h0' (by rw [List.length_map]; omega) (by rw [List.length_map]; omega)
    rw [← f1, List.length_map] at g1
    rw [← f2, List.length_map] at g2
    have q1 : ts2'.length = ts'.length := by have := congrArg List.length (f3.trans f1.symm); rwa [List.length_map, List.length_map] at this
    have q2 : xs2'.length = xs'.length := by have := congrArg List.length (f4.trans f2.symm); rwa [List.length_map, List.length_map] at this
    rw [q1, q2]
    exact ⟨A', ia', A2', ia2', ts'.length, xs'.length, c', ic', c2', ic2', ts', xs', ts2', xs2', rfl, hB, hS.readP rfl rfl (by omega) (by omega), hR, rfl, rfl, f3.trans f1.symm, f4.trans f2.symm, g1, g2⟩
set_option maxRecDepth 100000 in
set_option maxHeartbeats 16000000 in
theorem plays_any (m : Int) (gt : Nat → Nat) (ht : ∀ j, j < 23 → finD (Ieee.double.read (gt j)) = true) (B : Option Addr) (cB : Nat) (l : List Opv) (w : World) (hG : Glob m gt w) (hL : OpsAt w B l) : Calls Tryz.prog 4 #[.slice B l.length cB] w (RetT w) := by
  have HLV := Lib.hid (show ∀ W, Below w.heap.size w W → Calls Tryz.prog 7 #[] W (RetT W) from fun W hB => lives_any m gt ht W (hG.keep hB))
  have HFT := Lib.hid (show ∀ W, Below w.heap.size w W → Calls Tryz.prog 8 #[.slice B l.length cB] W (FitsP W l) from fun W hB => fits_any B cB l W ⟨CellsAt.keep hB hL.1, fun o ho => (hL.2 o ho).keep hB⟩)
  have HDO := Lib.hid (show ∀ (W : World) (A : Option Addr) (n c : Nat) (ia : Option Addr) (mx ic : Nat) (A2 : Option Addr) (c2 : Nat) (ia2 : Option Addr) (ic2 : Nat) (ts : List (Tab × List Col)) (xs : List (Idx × List Int)) (ts2 : List (Tab × List Col)) (xs2 : List (Idx × List Int)) (o : Opv), Below w.heap.size w W → PlayR W A ia A2 ia2 n mx ts xs ts2 xs2 → ReadO W o → o.cl.length ≤ 20 → o.xl.length ≤ 20 → Calls Tryz.prog 9 #[.agg #[.slice A n c, .slice ia mx ic], .agg #[.slice A2 n c2, .slice ia2 mx ic2], .agg #[.int .i64 o.kind, .string o.tab.name, .slice o.tab.ca o.tab.cn o.tab.cc, .int .i64 o.tab.root, .int .i64 o.tab.next, .int .i64 o.tab.rows, .string o.idx.name, .string o.idx.table, .slice o.idx.pa o.idx.pn o.idx.pc, .int .i64 o.idx.state, .int .i64 o.idx.root, .int .i64 o.idx.cursor, .string o.nm]] W (PlayP W) from fun W A n c ia mx ic A2 c2 ia2 ic2 ts xs ts2 xs2 o hB h1 h2 h3 h4 => play_do m gt ht A n c ia mx ic A2 c2 ia2 ic2 ts xs ts2 xs2 o W (hG.keep hB) h1 h2 h3 h4)
  have HL := Lib.hid hL
  obtain ⟨cnt, hn⟩ : ∃ n, n = l.length := ⟨_, rfl⟩
  have HN := Lib.hid hn
  rw [← hn] at HFT ⊢
  clear hG ht hL hn
  go_enter Tryz.func4, Tryz.ntmps4
  go_wp2_with (first
    | (go_at_call 7; first
       | (with_reducible refine (HLV.out _ HBV.out).mono ?_
          rintro e w9 ⟨rfl, hB9⟩
          have HB9 := Lib.hid (HBV.out.trans (hB9.mono HBV.out.size))
          clear hB9)
       | (with_reducible refine (HLV.out _ (Below.refl _ _)).mono ?_
          rintro e w1 ⟨rfl, hB1⟩
          have HB1 := Lib.hid hB1
          clear hB1))
    | (go_at_call 8; (with_reducible refine (HFT.out _ HB1.out).mono ?_); rintro e w2 ⟨r, rfl, hr, hB2⟩
       have HBV := Lib.hid (HB1.out.trans (hB2.mono HB1.out.size))
       have HR2 := Lib.hid hr
       clear hB2 hr
       cases r)
    | fail)
  · go_ret
    exact ⟨rfl, HB9.out⟩
  have HSZ := Lib.hid (show cnt ≤ 60 ∧ ∀ o ∈ l, o.cl.length ≤ 20 ∧ o.xl.length ≤ 20 from by
    have h2 := HR2.out (by first | rfl | trivial)
    rw [← HN.out] at h2
    exact h2)
  have hc60 := HSZ.out.1
  clear HR2
  obtain ⟨bs, hbs⟩ : ∃ bs, bs = w2.heap.size := ⟨_, rfl⟩
  have HBS := Lib.hid hbs
  rw [← hbs]
  have HK0 := Lib.hid (show PlayK w bs none 0 0 none 0 0 none 0 none 0 ((w2.alloc (.cells #[.slice none 0 0, .slice none 0 0] 36)).alloc (.cells #[.slice none 0 0, .slice none 0 0] 36)) from by
    rw [hbs]
    refine ⟨(HBV.out.alloc HBV.out.size _).alloc (by have := HBV.out.size; simp; omega) _, ?_, ?_, HBV.out.size⟩
    · rw [heap_alloc_old _ _ (by simp)]; exact heap_alloc_new w2 _
    · have := heap_alloc_new (w2.alloc (.cells #[.slice none 0 0, .slice none 0 0] 36)) (.cells #[.slice none 0 0, .slice none 0 0] 36)
      rwa [World.size_alloc] at this)
  have HR0 := Lib.hid (show ∀ W : World, PlayR W none none none none 0 0 [] [] [] [] from fun W => ⟨readP_nil W, readP_nil W, rfl, rfl, rfl, rfl, Nat.zero_le _, Nat.zero_le _⟩)
  clear hbs
  go_loopw [23] (fun i wr => ∃ (k : Nat) (A ia A2 ia2 : Option Addr) (n mx c ic c2 ic2 : Nat) (ts : List (Tab × List Col)) (xs : List (Idx × List Int)) (ts2 : List (Tab × List Col)) (xs2 : List (Idx × List Int)), k ≤ cnt ∧ i = .int .i64 k ∧ Hid (PlayK w bs A n c ia mx ic A2 c2 ia2 ic2 wr) ∧ Hid (PlayR wr A ia A2 ia2 n mx ts xs ts2 xs2)) (fun i _ => cnt - (intOf i).toNat)
  case atStart => exact ⟨0, none, none, none, none, 0, 0, 0, 0, 0, 0, [], [], [], [], Nat.zero_le _, rfl, HK0, Lib.hid (HR0.out _)⟩
  case round =>
    obtain ⟨k, A, ia, A2, ia2, n, mx, c, ic, c2, ic2, ts, xs, ts2, xs2, hk, rfl, HK, HR⟩ := hrel
    obtain ⟨wo, rfl⟩ : ∃ wo : World, wo = wr := ⟨_, rfl⟩
    by_cases hkn : k < cnt
    · obtain ⟨o, hx⟩ : ∃ x, l[k]? = some x := ⟨_, List.getElem?_eq_getElem (by have := HN.out; omega)⟩
      have hkn2 : ((k : Int) < (cnt : Int)) = True := eq_true (by omega)
      obtain ⟨b, off, rfl, HC⟩ := HL.out.cell hx
      have HRO := Lib.hid (HL.out.2 o (List.mem_of_getElem? hx))
      have HSO := Lib.hid (HSZ.out.2 o (List.mem_of_getElem? hx))
      have HD1 := Lib.hid (fun W (A : Option Addr) (n c : Nat) (ia : Option Addr) (mx ic : Nat) (A2 : Option Addr) (c2 : Nat) (ia2 : Option Addr) (ic2 : Nat) ts xs ts2 xs2 hB h1 => HDO.out W A n c ia mx ic A2 c2 ia2 ic2 ts xs ts2 xs2 o hB h1 (HRO.out.keep hB) HSO.out.1 HSO.out.2)
      clear hx
      obtain ⟨kk, ⟨tn, ta, tl, tc, tr, tx, tw⟩, cl, ⟨un, ut, ua, ul, uc, us, ur, ux⟩, xl, nm⟩ := o
      dsimp only at HD1
      have k0 : wo.cell? ⟨b, off + k * 13, none⟩ = some (.int .i64 kk) := HC.out _ HK.out.below 0 _ rfl
      have k1 : wo.cell? ⟨b, off + k * 13 + 1, none⟩ = some (.string tn) := HC.out _ HK.out.below 1 _ rfl
      have k2 : wo.cell? ⟨b, off + k * 13 + 2, none⟩ = some (.slice ta tl tc) := HC.out _ HK.out.below 2 _ rfl
      have k3 : wo.cell? ⟨b, off + k * 13 + 3, none⟩ = some (.int .i64 tr) := HC.out _ HK.out.below 3 _ rfl
      have k4 : wo.cell? ⟨b, off + k * 13 + 4, none⟩ = some (.int .i64 tx) := HC.out _ HK.out.below 4 _ rfl
      have k5 : wo.cell? ⟨b, off + k * 13 + 5, none⟩ = some (.int .i64 tw) := HC.out _ HK.out.below 5 _ rfl
      have k6 : wo.cell? ⟨b, off + k * 13 + 6, none⟩ = some (.string un) := HC.out _ HK.out.below 6 _ rfl
      have k7 : wo.cell? ⟨b, off + k * 13 + 7, none⟩ = some (.string ut) := HC.out _ HK.out.below 7 _ rfl
      have k8 : wo.cell? ⟨b, off + k * 13 + 8, none⟩ = some (.slice ua ul uc) := HC.out _ HK.out.below 8 _ rfl
      have k9 : wo.cell? ⟨b, off + k * 13 + 9, none⟩ = some (.int .i64 us) := HC.out _ HK.out.below 9 _ rfl
      have k10 : wo.cell? ⟨b, off + k * 13 + 10, none⟩ = some (.int .i64 ur) := HC.out _ HK.out.below 10 _ rfl
      have k11 : wo.cell? ⟨b, off + k * 13 + 11, none⟩ = some (.int .i64 ux) := HC.out _ HK.out.below 11 _ rfl
      have k12 : wo.cell? ⟨b, off + k * 13 + 12, none⟩ = some (.string nm) := HC.out _ HK.out.below 12 _ rfl
      have HK1 := Lib.hid (HK.out.keep (below1 wo (.cells #[.int .i64 kk, .string tn, .slice ta tl tc, .int .i64 tr, .int .i64 tx, .int .i64 tw, .string un, .string ut, .slice ua ul uc, .int .i64 us, .int .i64 ur, .int .i64 ux, .string nm] 30)))
      have HR1 := Lib.hid (HR.out.keep (below1 wo (.cells #[.int .i64 kk, .string tn, .slice ta tl tc, .int .i64 tr, .int .i64 tx, .int .i64 tw, .string un, .string ut, .slice ua ul uc, .int .i64 us, .int .i64 ur, .int .i64 ux, .string nm] 30)))
      have HO1 := Lib.hid (show (wo.alloc (.cells #[.int .i64 kk, .string tn, .slice ta tl tc, .int .i64 tr, .int .i64 tx, .int .i64 tw, .string un, .string ut, .slice ua ul uc, .int .i64 us, .int .i64 ur, .int .i64 ux, .string nm] 30)).heap[wo.heap.size]? = some (.cells #[.int .i64 kk, .string tn, .slice ta tl tc, .int .i64 tr, .int .i64 tx, .int .i64 tw, .string un, .string ut, .slice ua ul uc, .int .i64 us, .int .i64 ur, .int .i64 ux, .string nm] 30) from heap_alloc_new wo _)
      have s0 := cell_of_row _ _ 0 _ _ _ HK1.out.s
      have s1 := cell_of_row _ _ 1 _ _ _ HK1.out.s
      have x0 := cell_of_row _ _ 0 _ _ _ HK1.out.x
      have x1 := cell_of_row _ _ 1 _ _ _ HK1.out.x
      go_wp2_with (first
        | (go_at_call 9; (with_reducible refine (HD1.out _ _ _ _ _ _ _ _ _ _ _ _ _ _ _ HK1.out.below HR1.out).mono ?_); rintro e w5 ⟨A', ia', A2', ia2', n', mx', c', ic', c2', ic2', ts', xs', ts2', xs2', rfl, hB5, hR5⟩
           have HK5 := Lib.hid (HK1.out.keep hB5)
           have HR5 := Lib.hid hR5
           have HO5 := Lib.hid ((hB5.block _ (heap_lt HO1.out)).trans HO1.out)
           clear hB5 hR5 s0 s1 x0 x1 k0 k1 k2 k3 k4 k5 k6 k7 k8 k9 k10 k11 k12)
        | fail)
      obtain ⟨w6, hw6⟩ : ∃ w6, w6 = (w5.alloc (.cells #[.slice A' n' c', .slice ia' mx' ic'] 36)).alloc (.cells #[.slice A2' n' c2', .slice ia2' mx' ic2'] 36) := ⟨_, rfl⟩
      have HB6 := Lib.hid (show Below w5.heap.size w5 w6 by rw [hw6]; exact (below1 w5 _).alloc (by simp) _)
      have HV1 := Lib.hid (show w6.heap[w5.heap.size]? = some (.cells #[.slice A' n' c', .slice ia' mx' ic'] 36) by rw [hw6, heap_alloc_old _ _ (by simp)]; exact heap_alloc_new w5 _)
      have HV2 := Lib.hid (show w6.heap[w5.heap.size + 1]? = some (.cells #[.slice A2' n' c2', .slice ia2' mx' ic2'] 36) by
        rw [hw6]
        have := heap_alloc_new (w5.alloc (.cells #[.slice A' n' c', .slice ia' mx' ic'] 36)) (.cells #[.slice A2' n' c2', .slice ia2' mx' ic2'] 36)
        rwa [World.size_alloc] at this)
      rw [← hw6]
      clear hw6
      have HK6 := Lib.hid (HK5.out.keep HB6.out)
      have HR6 := Lib.hid (HR5.out.keep HB6.out)
      have HO6 := Lib.hid ((HB6.out.block _ (heap_lt HO5.out)).trans HO5.out)
      have t0 := cell_of_row w6.drew _ 0 _ _ _ HV1.out
      have t1 := cell_of_row w6.drew _ 1 _ _ _ HV1.out
      have y0 := cell_of_row w6.drew _ 0 _ _ _ HV2.out
      have y1 := cell_of_row w6.drew _ 1 _ _ _ HV2.out
      have tt0 := cell_of_row w6 _ 0 _ _ _ HV1.out
      have tt1 := cell_of_row w6 _ 1 _ _ _ HV1.out
      have yy0 := cell_of_row w6 _ 0 _ _ _ HV2.out
      have yy1 := cell_of_row w6 _ 1 _ _ _ HV2.out
      have s0 := cell_of_row w6.drew _ 0 _ _ _ HK6.out.s
      have s1 := cell_of_row w6.drew _ 1 _ _ _ HK6.out.s
      have x0 := cell_of_row w6.drew _ 0 _ _ _ HK6.out.x
      have x1 := cell_of_row w6.drew _ 1 _ _ _ HK6.out.x
      have ss0 := cell_of_row w6 _ 0 _ _ _ HK6.out.s
      have ss1 := cell_of_row w6 _ 1 _ _ _ HK6.out.s
      have xx0 := cell_of_row w6 _ 0 _ _ _ HK6.out.x
      have xx1 := cell_of_row w6 _ 1 _ _ _ HK6.out.x
      have zs0 := frozen_of_row w6 _ 0 _ _ HK6.out.s
      have zs1 := frozen_of_row w6 _ 1 _ _ HK6.out.s
      have zx0 := frozen_of_row w6 _ 0 _ _ HK6.out.x
      have zx1 := frozen_of_row w6 _ 1 _ _ HK6.out.x
      have zss0 := frozen_of_row w6.drew _ 0 _ _ HK6.out.s
      have zss1 := frozen_of_row w6.drew _ 1 _ _ HK6.out.s
      have zxx0 := frozen_of_row w6.drew _ 0 _ _ HK6.out.x
      have zxx1 := frozen_of_row w6.drew _ 1 _ _ HK6.out.x
      have hne : w5.heap.size ≠ bs ∧ w5.heap.size ≠ bs + 1 ∧ wo.heap.size ≠ bs ∧ wo.heap.size ≠ bs + 1 := by
        have h1 := heap_lt HK5.out.s
        have h2 := heap_lt HK5.out.x
        have h3 := heap_lt HK.out.s
        have h4 := heap_lt HK.out.x
        omega
      obtain ⟨hne1, hne2, hne3, hne4⟩ := hne
      have hne5 : w5.heap.size + 1 ≠ bs := by have h1 := heap_lt HK5.out.s; omega
      have hne6 : w5.heap.size + 1 ≠ bs + 1 := by omega
      go_region
      obtain ⟨W8, hW8⟩ : ∃ W8, W8 = ((((w6.setCell ⟨bs, 0, none⟩ (.slice A' n' c')).setCell ⟨bs, 1, none⟩ (.slice ia' mx' ic')).setCell ⟨bs + 1, 0, none⟩ (.slice A2' n' c2')).setCell ⟨bs + 1, 1, none⟩ (.slice ia2' mx' ic2')).drew := ⟨_, rfl⟩
      rw [← hW8]
      have HK8 := Lib.hid (show PlayK w bs A' n' c' ia' mx' ic' A2' c2' ia2' ic2' W8 by rw [hW8]; exact (HK6.out.set A' n' c' ia' mx' ic' A2' c2' ia2' ic2').1.keep ((Below.refl _ _).drew))
      have HR8 := Lib.hid (show PlayR W8 A' ia' A2' ia2' n' mx' ts' xs' ts2' xs2' by rw [hW8]; exact (HR6.out.set (Nat.succ_ne_self bs) HK6.out.s HK6.out.x A' n' c' (.slice ia' mx' ic') A2' n' c2' (.slice ia2' mx' ic2')).keep ((Below.refl _ _).drew))
      have HO8 := Lib.hid (show W8.heap[wo.heap.size]? = some (.cells #[.int .i64 kk, .string tn, .slice ta tl tc, .int .i64 tr, .int .i64 tx, .int .i64 tw, .string un, .string ut, .slice ua ul uc, .int .i64 us, .int .i64 ur, .int .i64 ux, .string nm] 30) by rw [hW8]; exact far2 (far2 HO6.out hne3) hne4)
      clear hW8 t0 t1 y0 y1 tt0 tt1 yy0 yy1 s0 s1 x0 x1 ss0 ss1 xx0 xx1 zs0 zs1 zx0 zx1 zss0 zss1 zxx0 zxx1 hne1 hne2 hne3 hne4 hne5 hne6
      have HT1 := Lib.hid (show ∀ W, Below W8.heap.size W8 W → Calls Tryz.prog 12 #[.agg #[.slice A' n' c', .slice ia' mx' ic'], .string nm] W (RetV (.int .i64 (placeI (findN PT.name (ts'.map ptOf) nm))) W) from fun W hB => by
        have h := table_at A' c' ts' ia' mx' ic' nm W (HR8.out.1.1.keep hB)
        rw [HR8.out.2.2.1] at h
        exact h)
      have HT2 := Lib.hid (show ∀ W, Below W8.heap.size W8 W → Calls Tryz.prog 13 #[.agg #[.slice A2' n' c2', .slice ia2' mx' ic2'], .string nm] W (RetV (.int .i64 (placeI (findN PT.name (ts'.map ptOf) nm))) W) from fun W hB => by
        have h := rtable_at A2' c2' ts2' ia2' mx' ic2' nm W (HR8.out.2.1.1.keep hB)
        rw [HR8.out.len2.1, HR8.out.2.2.2.2.1] at h
        exact h)
      have HT3 := Lib.hid (show ∀ W, Below W8.heap.size W8 W → Calls Tryz.prog 14 #[.agg #[.slice A' n' c', .slice ia' mx' ic'], .string nm] W (RetV (.int .i64 (placeI (findN PX.name (xs'.map pxOf) nm))) W) from fun W hB => by
        have h := index_at ia' ic' xs' A' n' c' nm W (HR8.out.1.2.1.keep hB)
        rw [HR8.out.2.2.2.1] at h
        exact h)
      have HT4 := Lib.hid (show ∀ W, Below W8.heap.size W8 W → Calls Tryz.prog 15 #[.agg #[.slice A2' n' c2', .slice ia2' mx' ic2'], .string nm] W (RetV (.int .i64 (placeI (findN PX.name (xs'.map pxOf) nm))) W) from fun W hB => by
        have h := rindex_at ia2' ic2' xs2' A2' n' c2' nm W (HR8.out.2.1.2.1.keep hB)
        rw [HR8.out.len2.2, HR8.out.2.2.2.2.2.1] at h
        exact h)
      generalize placeI (findN PT.name (ts'.map ptOf) nm) = rt at HT1 HT2
      generalize placeI (findN PX.name (xs'.map pxOf) nm) = rx at HT3 HT4
      go_wp2_with fail
      have HSX := Lib.hid (show ∀ wx, (PlayK w bs A' n' c' ia' mx' ic' A2' c2' ia2' ic2' wx) ∧ wx.heap[wo.heap.size]? = some (.cells #[.int .i64 kk, .string tn, .slice ta tl tc, .int .i64 tr, .int .i64 tx, .int .i64 tw, .string un, .string ut, .slice ua ul uc, .int .i64 us, .int .i64 ur, .int .i64 ux, .string nm] 30) ∧ Below W8.heap.size W8 wx → ((PlayK w bs A' n' c' ia' mx' ic' A2' c2' ia2' ic2' wx) ∧ wx.heap[wo.heap.size]? = some (.cells #[.int .i64 kk, .string tn, .slice ta tl tc, .int .i64 tr, .int .i64 tx, .int .i64 tw, .string un, .string ut, .slice ua ul uc, .int .i64 us, .int .i64 ur, .int .i64 ux, .string nm] 30) ∧ Below W8.heap.size W8 wx) ∧ wx.cell? ⟨bs, 0, none⟩ = some (.slice A' n' c') ∧ wx.cell? ⟨bs, 1, none⟩ = some (.slice ia' mx' ic') ∧ wx.cell? ⟨bs + 1, 0, none⟩ = some (.slice A2' n' c2') ∧ wx.cell? ⟨bs + 1, 1, none⟩ = some (.slice ia2' mx' ic2') ∧ wx.cell? ⟨wo.heap.size, 12, none⟩ = some (.string nm) from fun wx h => ⟨h, cell_of_row _ _ 0 _ _ _ h.1.s, cell_of_row _ _ 1 _ _ _ h.1.s, cell_of_row _ _ 0 _ _ _ h.1.x, cell_of_row _ _ 1 _ _ _ h.1.x, cell_of_row _ _ 12 _ _ _ h.2.1⟩)
      refine wp_region_held_drew (S := (fun wx => ((PlayK w bs A' n' c' ia' mx' ic' A2' c2' ia2' ic2' wx) ∧ wx.heap[wo.heap.size]? = some (.cells #[.int .i64 kk, .string tn, .slice ta tl tc, .int .i64 tr, .int .i64 tx, .int .i64 tw, .string un, .string ut, .slice ua ul uc, .int .i64 us, .int .i64 ur, .int .i64 ux, .string nm] 30) ∧ Below W8.heap.size W8 wx) ∧ wx.cell? ⟨bs, 0, none⟩ = some (.slice A' n' c') ∧ wx.cell? ⟨bs, 1, none⟩ = some (.slice ia' mx' ic') ∧ wx.cell? ⟨bs + 1, 0, none⟩ = some (.slice A2' n' c2') ∧ wx.cell? ⟨bs + 1, 1, none⟩ = some (.slice ia2' mx' ic2') ∧ wx.cell? ⟨wo.heap.size, 12, none⟩ = some (.string nm))) (by kernel_rfl) (HSX.out _ ⟨HK8.out.keep ((Below.refl _ _).drew), HO8.out, (Below.refl _ _).drew⟩) (fun hHeld => ?_)
      (try dsimp only at hHeld)
      refine wpAnyH_take (i := 0) (v := ?_) (List.getElem?_toArray.trans rfl) (by kernel_rfl) (by kernel_rfl) (by kernel_rfl) (fun _ _ _ h => h) (Or.inl ⟨by rfl, ?_⟩) hHeld ?_
      rotate_left
      · intro wx hSw
        (try dsimp only at hSw)
        obtain ⟨_, e0, e1, e2, e3, e4⟩ := hSw
        go_simp
        (try with_reducible rfl)
      (try simp only [Act.put, List.setIfInBounds_toArray, List.set_cons_zero, List.set_cons_succ])
      refine wpAnyH_take (i := 1) (v := ?_) (List.getElem?_toArray.trans rfl) (by kernel_rfl) (by kernel_rfl) (by kernel_rfl) (fun _ _ _ h => h) (Or.inl ⟨by rfl, ?_⟩) hHeld ?_
      rotate_left
      · intro wx hSw
        (try dsimp only at hSw)
        obtain ⟨_, e0, e1, e2, e3, e4⟩ := hSw
        go_simp
        (try with_reducible rfl)
      (try simp only [Act.put, List.setIfInBounds_toArray, List.set_cons_zero, List.set_cons_succ])
      refine wpAnyH_take (i := 2) (v := ?_) (List.getElem?_toArray.trans rfl) (by kernel_rfl) (by kernel_rfl) (by kernel_rfl) (fun _ _ _ h => h) (Or.inl ⟨by rfl, ?_⟩) hHeld ?_
      rotate_left
      · intro wx hSw
        (try dsimp only at hSw)
        obtain ⟨_, e0, e1, e2, e3, e4⟩ := hSw
        go_simp
        (try with_reducible rfl)
      (try simp only [Act.put, List.setIfInBounds_toArray, List.set_cons_zero, List.set_cons_succ])
      refine wpAnyH_take (i := 4) (v := ?_) (List.getElem?_toArray.trans rfl) (by kernel_rfl) (by kernel_rfl) (by kernel_rfl) (fun _ _ _ h => h) (Or.inl ⟨by rfl, ?_⟩) hHeld ?_
      rotate_left
      · intro wx hSw
        (try dsimp only at hSw)
        obtain ⟨_, e0, e1, e2, e3, e4⟩ := hSw
        go_simp
        (try with_reducible rfl)
      (try simp only [Act.put, List.setIfInBounds_toArray, List.set_cons_zero, List.set_cons_succ])
      refine wpAnyH_take (i := 5) (v := ?_) (List.getElem?_toArray.trans rfl) (by kernel_rfl) (by kernel_rfl) (by kernel_rfl) (fun _ _ _ h => h) (Or.inl ⟨by rfl, ?_⟩) hHeld ?_
      rotate_left
      · intro wx hSw
        (try dsimp only at hSw)
        obtain ⟨_, e0, e1, e2, e3, e4⟩ := hSw
        go_simp
        (try with_reducible rfl)
      (try simp only [Act.put, List.setIfInBounds_toArray, List.set_cons_zero, List.set_cons_succ])
      refine wpAnyH_take (i := 6) (v := ?_) (List.getElem?_toArray.trans rfl) (by kernel_rfl) (by kernel_rfl) (by kernel_rfl) (fun _ _ _ h => h) (Or.inl ⟨by rfl, ?_⟩) hHeld ?_
      rotate_left
      · intro wx hSw
        (try dsimp only at hSw)
        obtain ⟨_, e0, e1, e2, e3, e4⟩ := hSw
        go_simp
        (try with_reducible rfl)
      (try simp only [Act.put, List.setIfInBounds_toArray, List.set_cons_zero, List.set_cons_succ])
      refine wpAnyH_ready (rs := [3]) (by kernel_rfl) (by simp) ?_
      refine AllReadyH.cons (List.getElem?_toArray.trans rfl) (fun K hK => ?_) AllReadyH.nil
      go_simp
      go_at_call 12
      with_reducible refine Calls.mono (HT1.out _ hHeld.1.2.2) ?_
      rintro e w23 ⟨rfl, hB5⟩
      have hHeld2 := HSX.out _ ⟨hHeld.1.1.keep hB5, (hB5.block _ (heap_lt hHeld.1.2.1)).trans hHeld.1.2.1, hHeld.1.2.2.trans (hB5.mono hHeld.1.2.2.size)⟩
      refine hK.out _ _ hHeld2 (fun _ => ?_)
      clear hK K hHeld hB5
      have hHeld := hHeld2
      clear hHeld2
      (try simp only [Act.put, List.setIfInBounds_toArray, List.set_cons_zero, List.set_cons_succ])
      refine wpAnyH_ready (rs := [7]) (by kernel_rfl) (by simp) ?_
      refine AllReadyH.cons (List.getElem?_toArray.trans rfl) (fun K hK => ?_) AllReadyH.nil
      go_simp
      go_at_call 13
      with_reducible refine Calls.mono (HT2.out _ hHeld.1.2.2) ?_
      rintro e w27 ⟨rfl, hB5⟩
      have hHeld2 := HSX.out _ ⟨hHeld.1.1.keep hB5, (hB5.block _ (heap_lt hHeld.1.2.1)).trans hHeld.1.2.1, hHeld.1.2.2.trans (hB5.mono hHeld.1.2.2.size)⟩
      refine hK.out _ _ hHeld2 (fun _ => ?_)
      clear hK K hHeld hB5
      have hHeld := hHeld2
      clear hHeld2
      (try simp only [Act.put, List.setIfInBounds_toArray, List.set_cons_zero, List.set_cons_succ])
      refine wpAnyH_take (i := 8) (v := ?_) (List.getElem?_toArray.trans rfl) (by kernel_rfl) (by kernel_rfl) (by kernel_rfl) (fun _ _ _ h => h) (Or.inl ⟨by rfl, ?_⟩) hHeld ?_
      rotate_left
      · intro wx hSw
        (try dsimp only at hSw)
        obtain ⟨_, e0, e1, e2, e3, e4⟩ := hSw
        go_simp
        (try with_reducible rfl)
      (try simp only [Act.put, List.setIfInBounds_toArray, List.set_cons_zero, List.set_cons_succ])
      refine wpAnyH_take (i := 9) (v := ?_) (List.getElem?_toArray.trans rfl) (by kernel_rfl) (by kernel_rfl) (by kernel_rfl) (fun _ _ _ h => h) (Or.inl ⟨by rfl, ?_⟩) hHeld ?_
      rotate_left
      · intro wx hSw
        (try dsimp only at hSw)
        obtain ⟨_, e0, e1, e2, e3, e4⟩ := hSw
        go_simp
        (try with_reducible rfl)
      (try simp only [Act.put, List.setIfInBounds_toArray, List.set_cons_zero, List.set_cons_succ])
      refine wpAnyH_take (i := 10) (v := ?_) (List.getElem?_toArray.trans rfl) (by kernel_rfl) (by kernel_rfl) (by kernel_rfl) (fun _ _ _ h => h) (Or.inl ⟨by rfl, ?_⟩) hHeld ?_
      rotate_left
      · intro wx hSw
        (try dsimp only at hSw)
        obtain ⟨_, e0, e1, e2, e3, e4⟩ := hSw
        go_simp
        (try with_reducible rfl)
      (try simp only [Act.put, List.setIfInBounds_toArray, List.set_cons_zero, List.set_cons_succ])
      refine wpAnyH_take (i := 11) (v := ?_) (List.getElem?_toArray.trans rfl) (by kernel_rfl) (by kernel_rfl) (by kernel_rfl) (fun _ _ _ h => h) (Or.inl ⟨by rfl, ?_⟩) hHeld ?_
      rotate_left
      · intro wx hSw
        (try dsimp only at hSw)
        obtain ⟨_, e0, e1, e2, e3, e4⟩ := hSw
        go_simp
        (try with_reducible rfl)
      (try simp only [Act.put, List.setIfInBounds_toArray, List.set_cons_zero, List.set_cons_succ])
      refine wpAnyH_take (i := 12) (v := ?_) (List.getElem?_toArray.trans rfl) (by kernel_rfl) (by kernel_rfl) (by kernel_rfl) (fun _ _ _ h => h) (Or.inl ⟨by rfl, ?_⟩) hHeld ?_
      rotate_left
      · intro wx hSw
        (try dsimp only at hSw)
        obtain ⟨_, e0, e1, e2, e3, e4⟩ := hSw
        go_simp
        (try with_reducible rfl)
      (try simp only [Act.put, List.setIfInBounds_toArray, List.set_cons_zero, List.set_cons_succ])
      refine wpAnyH_take (i := 14) (v := ?_) (List.getElem?_toArray.trans rfl) (by kernel_rfl) (by kernel_rfl) (by kernel_rfl) (fun _ _ _ h => h) (Or.inl ⟨by rfl, ?_⟩) hHeld ?_
      rotate_left
      · intro wx hSw
        (try dsimp only at hSw)
        obtain ⟨_, e0, e1, e2, e3, e4⟩ := hSw
        go_simp
        (try with_reducible rfl)
      (try simp only [Act.put, List.setIfInBounds_toArray, List.set_cons_zero, List.set_cons_succ])
      refine wpAnyH_take (i := 15) (v := ?_) (List.getElem?_toArray.trans rfl) (by kernel_rfl) (by kernel_rfl) (by kernel_rfl) (fun _ _ _ h => h) (Or.inl ⟨by rfl, ?_⟩) hHeld ?_
      rotate_left
      · intro wx hSw
        (try dsimp only at hSw)
        obtain ⟨_, e0, e1, e2, e3, e4⟩ := hSw
        go_simp
        (try with_reducible rfl)
      (try simp only [Act.put, List.setIfInBounds_toArray, List.set_cons_zero, List.set_cons_succ])
      refine wpAnyH_take (i := 16) (v := ?_) (List.getElem?_toArray.trans rfl) (by kernel_rfl) (by kernel_rfl) (by kernel_rfl) (fun _ _ _ h => h) (Or.inl ⟨by rfl, ?_⟩) hHeld ?_
      rotate_left
      · intro wx hSw
        (try dsimp only at hSw)
        obtain ⟨_, e0, e1, e2, e3, e4⟩ := hSw
        go_simp
        (try with_reducible rfl)
      (try simp only [Act.put, List.setIfInBounds_toArray, List.set_cons_zero, List.set_cons_succ])
      refine wpAnyH_ready (rs := [13]) (by kernel_rfl) (by simp) ?_
      refine AllReadyH.cons (List.getElem?_toArray.trans rfl) (fun K hK => ?_) AllReadyH.nil
      go_simp
      go_at_call 14
      with_reducible refine Calls.mono (HT3.out _ hHeld.1.2.2) ?_
      rintro e w33 ⟨rfl, hB5⟩
      have hHeld2 := HSX.out _ ⟨hHeld.1.1.keep hB5, (hB5.block _ (heap_lt hHeld.1.2.1)).trans hHeld.1.2.1, hHeld.1.2.2.trans (hB5.mono hHeld.1.2.2.size)⟩
      refine hK.out _ _ hHeld2 (fun _ => ?_)
      clear hK K hHeld hB5
      have hHeld := hHeld2
      clear hHeld2
      (try simp only [Act.put, List.setIfInBounds_toArray, List.set_cons_zero, List.set_cons_succ])
      refine wpAnyH_ready (rs := [17]) (by kernel_rfl) (by simp) ?_
      refine AllReadyH.cons (List.getElem?_toArray.trans rfl) (fun K hK => ?_) AllReadyH.nil
      go_simp
      go_at_call 15
      with_reducible refine Calls.mono (HT4.out _ hHeld.1.2.2) ?_
      rintro e w37 ⟨rfl, hB5⟩
      have hHeld2 := HSX.out _ ⟨hHeld.1.1.keep hB5, (hB5.block _ (heap_lt hHeld.1.2.1)).trans hHeld.1.2.1, hHeld.1.2.2.trans (hB5.mono hHeld.1.2.2.size)⟩
      refine hK.out _ _ hHeld2 (fun _ => ?_)
      clear hK K hHeld hB5
      have hHeld := hHeld2
      clear hHeld2
      (try simp only [Act.put, List.setIfInBounds_toArray, List.set_cons_zero, List.set_cons_succ])
      refine wpAnyH_take (i := 18) (v := ?_) (List.getElem?_toArray.trans rfl) (by kernel_rfl) (by kernel_rfl) (by kernel_rfl) (fun _ _ _ h => h) (Or.inl ⟨by rfl, ?_⟩) hHeld ?_
      rotate_left
      · intro wx hSw
        (try dsimp only at hSw)
        obtain ⟨_, e0, e1, e2, e3, e4⟩ := hSw
        go_simp
        (try with_reducible rfl)
      (try simp only [Act.put, List.setIfInBounds_toArray, List.set_cons_zero, List.set_cons_succ])
      refine wpAnyH_take (i := 19) (v := ?_) (List.getElem?_toArray.trans rfl) (by kernel_rfl) (by kernel_rfl) (by kernel_rfl) (fun _ _ _ h => h) (Or.inl ⟨by rfl, ?_⟩) hHeld ?_
      rotate_left
      · intro wx hSw
        (try dsimp only at hSw)
        obtain ⟨_, e0, e1, e2, e3, e4⟩ := hSw
        go_simp
        (try with_reducible rfl)
      (try simp only [Act.put, List.setIfInBounds_toArray, List.set_cons_zero, List.set_cons_succ])
      refine wpAnyH_done (by kernel_rfl) ?_ _
      have HK9 := Lib.hid hHeld.1.1
      have HO9 := Lib.hid hHeld.1.2.1
      have HB9 := Lib.hid hHeld.1.2.2
      clear hHeld HSX
      obtain ⟨NL, hNL⟩ : ∃ NL, NL = (List.range mx').filter (tnameAt (xs'.map Prod.fst) nm) := ⟨_, rfl⟩
      have HNL := Lib.hid hNL
      have HOF := Lib.hid (show ∀ W, Below W8.heap.size W8 W → Calls Tryz.prog 16 #[.agg #[.slice A' n' c', .slice ia' mx' ic'], .string nm] W fun e w' => ∃ (va : Option Addr) (vc : Nat), e = .returned (.slice va NL.length vc) ∧ Below W.heap.size W w' ∧ IntsAt w' va (NL.map Int.ofNat) from fun W hB => by
        have h := of_any A' n' c' ia' ic' (xs'.map Prod.fst) nm W (HR8.out.1.2.1.keep hB).1 (by rw [List.length_map, HR8.out.2.2.2.1]; have := HR8.out.2.2.2.2.2.2.2; omega)
        rw [List.length_map, HR8.out.2.2.2.1] at h
        refine h.mono fun e w' h => ?_
        obtain ⟨v, rfl, hB2, ho⟩ := h
        have e0 : ofR (xs'.map Prod.fst) nm mx' = NL.map Int.ofNat := by rw [hNL]; rfl
        rw [e0] at ho
        obtain ⟨va, vc, rfl, _, h3, _, _⟩ := own_ints ho rfl
        rw [List.length_map]
        exact ⟨va, vc, rfl, hB2, h3⟩)
      have hNL20 : NL.length ≤ 12 := by
        rw [hNL]
        exact Nat.le_trans (List.length_filter_le _ _) (by rw [List.length_range]; exact HR8.out.2.2.2.2.2.2.2)
      clear hNL
      have s0 := cell_of_row _ _ 0 _ _ _ HK9.out.s
      have s1 := cell_of_row _ _ 1 _ _ _ HK9.out.s
      have o12 := cell_of_row _ _ 12 _ _ _ HO9.out
      go_wp2_with (first
        | (go_at_call 16; (with_reducible refine (HOF.out _ HB9.out).mono ?_); rintro e wq ⟨va, vc, rfl, hBq, hIq⟩
           have HKq := Lib.hid (HK9.out.keep hBq)
           have HOq := Lib.hid ((hBq.block _ (heap_lt HO9.out)).trans HO9.out)
           have HBq := Lib.hid (HB9.out.trans (hBq.mono HB9.out.size))
           have HIq := Lib.hid hIq
           clear hBq hIq s0 s1 o12)
        | fail)
      go_loopw [10, 64] (fun q i wr => ∃ j : Nat, j ≤ NL.length ∧ q = .int .i64 (wantF NL j : Nat) ∧ i = .int .i64 j ∧ Hid (Below wq.heap.size wq wr)) (fun _ i _ => NL.length - (intOf i).toNat)
      case atStart => exact ⟨0, Nat.zero_le _, rfl, rfl, Lib.hid (Below.refl _ _)⟩
      case round =>
        obtain ⟨j, hj, rfl, rfl, HB⟩ := hrel
        obtain ⟨wi, rfl⟩ : ∃ wi : World, wi = wr := ⟨_, rfl⟩
        have HKi := Lib.hid (HKq.out.keep HB.out)
        by_cases hjn : j < NL.length
        · have hjn2 : ((j : Int) < (NL.length : Int)) = True := eq_true (by omega)
          obtain ⟨z, hz⟩ : ∃ z, NL[j]? = some z := ⟨_, List.getElem?_eq_getElem hjn⟩
          have hmem : z ∈ NL := List.mem_of_getElem? hz
          have hzz : z < mx' ∧ tnameAt (xs'.map Prod.fst) nm z = true := by
            rw [HNL.out, List.mem_filter, List.mem_range] at hmem
            exact hmem
          obtain ⟨hzm, hzt⟩ := hzz
          have hw9 : wantF NL j ≤ z ∧ wantF NL j ≤ 13 := want_le HNL.out HR8.out.2.2.2.2.2.2.2 hz
          obtain ⟨b4, off4, rfl, hb4, hc4⟩ : ∃ b4 off4, va = some ⟨b4, off4, none⟩ ∧ b4 < wq.heap.size ∧ wq.cell? ⟨b4, off4 + j, none⟩ = some (.int .i64 (z : Nat)) := by
            rcases HIq.out.2 with h0 | ⟨b4, off4, h1, h2, h3⟩
            · rw [List.map_eq_nil_iff] at h0; rw [h0] at hz; simp at hz
            · exact ⟨b4, off4, h1, h2, h3 j z (by rw [List.getElem?_map, hz]; rfl)⟩
          have m0 : wi.cell? ⟨b4, off4 + j, none⟩ = some (.int .i64 (z : Nat)) := (HB.out.cell (p := ⟨b4, off4 + j, none⟩) hb4).trans hc4
          obtain ⟨⟨x2, l2⟩, hx2⟩ : ∃ p, xs2'[z]? = some p := ⟨_, List.getElem?_eq_getElem (by rw [HR8.out.len2.2]; exact hzm)⟩
          have hxt : (x2.table.toList == nm.toList) = true := by
            have h1 : (xs2'.map pxOf)[z]? = some (pxOf (x2, l2)) := by rw [List.getElem?_map, hx2]; rfl
            rw [HR8.out.2.2.2.2.2.1, List.getElem?_map, Option.map_eq_some_iff] at h1
            obtain ⟨p, hp, hp2⟩ := h1
            have h2 : p.1.table = x2.table := congrArg PX.table hp2
            unfold tnameAt at hzt
            rw [List.getElem?_map, hp] at hzt
            rw [← h2]
            exact hzt
          obtain ⟨b2, off2, hia2, HC2⟩ := HR8.out.2.1.2.1.cell hx2
          subst hia2
          have n1 : wi.cell? ⟨b2, off2 + z * 6 + 1, none⟩ = some (.string x2.table) := HC2.out _ (HBq.out.trans (HB.out.mono HBq.out.size)) 1 _ rfl
          have x1 := cell_of_row _ _ 1 _ _ _ HKi.out.x
          have o12 := cell_of_row _ _ 12 _ _ _ ((HB.out.block _ (heap_lt HOq.out)).trans HOq.out)
          have hzm2 : ((z : Int) < (mx' : Int)) = True := eq_true (by omega)
          have HWN := Lib.hid (show wantF NL (j + 1) = z + 1 from by unfold wantF; dsimp only; rw [List.getD_eq_getElem?_getD, hz]; rfl)
          generalize hwf : wantF NL j = y at hw9 ⊢
          obtain ⟨hyz, hy13⟩ := hw9
          have hg1 : decide ((z : Int) ≤ (y : Int) - 1) = false := decide_eq_false (by omega)
          have hg2 : decide (z < y) = false := decide_eq_false (by omega)
          have hg3 : ((z : Int) ≤ (y : Int) - 1) = False := eq_false (by omega)
          have hg4 : (z < y) = False := eq_false (by omega)
          have hg5 : IntKind.i64.wrap ((y : Int) - 1) = (y : Int) - 1 := IntWalk.i64_in _ (by omega)
          have hz12 : z ≤ 11 := by have := HR8.out.2.2.2.2.2.2.2; omega
          clear hz hmem hzt hc4 hx2 hwf
          obtain ⟨xn2, xt2, xa2, xll2, xc2, xr2, xx2, xs22⟩ := x2
          dsimp only at hxt n1
          by_cases hj0 : j = 0
          · have hg6 : decide (0 < j) = false := decide_eq_false (by omega)
            clear hj0
            go_wp2_with fail
            go_quiet ((fail))
            go_wp2_with fail
            go_roundw
            case rel => exact ⟨j + 1, by omega, by rw [HWN.out]; go_num, by go_num, Lib.hid (HB.out.trans (below_drewN (Below.refl _ _) nq))⟩
            case measure => simp [intOf] <;> omega
          · have hg6 : decide (0 < j) = true := decide_eq_true (by omega)
            clear hj0
            go_wp2_with fail
            go_quiet ((fail))
            go_wp2_with fail
            go_roundw
            case rel => exact ⟨j + 1, by omega, by rw [HWN.out]; go_num, by go_num, Lib.hid (HB.out.trans (below_drewN (Below.refl _ _) nq))⟩
            case measure => simp [intOf] <;> omega
        · obtain rfl : j = NL.length := by omega
          go_wp2_with fail
          go_roundw
          case rel => exact ⟨k + 1, A', ia', A2', ia2', n', mx', c', ic', c2', ic2', ts', xs', ts2', xs2', by omega, by go_num, HKi, Lib.hid (HR8.out.keep (HBq.out.trans (HB.out.mono HBq.out.size)))⟩
          case measure => simp [intOf] <;> omega
    · obtain rfl : cnt = k := by omega
      go_wp2_with fail
      go_ret
      exact ⟨rfl, HK.out.below⟩
end Go.Proofs.YtcgpflkaejbkhaaGreatDoor
