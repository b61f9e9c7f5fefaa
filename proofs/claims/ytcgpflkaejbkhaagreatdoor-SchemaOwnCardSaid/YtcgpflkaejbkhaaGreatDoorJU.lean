/- The walks of Put where it answers an error. The walk of Of: the places of a table's indexes. -/
import Derived.Test.YtcgpflkaejbkhaaGreatDoorJT
namespace Go.Proofs.YtcgpflkaejbkhaaGreatDoor
open Go.RowKit

/-- the boxes of Put over any schema: the schema, the table, the answer -/
structure PutL (w : World) (A : Option Addr) (n c : Nat) (ia : Option Addr) (il ic : Nat) (t : Tab) (W : World) : Prop where
  below : Below w.heap.size w W
  sch : W.heap[w.heap.size]? = some (.cells #[.slice A n c, .slice ia il ic] 36)
  tab : W.heap[w.heap.size + 1]? = some (.cells #[.string t.name, .slice t.ca t.cn t.cc, .int .i64 t.root, .int .i64 t.next, .int .i64 t.rows] 25)
  ans : W.heap[w.heap.size + 1 + 1]? = some (.cells #[.slice none 0 0, .slice none 0 0] 36)
theorem PutL.keep {w : World} {A : Option Addr} {n c : Nat} {ia : Option Addr} {il ic : Nat} {t : Tab} {W W' : World} (h : PutL w A n c ia il ic t W) (hB : Below W.heap.size W W') : PutL w A n c ia il ic t W' :=
  ⟨h.below.trans (hB.mono h.below.size), (hB.block _ (heap_lt h.sch)).trans h.sch, (hB.block _ (heap_lt h.tab)).trans h.tab, (hB.block _ (heap_lt h.ans)).trans h.ans⟩
theorem PutL.start (w : World) (A : Option Addr) (n c : Nat) (ia : Option Addr) (il ic : Nat) (t : Tab) : PutL w A n c ia il ic t (((w.alloc (.cells #[.slice A n c, .slice ia il ic] 36)).alloc (.cells #[.string t.name, .slice t.ca t.cn t.cc, .int .i64 t.root, .int .i64 t.next, .int .i64 t.rows] 25)).alloc (.cells #[.slice none 0 0, .slice none 0 0] 36)) := by
  refine ⟨((below1 w _).alloc (by simp) _).alloc (by simp; omega) _, ?_, ?_, ?_⟩
  · rw [heap_alloc_old _ _ (by simp; omega), heap_alloc_old _ _ (by simp)]; exact heap_alloc_new w _
  · rw [heap_alloc_old _ _ (by simp)]
    have := heap_alloc_new (w.alloc (.cells #[.slice A n c, .slice ia il ic] 36)) (.cells #[.string t.name, .slice t.ca t.cn t.cc, .int .i64 t.root, .int .i64 t.next, .int .i64 t.rows] 25)
    rwa [World.size_alloc] at this
  · have := heap_alloc_new ((w.alloc (.cells #[.slice A n c, .slice ia il ic] 36)).alloc (.cells #[.string t.name, .slice t.ca t.cn t.cc, .int .i64 t.root, .int .i64 t.next, .int .i64 t.rows] 25)) (.cells #[.slice none 0 0, .slice none 0 0] 36)
    rwa [World.size_alloc, World.size_alloc] at this
theorem PutL.done {w : World} {A : Option Addr} {n c : Nat} {ia : Option Addr} {il ic : Nat} {t : Tab} {W : World} (h : PutL w A n c ia il ic t W) (x y : Value) : Below w.heap.size w ((W.setCell ⟨w.heap.size + 1 + 1, 0, none⟩ x).setCell ⟨w.heap.size + 1 + 1, 1, none⟩ y) :=
  (h.below.setCell (p := ⟨w.heap.size + 1 + 1, 0, none⟩) (by show w.heap.size ≤ w.heap.size + 1 + 1; omega) _).setCell (p := ⟨w.heap.size + 1 + 1, 1, none⟩) (by show w.heap.size ≤ w.heap.size + 1 + 1; omega) _
/-- why Put refuses a table, before its columns are looked at -/
def tabBad (t : Tab) : Bool := !nameB t.name.data.toList || decide (t.root < 1) || decide (1600 < t.root) || decide (t.next < 1) || decide (t.rows < 0)
theorem tabBad_ways {t : Tab} {b : Bool} (hb : b = nameB t.name.data.toList) (h : tabBad t = true) : b = false ∨ (b = true ∧ (t.root < 1) = True) ∨ (b = true ∧ (t.root < 1) = False ∧ (1600 < t.root) = True) ∨ (b = true ∧ (t.root < 1) = False ∧ (1600 < t.root) = False ∧ (t.next < 1) = True) ∨ (b = true ∧ (t.root < 1) = False ∧ (1600 < t.root) = False ∧ (t.next < 1) = False ∧ (t.rows < 0) = True) := by
  unfold tabBad at h
  rw [← hb] at h
  cases b with
  | false => exact Or.inl rfl
  | true =>
    by_cases h1 : t.root < 1
    · exact Or.inr (Or.inl ⟨rfl, eq_true h1⟩)
    · by_cases h2 : 1600 < t.root
      · exact Or.inr (Or.inr (Or.inl ⟨rfl, eq_false h1, eq_true h2⟩))
      · by_cases h3 : t.next < 1
        · exact Or.inr (Or.inr (Or.inr (Or.inl ⟨rfl, eq_false h1, eq_false h2, eq_true h3⟩)))
        · refine Or.inr (Or.inr (Or.inr (Or.inr ⟨rfl, eq_false h1, eq_false h2, eq_false h3, eq_true ?_⟩)))
          simp only [Bool.not_true, Bool.false_or, Bool.or_eq_true, decide_eq_true_iff] at h
          omega
/-- an error's answer -/
def ErrP (er : Int) (w : World) (e : Ending) (w' : World) : Prop := e = .returned (.tuple #[.agg #[.slice none 0 0, .slice none 0 0], .int .i64 er]) ∧ Below w.heap.size w w'
set_option maxRecDepth 100000 in
set_option maxHeartbeats 16000000 in
theorem put_bad (m : Int) (gt : Nat → Nat) (ht : ∀ j, j < 23 → finD (Ieee.double.read (gt j)) = true) (A : Option Addr) (c : Nat) (l : List Tab) (ia : Option Addr) (il ic : Nat) (t : Tab) (w : World) (hG : Glob m gt w) (hD : TabsAt w A l) (hbad : tabBad t = true) :
    Calls Tryz.prog 27 #[.agg #[.slice A l.length c, .slice ia il ic], .agg #[.string t.name, .slice t.ca t.cn t.cc, .int .i64 t.root, .int .i64 t.next, .int .i64 t.rows]] w (ErrP 7 w) := by
  have HST := Lib.hid (PutL.start w A l.length c ia il ic t)
  have HTA := Lib.hid (show ∀ W, Below w.heap.size w W → Calls Tryz.prog 12 #[.agg #[.slice A l.length c, .slice ia il ic], .string t.name] W (FirstP (nameAt l t.name) l.length W) from fun W hB => table_any A c l ia il ic t.name W (CellsAt.keep hB hD))
  obtain ⟨b, hb⟩ : ∃ b, b = nameB t.name.data.toList := ⟨_, rfl⟩
  have HNA := Lib.hid (show ∀ W, Below w.heap.size w W → Calls Tryz.prog 28 #[.string t.name] W (RetV (.bool b) W) from fun W hB => by rw [hb]; exact name_any m gt ht t.name W (hG.keep hB))
  have hor := tabBad_ways hb hbad
  generalize l.length = n at HST HTA ⊢
  clear hG hD hbad ht hb
  obtain ⟨tn, ta, tl, tc, tr, tx, tw⟩ := t
  dsimp only at HST HTA HNA hor ⊢
  rcases hor with rfl | ⟨rfl, r1⟩ | ⟨rfl, r1, r2⟩ | ⟨rfl, r1, r2, r3⟩ | ⟨rfl, r1, r2, r3, r4⟩
  all_goals
    go_enter Tryz.func27, Tryz.ntmps27
    go_wp2_with (first
      | (go_at_call 12; (with_reducible refine (HTA.out _ HST.out.below).mono ?_); rintro e w3 ⟨r, rfl, hr, hB3⟩
         have HK3 := Lib.hid (HST.out.keep hB3)
         have k0 := cell_of_row _ _ 0 _ _ _ HK3.out.tab
         have k1 := cell_of_row _ _ 1 _ _ _ HK3.out.tab
         have k2 := cell_of_row _ _ 2 _ _ _ HK3.out.tab
         have k3 := cell_of_row _ _ 3 _ _ _ HK3.out.tab
         have k4 := cell_of_row _ _ 4 _ _ _ HK3.out.tab
         have s0 := cell_of_row _ _ 0 _ _ _ HK3.out.sch
         have s1 := cell_of_row _ _ 1 _ _ _ HK3.out.sch
         have a0 := cell_of_row _ _ 0 _ _ _ HK3.out.ans
         have a1 := cell_of_row _ _ 1 _ _ _ HK3.out.ans
         have f0 := frozen_of_row _ _ 0 _ _ HK3.out.ans
         have f1 := frozen_of_row _ _ 1 _ _ HK3.out.ans
         clear hB3 hr)
      | (go_at_call 28; (with_reducible refine (HNA.out _ HK3.out.below).mono ?_); rintro e w5 ⟨rfl, hB5⟩
         have HK5 := Lib.hid (HK3.out.keep hB5)
         clear k0 k1 k2 k3 k4 s0 s1 a0 a1 f0 f1
         have k0 := cell_of_row _ _ 0 _ _ _ HK5.out.tab
         have k1 := cell_of_row _ _ 1 _ _ _ HK5.out.tab
         have k2 := cell_of_row _ _ 2 _ _ _ HK5.out.tab
         have k3 := cell_of_row _ _ 3 _ _ _ HK5.out.tab
         have k4 := cell_of_row _ _ 4 _ _ _ HK5.out.tab
         have s0 := cell_of_row _ _ 0 _ _ _ HK5.out.sch
         have s1 := cell_of_row _ _ 1 _ _ _ HK5.out.sch
         have a0 := cell_of_row _ _ 0 _ _ _ HK5.out.ans
         have a1 := cell_of_row _ _ 1 _ _ _ HK5.out.ans
         have f0 := frozen_of_row _ _ 0 _ _ HK5.out.ans
         have f1 := frozen_of_row _ _ 1 _ _ HK5.out.ans
         clear hB5)
      | fail)
    exact bodyPost_ret (v := .tuple #[.agg #[.slice none 0 0, .slice none 0 0], .int .i64 7]) (by simp [results, Tryz.results27, go_sem, a0, a1]) rfl ⟨rfl, HK5.out.done _ _⟩
theorem tabBad_no {t : Tab} (h : tabBad t = false) : nameB t.name.data.toList = true ∧ (t.root < 1) = False ∧ (1600 < t.root) = False ∧ (t.next < 1) = False ∧ (t.rows < 0) = False := by
  unfold tabBad at h
  simp only [Bool.or_eq_false_iff, Bool.not_eq_false', decide_eq_false_iff_not] at h
  obtain ⟨⟨⟨⟨h1, h2⟩, h3⟩, h4⟩, h5⟩ := h
  exact ⟨h1, eq_false h2, eq_false h3, eq_false h4, eq_false h5⟩
theorem first_none {l : List Tab} {nm : ByteArray} (hnew : ∀ p ∈ l, sameN p.name nm = false) {r : Int} (h : FirstIs (nameAt l nm) l.length r) : r = -1 := by
  rcases h with ⟨k, hk, _, hp, _⟩ | ⟨rfl, _⟩
  · exfalso
    unfold nameAt at hp
    rw [List.getElem?_eq_getElem hk] at hp
    have := hnew _ (List.getElem_mem hk)
    rw [show sameN l[k].name nm = true from hp] at this
    cases this
  · rfl
set_option maxRecDepth 100000 in
set_option maxHeartbeats 16000000 in
theorem put_many (m : Int) (gt : Nat → Nat) (ht : ∀ j, j < 23 → finD (Ieee.double.read (gt j)) = true) (A : Option Addr) (c : Nat) (l : List Tab) (ia : Option Addr) (il ic : Nat) (t : Tab) (w : World) (hG : Glob m gt w) (hD : TabsAt w A l) (hbad : tabBad t = false) (hnew : ∀ p ∈ l, sameN p.name t.name = false) (h8 : 8 ≤ l.length) :
    Calls Tryz.prog 27 #[.agg #[.slice A l.length c, .slice ia il ic], .agg #[.string t.name, .slice t.ca t.cn t.cc, .int .i64 t.root, .int .i64 t.next, .int .i64 t.rows]] w (ErrP 11 w) := by
  have HST := Lib.hid (PutL.start w A l.length c ia il ic t)
  have HTA := Lib.hid (show ∀ W, Below w.heap.size w W → Calls Tryz.prog 12 #[.agg #[.slice A l.length c, .slice ia il ic], .string t.name] W (RetV (.int .i64 (-1)) W) from fun W hB => (table_any A c l ia il ic t.name W (CellsAt.keep hB hD)).mono (fun e w' ⟨r, h1, h2, h3⟩ => by rw [first_none hnew h2] at h1; exact ⟨h1, h3⟩))
  obtain ⟨hn, r1, r2, r3, r4⟩ := tabBad_no hbad
  have HNA := Lib.hid (show ∀ W, Below w.heap.size w W → Calls Tryz.prog 28 #[.string t.name] W (RetV (.bool true) W) from fun W hB => by have h := name_any m gt ht t.name W (hG.keep hB); rwa [hn] at h)
  have r5 : ((8 : Int) ≤ (l.length : Int)) = True := eq_true (by omega)
  generalize l.length = n at HST HTA r5 ⊢
  clear hG hD hbad ht hn hnew h8
  obtain ⟨tn, ta, tl, tc, tr, tx, tw⟩ := t
  dsimp only at HST HTA HNA r1 r2 r3 r4 ⊢
  go_enter Tryz.func27, Tryz.ntmps27
  go_wp2_with (first
    | (go_at_call 12; (with_reducible refine (HTA.out _ HST.out.below).mono ?_); rintro e w3 ⟨rfl, hB3⟩
       have HK3 := Lib.hid (HST.out.keep hB3)
       have k0 := cell_of_row _ _ 0 _ _ _ HK3.out.tab
       have k1 := cell_of_row _ _ 1 _ _ _ HK3.out.tab
       have k2 := cell_of_row _ _ 2 _ _ _ HK3.out.tab
       have k3 := cell_of_row _ _ 3 _ _ _ HK3.out.tab
       have k4 := cell_of_row _ _ 4 _ _ _ HK3.out.tab
       have s0 := cell_of_row _ _ 0 _ _ _ HK3.out.sch
       have s1 := cell_of_row _ _ 1 _ _ _ HK3.out.sch
       have a0 := cell_of_row _ _ 0 _ _ _ HK3.out.ans
       have a1 := cell_of_row _ _ 1 _ _ _ HK3.out.ans
       have f0 := frozen_of_row _ _ 0 _ _ HK3.out.ans
       have f1 := frozen_of_row _ _ 1 _ _ HK3.out.ans
       clear hB3)
    | (go_at_call 28; (with_reducible refine (HNA.out _ HK3.out.below).mono ?_); rintro e w5 ⟨rfl, hB5⟩
       have HK5 := Lib.hid (HK3.out.keep hB5)
       clear k0 k1 k2 k3 k4 s0 s1 a0 a1 f0 f1
       have k0 := cell_of_row _ _ 0 _ _ _ HK5.out.tab
       have k1 := cell_of_row _ _ 1 _ _ _ HK5.out.tab
       have k2 := cell_of_row _ _ 2 _ _ _ HK5.out.tab
       have k3 := cell_of_row _ _ 3 _ _ _ HK5.out.tab
       have k4 := cell_of_row _ _ 4 _ _ _ HK5.out.tab
       have s0 := cell_of_row _ _ 0 _ _ _ HK5.out.sch
       have s1 := cell_of_row _ _ 1 _ _ _ HK5.out.sch
       have a0 := cell_of_row _ _ 0 _ _ _ HK5.out.ans
       have a1 := cell_of_row _ _ 1 _ _ _ HK5.out.ans
       have f0 := frozen_of_row _ _ 0 _ _ HK5.out.ans
       have f1 := frozen_of_row _ _ 1 _ _ HK5.out.ans
       clear hB5)
    | fail)
  exact bodyPost_ret (v := .tuple #[.agg #[.slice none 0 0, .slice none 0 0], .int .i64 11]) (by simp [results, Tryz.results27, go_sem, a0, a1]) rfl ⟨rfl, HK5.out.done _ _⟩
set_option maxRecDepth 100000 in
set_option maxHeartbeats 16000000 in
theorem put_cols (m : Int) (gt : Nat → Nat) (ht : ∀ j, j < 23 → finD (Ieee.double.read (gt j)) = true) (A : Option Addr) (c : Nat) (l : List Tab) (ia : Option Addr) (il ic : Nat) (t : Tab) (cl : List Col) (w : World) (hG : Glob m gt w) (hD : TabsAt w A l) (hcol : ColsAt w t.ca cl) (hcn : t.cn = cl.length) (hcc : cl.length ≤ t.cc) (hbad : tabBad t = false) (hmany : (∃ p ∈ l, sameN p.name t.name = true) ∨ l.length < 8) (hcr : colsR cl ≠ 0) :
    Calls Tryz.prog 27 #[.agg #[.slice A l.length c, .slice ia il ic], .agg #[.string t.name, .slice t.ca t.cn t.cc, .int .i64 t.root, .int .i64 t.next, .int .i64 t.rows]] w (ErrP (colsR cl) w) := by
  have HST := Lib.hid (PutL.start w A l.length c ia il ic t)
  have HTA := Lib.hid (show ∀ W, Below w.heap.size w W → Calls Tryz.prog 12 #[.agg #[.slice A l.length c, .slice ia il ic], .string t.name] W fun e w' => ∃ r : Int, e = .returned (.int .i64 r) ∧ ((r < 0) = False ∨ ((8 : Int) ≤ (l.length : Int)) = False) ∧ Below W.heap.size W w' from fun W hB => (table_any A c l ia il ic t.name W (CellsAt.keep hB hD)).mono (fun e w' ⟨r, h1, h2, h3⟩ => ⟨r, h1, by
    rcases hmany with ⟨p, hp, hs⟩ | h8
    · left
      rcases h2 with ⟨k, hk, rfl, _, _⟩ | ⟨rfl, hq⟩
      · exact eq_false (by omega)
      · exfalso
        obtain ⟨k, hk, rfl⟩ := List.mem_iff_getElem.1 hp
        have := hq k hk
        unfold nameAt at this
        rw [List.getElem?_eq_getElem hk] at this
        rw [show sameN l[k].name t.name = false from this] at hs
        cases hs
    · right; exact eq_false (by omega), h3⟩))
  obtain ⟨hn, r1, r2, r3, r4⟩ := tabBad_no hbad
  have HNA := Lib.hid (show ∀ W, Below w.heap.size w W → Calls Tryz.prog 28 #[.string t.name] W (RetV (.bool true) W) from fun W hB => by have h := name_any m gt ht t.name W (hG.keep hB); rwa [hn] at h)
  have HCO := Lib.hid (show ∀ W, Below w.heap.size w W → Calls Tryz.prog 20 #[.slice t.ca t.cn t.cc] W (RetV (.int .i64 (colsR cl)) W) from fun W hB => by
    have h := columns_any m gt ht t.ca t.cc cl W (hG.keep hB) (CellsAt.keep hB hcol) hcc
    rw [← hcn] at h
    exact h)
  have r6 : (colsR cl == 0) = false := beq_eq_false_iff_ne.2 hcr
  generalize colsR cl = ce at HCO r6 ⊢
  generalize l.length = n at HST HTA ⊢
  clear hG hD hbad ht hn hmany hcol hcn hcc hcr
  obtain ⟨tn, ta, tl, tc, tr, tx, tw⟩ := t
  dsimp only at HST HTA HNA HCO r1 r2 r3 r4 ⊢
  go_enter Tryz.func27, Tryz.ntmps27
  go_wp2_with (first
    | (go_at_call 12; (with_reducible refine (HTA.out _ HST.out.below).mono ?_); rintro e w3 ⟨r, rfl, hr, hB3⟩
       have HK3 := Lib.hid (HST.out.keep hB3)
       have k0 := cell_of_row _ _ 0 _ _ _ HK3.out.tab
       have k1 := cell_of_row _ _ 1 _ _ _ HK3.out.tab
       have k2 := cell_of_row _ _ 2 _ _ _ HK3.out.tab
       have k3 := cell_of_row _ _ 3 _ _ _ HK3.out.tab
       have k4 := cell_of_row _ _ 4 _ _ _ HK3.out.tab
       have s0 := cell_of_row _ _ 0 _ _ _ HK3.out.sch
       have s1 := cell_of_row _ _ 1 _ _ _ HK3.out.sch
       have a0 := cell_of_row _ _ 0 _ _ _ HK3.out.ans
       have a1 := cell_of_row _ _ 1 _ _ _ HK3.out.ans
       have f0 := frozen_of_row _ _ 0 _ _ HK3.out.ans
       have f1 := frozen_of_row _ _ 1 _ _ HK3.out.ans
       clear hB3
       rcases hr with hr | hr)
    | (go_at_call 28; (with_reducible refine (HNA.out _ HK3.out.below).mono ?_); rintro e w5 ⟨rfl, hB5⟩
       have HK5 := Lib.hid (HK3.out.keep hB5)
       clear k0 k1 k2 k3 k4 s0 s1 a0 a1 f0 f1
       have k0 := cell_of_row _ _ 0 _ _ _ HK5.out.tab
       have k1 := cell_of_row _ _ 1 _ _ _ HK5.out.tab
       have k2 := cell_of_row _ _ 2 _ _ _ HK5.out.tab
       have k3 := cell_of_row _ _ 3 _ _ _ HK5.out.tab
       have k4 := cell_of_row _ _ 4 _ _ _ HK5.out.tab
       have s0 := cell_of_row _ _ 0 _ _ _ HK5.out.sch
       have s1 := cell_of_row _ _ 1 _ _ _ HK5.out.sch
       have a0 := cell_of_row _ _ 0 _ _ _ HK5.out.ans
       have a1 := cell_of_row _ _ 1 _ _ _ HK5.out.ans
       have f0 := frozen_of_row _ _ 0 _ _ HK5.out.ans
       have f1 := frozen_of_row _ _ 1 _ _ HK5.out.ans
       clear hB5)
    | (go_at_call 20; (with_reducible refine (HCO.out _ HK5.out.below).mono ?_); rintro e w6 ⟨rfl, hB6⟩
       have HK6 := Lib.hid (HK5.out.keep hB6)
       clear k0 k1 k2 k3 k4 s0 s1 a0 a1 f0 f1
       have k0 := cell_of_row _ _ 0 _ _ _ HK6.out.tab
       have k1 := cell_of_row _ _ 1 _ _ _ HK6.out.tab
       have k2 := cell_of_row _ _ 2 _ _ _ HK6.out.tab
       have k3 := cell_of_row _ _ 3 _ _ _ HK6.out.tab
       have k4 := cell_of_row _ _ 4 _ _ _ HK6.out.tab
       have s0 := cell_of_row _ _ 0 _ _ _ HK6.out.sch
       have s1 := cell_of_row _ _ 1 _ _ _ HK6.out.sch
       have a0 := cell_of_row _ _ 0 _ _ _ HK6.out.ans
       have a1 := cell_of_row _ _ 1 _ _ _ HK6.out.ans
       have f0 := frozen_of_row _ _ 0 _ _ HK6.out.ans
       have f1 := frozen_of_row _ _ 1 _ _ HK6.out.ans
       clear hB6)
    | fail)
  all_goals exact bodyPost_ret (v := .tuple #[.agg #[.slice none 0 0, .slice none 0 0], .int .i64 ce]) (by simp [results, Tryz.results27, go_sem, a0, a1]) rfl ⟨rfl, HK6.out.done _ _⟩
end Go.Proofs.YtcgpflkaejbkhaaGreatDoor
namespace Go.Proofs.YtcgpflkaejbkhaaGreatDoor
open Go.RowKit

theorem info3 : (Tryz.prog.info? 3).map (fun i => (i.zero, i.size, i.bytes)) = some (some (.int .i64 0), 1, 8) := by kernel_rfl
def tnameAt (l : List Idx) (nm : ByteArray) (j : Nat) : Bool := match l[j]? with | some t => sameN t.table nm | none => false
/-- the places below one at which an index is a table's -/
def ofR (l : List Idx) (nm : ByteArray) (k : Nat) : List Int := ((List.range k).filter (tnameAt l nm)).map Int.ofNat
theorem ofR_succ (l : List Idx) (nm : ByteArray) (k : Nat) : ofR l nm (k + 1) = if tnameAt l nm k then ofR l nm k ++ [(k : Int)] else ofR l nm k := by
  unfold ofR
  rw [List.range_succ, List.filter_append]
  cases h : tnameAt l nm k <;> simp [h]
theorem ofR_len (l : List Idx) (nm : ByteArray) (k : Nat) : (ofR l nm k).length ≤ k := by
  unfold ofR
  rw [List.length_map]
  exact Nat.le_trans (List.length_filter_le _ _) (by rw [List.length_range]; exact Nat.le_refl _)
set_option maxRecDepth 100000 in
set_option maxHeartbeats 8000000 in
theorem of_any (ta : Option Addr) (tl tc : Nat) (A : Option Addr) (c : Nat) (l : List Idx) (nm : ByteArray) (w : World) (h : IdxsAt w A l) (hl : l.length ≤ 1000) : Calls Tryz.prog 16 #[.agg #[.slice ta tl tc, .slice A l.length c], .string nm] w fun e w' => ∃ v, e = .returned v ∧ Below w.heap.size w w' ∧ w'.ownsRow w.heap.size 3 1 v (ofR l nm l.length).length ((ofR l nm l.length).map (Value.int .i64)) := by
  have H := Lib.hid h
  obtain ⟨n, hn⟩ : ∃ n, n = l.length := ⟨_, rfl⟩
  have HN := Lib.hid hn
  rw [← hn] at hl ⊢
  clear h hn
  have hq := heap_alloc_new w (.cells #[.slice ta tl tc, .slice A n c] 36)
  have q1 := cell_of_row _ _ 1 _ _ _ hq
  have HB0 := Lib.hid (below1 w (.cells #[.slice ta tl tc, .slice A n c] 36))
  obtain ⟨i0, hi0, hz0, hz1, hz2⟩ := info_parts info3
  have HI := Lib.hid hi0
  have HZ := Lib.hid hz0
  have HZ1 := Lib.hid hz1
  have HZ2 := Lib.hid hz2
  clear hq hi0 hz0 hz1 hz2
  go_enter Tryz.func16, Tryz.ntmps16
  go_wp2_with fail
  go_loopw [5, 11] (fun v i wr => ∃ k : Nat, k ≤ n ∧ i = .int .i64 k ∧ Hid (Below w.heap.size w wr) ∧ Hid (wr.ownsRow w.heap.size 3 1 v (ofR l nm k).length ((ofR l nm k).map (Value.int .i64)))) (fun _ i _ => n - (intOf i).toNat)
  case atStart => exact ⟨0, Nat.zero_le _, rfl, HB0, Lib.hid (World.ownsRow_nil _ _ _ _)⟩
  case round =>
    obtain ⟨k, hk, rfl, HB, HO⟩ := hrel
    obtain ⟨wo, rfl⟩ : ∃ wo : World, wo = wr := ⟨_, rfl⟩
    by_cases hlt : k < n
    · obtain ⟨x, hx⟩ : ∃ x, l[k]? = some x := ⟨_, List.getElem?_eq_getElem (by have := HN.out; omega)⟩
      rcases H.out.2 with h0 | ⟨b, off, rfl, hbl, hc⟩
      · exfalso
        have := List.map_eq_nil_iff.1 h0
        subst this
        simp at hx
      · have HT := Lib.hid (show tnameAt l nm k = (x.table.toList == nm.toList) by unfold tnameAt sameN; rw [hx])
        have hcells := (hc k (idxL x) (by rw [List.getElem?_map, hx]; rfl)).2
        obtain ⟨xn, xt, xa, xl, xc, xr, xx, xs⟩ := x
        have hkk : ∀ (i : Nat) (u : Value), [Value.string xn, .string xt, .slice xa xl xc, .int .i64 xr, .int .i64 xx, .int .i64 xs][i]? = some u → wo.cell? ⟨b, off + k * 6 + i, none⟩ = some u := fun i u hi => (HB.out.cell (p := ⟨b, off + k * 6 + i, none⟩) hbl).trans (hcells i u hi)
        have k0 : wo.cell? ⟨b, off + k * 6, none⟩ = some (.string xn) := hkk 0 _ rfl
        have k1 : wo.cell? ⟨b, off + k * 6 + 1, none⟩ = some (.string xt) := hkk 1 _ rfl
        have k2 : wo.cell? ⟨b, off + k * 6 + 2, none⟩ = some (.slice xa xl xc) := hkk 2 _ rfl
        have k3 : wo.cell? ⟨b, off + k * 6 + 3, none⟩ = some (.int .i64 xr) := hkk 3 _ rfl
        have k4 : wo.cell? ⟨b, off + k * 6 + 4, none⟩ = some (.int .i64 xx) := hkk 4 _ rfl
        have k5 : wo.cell? ⟨b, off + k * 6 + 5, none⟩ = some (.int .i64 xs) := hkk 5 _ rfl
        have HBA := Lib.hid (HB.out.alloc HB.out.size (.cells #[.string xn, .string xt, .slice xa xl xc, .int .i64 xr, .int .i64 xx, .int .i64 xs] 28))
        have hle := ofR_len l nm k
        dsimp only at HT
        clear hx hc hcells hkk
        cases hq : (xt.toList == nm.toList) with
        | true =>
          have HE := Lib.hid (show ofR l nm (k + 1) = ofR l nm k ++ [(k : Int)] by rw [ofR_succ, HT.out, hq]; rfl)
          go_wp2_with (at_builtin; refine wpList_append_own_at _ rfl _ _ 26 rfl w.heap.size 3 i0 (.int .i64 0) 1 8 Tryz.underlying26 HI.out HZ.out HZ1.out HZ2.out rfl (by omega) _ _ _ rfl (own_kept HO.out ((below1 wo _).trans ((below1 _ _).mono (by simp))) (Nat.le_refl _)) ⟨wo.heap.size + 1, 0, none⟩ 1 1 [.int .i64 (k : Int)] (by rfl) ?qc1 ?qc2 ?qc3 ?qc4 ?qc5 ?qc6 ?_)
          case qc1 => rfl
          case qc2 =>
            intro j u hj
            have hnew := heap_alloc_new (wo.alloc (.cells #[.string xn, .string xt, .slice xa xl xc, .int .i64 xr, .int .i64 xx, .int .i64 xs] 28)) (.cells #[.int .i64 (k : Int)] 3)
            rw [World.size_alloc] at hnew
            rw [Addr.add_lit, Nat.zero_add]
            refine (cell_of_row _ _ j _ _ _ hnew).trans ?_
            rw [← hj]
            simp
          case qc3 =>
            intro u hu
            obtain rfl := List.mem_singleton.1 hu
            rfl
          case qc4 => unfold maxLen; omega
          case qc5 => omega
          case qc6 => have := HB.out.size; simp; omega
          intro v' w1 hown hgrow hnil hat
          have HOW := Lib.hid (show w1.ownsRow w.heap.size 3 1 v' (ofR l nm (k + 1)).length ((ofR l nm (k + 1)).map (Value.int .i64)) by rw [HE.out, List.length_append, List.map_append]; exact hown)
          have HBG := Lib.hid ((HBA.out.alloc HBA.out.size (.cells #[.int .i64 (k : Int)] 3)).grown hgrow (by have := HB.out.size; simp; omega) (fun b hb => (HO.out.lt b hb).1))
          clear hown hgrow hnil hat
          go_wp2
          go_roundw
          case rel => exact ⟨k + 1, by omega, by go_num, HBG, HOW⟩
          case measure => simp [intOf] <;> omega
        | false =>
          have HE := Lib.hid (show ofR l nm (k + 1) = ofR l nm k by rw [ofR_succ, HT.out, hq]; rfl)
          have HO2 := Lib.hid (own_kept HO.out (below1 wo (.cells #[.string xn, .string xt, .slice xa xl xc, .int .i64 xr, .int .i64 xx, .int .i64 xs] 28)) (Nat.le_refl _))
          go_wp2_with fail
          go_roundw
          case rel => exact ⟨k + 1, by omega, by go_num, HBA, by rw [HE.out]; exact HO2⟩
          case measure => simp [intOf] <;> omega
    · obtain rfl : k = n := by omega
      go_wp2_with fail
      go_ret
      exact ⟨_, rfl, HB.out, HO.out⟩
end Go.Proofs.YtcgpflkaejbkhaaGreatDoor
