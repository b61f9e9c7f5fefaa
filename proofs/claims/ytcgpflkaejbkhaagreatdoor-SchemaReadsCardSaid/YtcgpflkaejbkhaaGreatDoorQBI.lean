/- What an entry says, as plain data. -/
import Derived.Test.YtcgpflkaejbkhaaGreatDoorQBC
import Derived.Test.YtcgpflkaejbkhaaGreatDoorQBG
import Derived.Test.YtcgpflkaejbkhaaGreatDoorQAW
import Derived.OneCell
import Derived.Deep.RegionLaw
import Derived.Deep.RegionHeld3
namespace Go.Proofs.YtcgpflkaejbkhaaGreatDoor
open Go.RowKit

def valR {α : Type} (r : Option (α × List UInt8)) (z : α) : α := match r with | some p => p.1 | none => z
def txV (m : Nat) (st : Rd) : ByteArray := ⟨(valR (textR m st) []).toArray⟩
def txS (m : Nat) (st : Rd) : Rd := restR (textR m st)
def cnV (m : Nat) (st : Rd) : Nat := valR (countR m st) 0
def cnS (m : Nat) (st : Rd) : Rd := restR (countR m st)
def boV (st : Rd) : Bool := valR (boolR st) false
def boS (st : Rd) : Rd := restR (boolR st)
def inV (st : Rd) : Int := valR (intR st) 0
def inS (st : Rd) : Rd := restR (intR st)
def colV (st : Rd) : Col := ⟨txV 12 st, cnV 3 (txS 12 st), boV (cnS 3 (txS 12 st))⟩
def colS (st : Rd) : Rd := boS (cnS 3 (txS 12 st))
def colsS : Nat → Rd → Rd
 | 0, st => st
 | k + 1, st => colS (colsS k st)
def colsV : Nat → Rd → List Col
 | 0, _ => []
 | k + 1, st => colsV k st ++ [colV (colsS k st)]
def plsS : Nat → Rd → Rd
 | 0, st => st
 | k + 1, st => cnS 6 (plsS k st)
def plsV : Nat → Rd → List Int
 | 0, _ => []
 | k + 1, st => plsV k st ++ [(cnV 6 (plsS k st) : Int)]
def tabF (nm : ByteArray) (st : Rd) : Option PT :=
 if endR (inS (inS (cnS 1600 (colsS (cnV 6 st) (cnS 6 st))))) then some ⟨nm, colsV (cnV 6 st) (cnS 6 st), cnV 1600 (colsS (cnV 6 st) (cnS 6 st)), inV (cnS 1600 (colsS (cnV 6 st) (cnS 6 st))), inV (inS (cnS 1600 (colsS (cnV 6 st) (cnS 6 st))))⟩ else none
def idxF (nm : ByteArray) (st : Rd) : Option PX :=
 if endR (inS (cnS 1600 (cnS 3 (plsS (cnV 3 (txS 12 st)) (cnS 3 (txS 12 st)))))) then some ⟨nm, txV 12 st, plsV (cnV 3 (txS 12 st)) (cnS 3 (txS 12 st)), cnV 3 (plsS (cnV 3 (txS 12 st)) (cnS 3 (txS 12 st))), cnV 1600 (cnS 3 (plsS (cnV 3 (txS 12 st)) (cnS 3 (txS 12 st)))), inV (cnS 1600 (cnS 3 (plsS (cnV 3 (txS 12 st)) (cnS 3 (txS 12 st)))))⟩ else none
theorem cnV_le (m : Nat) (st : Rd) : cnV m st ≤ m := by
 unfold cnV
 cases h : countR m st with
 | none => exact Nat.zero_le _
 | some p =>
   show p.1 ≤ m
   unfold countR at h
   cases hn : numR st with
   | none => rw [hn] at h; cases h
   | some q =>
     rw [hn] at h
     simp only [Option.bind_some] at h
     split at h
     · cases h
     · cases h; omega
theorem colsS_none {k n : Nat} {st : Rd} (h : colsS k st = none) (hk : k ≤ n) : colsS n st = none := by
 induction n with
 | zero => obtain rfl : k = 0 := by omega
           exact h
 | succ n ih =>
   by_cases e : k = n + 1
   · subst e; exact h
   · show colS (colsS n st) = none
     rw [ih (by omega)]
     rfl
theorem plsS_none {k n : Nat} {st : Rd} (h : plsS k st = none) (hk : k ≤ n) : plsS n st = none := by
 induction n with
 | zero => obtain rfl : k = 0 := by omega
           exact h
 | succ n ih =>
   by_cases e : k = n + 1
   · subst e; exact h
   · show cnS 6 (plsS n st) = none
     rw [ih (by omega)]
     rfl
def StepP (W : World) (rb : Nat) (st' : Rd) (v : Value) (e : Ending) (w' : World) : Prop := W.grownBy w' (some rb) ∧ RdAt w' rb st' ∧ e = .returned v
theorem RdP.step {α : Type} {W : World} {rb : Nat} {r : Option (α × List UInt8)} {val : α → Value} {z : Value} {z0 : α} (hz : val z0 = z) {e : Ending} {w' : World} (h : RdP W rb r val z e w') : StepP W rb (restR r) (val (valR r z0)) e w' := by
 obtain ⟨h1, h2, h3⟩ := h
 refine ⟨h1, h2, h3.trans ?_⟩
 cases r with
 | none => rw [← hz]; rfl
 | some p => rfl
theorem st_text (m : Nat) (hm : m ≤ 1000000) (rb : Nat) (st : Rd) (W : World) (h : RdAt W rb st) : Calls Tryz.prog 74 #[.pointer (some ⟨rb, 0, none⟩), .int .i64 m] W (StepP W rb (txS m st) (.string (txV m st))) := (rd_text m hm rb st W h).mono fun _ _ h => h.step (z0 := []) rfl
theorem st_count (m : Nat) (hm : m ≤ 1000000) (rb : Nat) (st : Rd) (W : World) (h : RdAt W rb st) : Calls Tryz.prog 73 #[.pointer (some ⟨rb, 0, none⟩), .int .i64 m] W (StepP W rb (cnS m st) (.int .i64 (cnV m st))) := (rd_count m hm rb st W h).mono fun _ _ h => h.step (z0 := 0) rfl
theorem st_bool (rb : Nat) (st : Rd) (W : World) (h : RdAt W rb st) : Calls Tryz.prog 75 #[.pointer (some ⟨rb, 0, none⟩)] W (StepP W rb (boS st) (.bool (boV st))) := (rd_bool rb st W h).mono fun _ _ h => h.step (z0 := false) rfl
theorem st_int (rb : Nat) (st : Rd) (W : World) (h : RdAt W rb st) : Calls Tryz.prog 76 #[.pointer (some ⟨rb, 0, none⟩)] W (StepP W rb (inS st) (.int .i64 (inV st))) := (rd_int rb st W h).mono fun _ _ h => h.step (z0 := 0) rfl
def DocStep (st' : Rd) (v : Value) (w : World) (e : Ending) (w' : World) : Prop := ∃ (S : ByteArray) (er : Int), e = .returned (.tuple #[.agg #[.string S, .int .i64 er], v]) ∧ DocR S er st' ∧ Below w.heap.size w w'
theorem DocRP.step {α : Type} {w : World} {r : Option (α × List UInt8)} {val : α → Value} {z : Value} {z0 : α} (hz : val z0 = z) {e : Ending} {w' : World} (h : DocRP r val z w e w') : DocStep (restR r) (val (valR r z0)) w e w' := by
 obtain ⟨S, er, h1, h2, h3⟩ := h
 refine ⟨S, er, h1.trans ?_, h2, h3⟩
 cases r with
 | none => rw [← hz]; rfl
 | some p => rfl
theorem dt_text (m : Nat) (hm : m ≤ 1000000) (S : ByteArray) (e : Int) (st : Rd) (w : World) (h : DocR S e st) : Calls Tryz.prog 84 #[.agg #[.string S, .int .i64 e], .int .i64 m] w (DocStep (txS m st) (.string (txV m st)) w) := (rtake_text m hm S e st w h).mono fun _ _ h => h.step (z0 := []) rfl
theorem dt_count (m : Nat) (hm : m ≤ 1000000) (S : ByteArray) (e : Int) (st : Rd) (w : World) (h : DocR S e st) : Calls Tryz.prog 83 #[.agg #[.string S, .int .i64 e], .int .i64 m] w (DocStep (cnS m st) (.int .i64 (cnV m st)) w) := (rcount m hm S e st w h).mono fun _ _ h => h.step (z0 := 0) rfl
theorem dt_bool (S : ByteArray) (e : Int) (st : Rd) (w : World) (h : DocR S e st) : Calls Tryz.prog 85 #[.agg #[.string S, .int .i64 e]] w (DocStep (boS st) (.bool (boV st)) w) := (rtake_bool S e st w h).mono fun _ _ h => h.step (z0 := false) rfl
theorem dt_int (S : ByteArray) (e : Int) (st : Rd) (w : World) (h : DocR S e st) : Calls Tryz.prog 86 #[.agg #[.string S, .int .i64 e]] w (DocStep (inS st) (.int .i64 (inV st)) w) := (rtake_int S e st w h).mono fun _ _ h => h.step (z0 := 0) rfl
end Go.Proofs.YtcgpflkaejbkhaaGreatDoor
namespace Go.Proofs.YtcgpflkaejbkhaaGreatDoor
open Go.RowKit

theorem RdAt.lt {W : World} {rb : Nat} {st : Rd} (h : RdAt W rb st) : rb < W.heap.size := by
 obtain ⟨A, n, c, e, h1, _⟩ := h
 exact heap_lt h1
theorem RdAt.far {W W' : World} {rb : Nat} {st : Rd} {r : Option Nat} (h : RdAt W rb st) (hg : W.grownBy W' r) (hr : ∀ k, r = some k → rb < k) : RdAt W' rb st := by
 obtain ⟨A, n, c, e, h1, h2⟩ := h
 refine ⟨A, n, c, e, (hg.block rb (heap_lt h1) (fun e => by have := hr rb e.symm; omega)).trans h1, ?_⟩
 cases st with
 | none => exact h2
 | some l =>
   obtain ⟨q1, q2, q3, b, off, q4, q5, q6⟩ := h2
   refine ⟨q1, q2, q3, b, off, q4, q5, q6.grown hg (fun a ha e => ?_)⟩
   rw [q4] at ha
   obtain rfl := Option.some.inj ha
   have := hr _ e
   have : b < rb := q5
   dsimp only at *
   omega
structure OneK (w : World) (A : Option Addr) (n c : Nat) (ia : Option Addr) (mx ic : Nat) (rb : Nat) (st : Rd) (W : World) : Prop where
 below : Below w.heap.size w W
 arg : W.heap[w.heap.size]? = some (.cells #[.slice A n c, .slice ia mx ic] 36)
 ans : W.heap[w.heap.size + 1]? = some (.cells #[.slice none 0 0, .slice none 0 0] 36)
 rd : RdAt W rb st
 hrb : w.heap.size + 2 ≤ rb
theorem OneK.keep {w : World} {A : Option Addr} {n c : Nat} {ia : Option Addr} {mx ic : Nat} {rb : Nat} {st : Rd} {W W' : World} (h : OneK w A n c ia mx ic rb st W) (hB : Below W.heap.size W W') : OneK w A n c ia mx ic rb st W' :=
 ⟨h.below.trans (hB.mono h.below.size), (hB.block _ (heap_lt h.arg)).trans h.arg, (hB.block _ (heap_lt h.ans)).trans h.ans, h.rd.keep hB, h.hrb⟩
theorem OneK.read {w : World} {A : Option Addr} {n c : Nat} {ia : Option Addr} {mx ic : Nat} {rb : Nat} {st st' : Rd} {W W' : World} (h : OneK w A n c ia mx ic rb st W) (hg : W.grownBy W' (some rb)) (hr : RdAt W' rb st') : OneK w A n c ia mx ic rb st' W' := by
 have hb := h.hrb
 exact ⟨h.below.grown hg h.below.size (fun b e => by cases e; omega), (hg.block _ (heap_lt h.arg) (fun e => by have := Option.some.inj e; omega)).trans h.arg, (hg.block _ (heap_lt h.ans) (fun e => by have := Option.some.inj e; omega)).trans h.ans, hr, hb⟩
theorem OneK.grown {w : World} {A : Option Addr} {n c : Nat} {ia : Option Addr} {mx ic : Nat} {rb : Nat} {st : Rd} {W W' : World} (h : OneK w A n c ia mx ic rb st W) {r : Option Nat} (hg : W.grownBy W' r) (hr : ∀ k, r = some k → rb < k) : OneK w A n c ia mx ic rb st W' := by
 have hb := h.hrb
 exact ⟨h.below.grown hg h.below.size (fun b e => by have := hr b e; omega), (hg.block _ (heap_lt h.arg) (fun e => by have := hr _ e.symm; omega)).trans h.arg, (hg.block _ (heap_lt h.ans) (fun e => by have := hr _ e.symm; omega)).trans h.ans, h.rd.far hg hr, hb⟩
theorem OneK.start {w : World} {A : Option Addr} {n c : Nat} {ia : Option Addr} {mx ic : Nat} {rb : Nat} {st : Rd} {W : World} (hB : Below ((w.alloc (.cells #[.slice A n c, .slice ia mx ic] 36)).alloc (.cells #[.slice none 0 0, .slice none 0 0] 36)).heap.size ((w.alloc (.cells #[.slice A n c, .slice ia mx ic] 36)).alloc (.cells #[.slice none 0 0, .slice none 0 0] 36)) W) (hr : RdAt W rb st) (hrb : ((w.alloc (.cells #[.slice A n c, .slice ia mx ic] 36)).alloc (.cells #[.slice none 0 0, .slice none 0 0] 36)).heap.size ≤ rb) : OneK w A n c ia mx ic rb st W := by
 have h1 : ((w.alloc (.cells #[.slice A n c, .slice ia mx ic] 36)).alloc (.cells #[.slice none 0 0, .slice none 0 0] 36)).heap[w.heap.size]? = some (.cells #[.slice A n c, .slice ia mx ic] 36) := by
   rw [heap_alloc_old _ _ (by simp)]
   exact heap_alloc_new w _
 have h2 : ((w.alloc (.cells #[.slice A n c, .slice ia mx ic] 36)).alloc (.cells #[.slice none 0 0, .slice none 0 0] 36)).heap[w.heap.size + 1]? = some (.cells #[.slice none 0 0, .slice none 0 0] 36) := by
   have h := heap_alloc_new (w.alloc (.cells #[.slice A n c, .slice ia mx ic] 36)) (.cells #[.slice none 0 0, .slice none 0 0] 36)
   rw [World.size_alloc] at h
   exact h
 exact ⟨((below1 w _).alloc (by simp) _).trans (hB.mono (by simp; omega)), (hB.block _ (heap_lt h1)).trans h1, (hB.block _ (heap_lt h2)).trans h2, hr, by simp at hrb; omega⟩
structure OneT (w : World) (A : Option Addr) (n c : Nat) (ia : Option Addr) (mx ic : Nat) (rb : Nat) (st : Rd) (tb : Nat) (nm : ByteArray) (va : Option Addr) (k vc : Nat) (cols : List Col) (W : World) : Prop where
 box : OneK w A n c ia mx ic rb st W
 tab : W.heap[tb]? = some (.cells #[.string nm, .slice va k vc, .int .i64 0, .int .i64 0, .int .i64 0] 25)
 own : W.ownsRow (rb + 1) 42 3 (.slice va k vc) k (cols.map colL).flatten
 len : cols.length = k
 htb : rb < tb
theorem OneT.ne {w : World} {A : Option Addr} {n c : Nat} {ia : Option Addr} {mx ic : Nat} {rb : Nat} {st : Rd} {tb : Nat} {nm : ByteArray} {va : Option Addr} {k vc : Nat} {cols : List Col} {W : World} (h : OneT w A n c ia mx ic rb st tb nm va k vc cols W) : (Value.slice va k vc).ownBlock ≠ some tb := by
 intro e
 obtain ⟨_, h2⟩ := h.own
 rcases h2 with ⟨h3, _⟩ | ⟨g, cap, cur, h3, _, h4, _⟩
 · cases h3; cases e
 · cases h3
   have := Option.some.inj e
   dsimp only at this
   subst this
   have := h4.symm.trans h.tab
   cases this
theorem OneT.keep {w : World} {A : Option Addr} {n c : Nat} {ia : Option Addr} {mx ic : Nat} {rb : Nat} {st : Rd} {tb : Nat} {nm : ByteArray} {va : Option Addr} {k vc : Nat} {cols : List Col} {W W' : World} (h : OneT w A n c ia mx ic rb st tb nm va k vc cols W) (hB : Below W.heap.size W W') : OneT w A n c ia mx ic rb st tb nm va k vc cols W' :=
 ⟨h.box.keep hB, (hB.block _ (heap_lt h.tab)).trans h.tab, own_kept h.own hB (Nat.le_refl _), h.len, h.htb⟩
theorem OneT.read {w : World} {A : Option Addr} {n c : Nat} {ia : Option Addr} {mx ic : Nat} {rb : Nat} {st st' : Rd} {tb : Nat} {nm : ByteArray} {va : Option Addr} {k vc : Nat} {cols : List Col} {W W' : World} (h : OneT w A n c ia mx ic rb st tb nm va k vc cols W) (hg : W.grownBy W' (some rb)) (hr : RdAt W' rb st') : OneT w A n c ia mx ic rb st' tb nm va k vc cols W' := by
 have hb := h.htb
 exact ⟨h.box.read hg hr, (hg.block _ (heap_lt h.tab) (fun e => by have := Option.some.inj e; omega)).trans h.tab, h.own.kept hg (Or.inr fun e => by have := (h.own.lt _ e).1; omega), h.len, hb⟩
theorem OneT.more {w : World} {A : Option Addr} {n c : Nat} {ia : Option Addr} {mx ic : Nat} {rb : Nat} {st : Rd} {tb : Nat} {nm : ByteArray} {va : Option Addr} {k vc : Nat} {cols : List Col} {W w6 : World} {O : Obj} {g cap : Nat} {col : Col} (h : OneT w A n c ia mx ic rb st tb nm va k vc cols W)
   (hown : w6.ownsRow (rb + 1) 42 3 (.slice (some ⟨g, 0, none⟩) (k + 1) cap) (k + 1) ((cols.map colL).flatten ++ colL col)) (hg : (W.alloc O).grownBy w6 (Value.slice va k vc).ownBlock) :
   OneT w A n c ia mx ic rb st tb nm (some ⟨g, 0, none⟩) (k + 1) cap (cols ++ [col]) (w6.setCell ⟨tb, 1, none⟩ (.slice (some ⟨g, 0, none⟩) (k + 1) cap)) ∧ w6.heap[tb]? = some (.cells #[.string nm, .slice va k vc, .int .i64 0, .int .i64 0, .int .i64 0] 25) := by
 have h5 := h.keep (below1 W O)
 have hne := h5.ne
 have hgt : ∀ j, (Value.slice va k vc).ownBlock = some j → rb < j := fun j e => by have := (h5.own.lt _ e).1; omega
 have ht6 := (hg.block _ (heap_lt h5.tab) (fun e => hne e.symm)).trans h5.tab
 have hk6 := h5.box.grown hg hgt
 have hset := grown_set w6 tb 1 (.slice (some ⟨g, 0, none⟩) (k + 1) cap)
 have hb := h.htb
 refine ⟨⟨hk6.grown hset (fun j e => by cases e; exact hb), ?_, ?_, by rw [List.length_append, h.len]; rfl, hb⟩, ht6⟩
 · rw [setCell_eq_setRow w6 _ 1 _ 25 _ _ ht6]
   exact setRow_heap w6 _ _ _ 25 _ ht6
 · have hne6 : (Value.slice (some ⟨g, 0, none⟩) (k + 1) cap).ownBlock ≠ some tb := by
     intro e
     have := Option.some.inj e
     dsimp only at this
     subst this
     obtain ⟨_, h2⟩ := hown
     rcases h2 with ⟨h3, _⟩ | ⟨g', cap', cur, h3, _, h4, _⟩
     · cases h3
     · cases h3
       have := h4.symm.trans ht6
       cases this
   have := ownsRow_setCell_other hown (a := ⟨tb, 1, none⟩) hne6 (.slice (some ⟨g, 0, none⟩) (k + 1) cap)
   rw [List.map_append, List.flatten_append]
   simpa using this
end Go.Proofs.YtcgpflkaejbkhaaGreatDoor
namespace Go.Proofs.YtcgpflkaejbkhaaGreatDoor
open Go.RowKit

structure OneF (w : World) (A : Option Addr) (n c : Nat) (ia : Option Addr) (mx ic : Nat) (rb : Nat) (st : Rd) (tb : Nat) (nm : ByteArray) (va : Option Addr) (k vc : Nat) (cols : List Col) (x y z : Int) (W : World) : Prop where
 box : OneK w A n c ia mx ic rb st W
 tab : W.heap[tb]? = some (.cells #[.string nm, .slice va k vc, .int .i64 x, .int .i64 y, .int .i64 z] 25)
 own : W.ownsRow (rb + 1) 42 3 (.slice va k vc) k (cols.map colL).flatten
 len : cols.length = k
 htb : rb < tb
theorem OneT.fields {w : World} {A : Option Addr} {n c : Nat} {ia : Option Addr} {mx ic : Nat} {rb : Nat} {st : Rd} {tb : Nat} {nm : ByteArray} {va : Option Addr} {k vc : Nat} {cols : List Col} {W : World} (h : OneT w A n c ia mx ic rb st tb nm va k vc cols W) (x y z : Int) :
   OneF w A n c ia mx ic rb st tb nm va k vc cols x y z (((W.setCell ⟨tb, 2, none⟩ (.int .i64 x)).setCell ⟨tb, 3, none⟩ (.int .i64 y)).setCell ⟨tb, 4, none⟩ (.int .i64 z)) := by
 have hne := h.ne
 have hb := h.htb
 have t1 : (W.setCell ⟨tb, 2, none⟩ (.int .i64 x)).heap[tb]? = some (.cells #[.string nm, .slice va k vc, .int .i64 x, .int .i64 0, .int .i64 0] 25) := by
   rw [setCell_eq_setRow W _ 2 _ 25 _ _ h.tab]
   exact setRow_heap W _ _ _ 25 _ h.tab
 have t2 : ((W.setCell ⟨tb, 2, none⟩ (.int .i64 x)).setCell ⟨tb, 3, none⟩ (.int .i64 y)).heap[tb]? = some (.cells #[.string nm, .slice va k vc, .int .i64 x, .int .i64 y, .int .i64 0] 25) := by
   rw [setCell_eq_setRow _ _ 3 _ 25 _ _ t1]
   exact setRow_heap _ _ _ _ 25 _ t1
 have t3 : (((W.setCell ⟨tb, 2, none⟩ (.int .i64 x)).setCell ⟨tb, 3, none⟩ (.int .i64 y)).setCell ⟨tb, 4, none⟩ (.int .i64 z)).heap[tb]? = some (.cells #[.string nm, .slice va k vc, .int .i64 x, .int .i64 y, .int .i64 z] 25) := by
   rw [setCell_eq_setRow _ _ 4 _ 25 _ _ t2]
   exact setRow_heap _ _ _ _ 25 _ t2
 have hr : ∀ j, some tb = some j → rb < j := fun j e => by cases e; exact hb
 exact ⟨((h.box.grown (grown_set _ _ _ _) hr).grown (grown_set _ _ _ _) hr).grown (grown_set _ _ _ _) hr, t3, ownsRow_setCell_other (ownsRow_setCell_other (ownsRow_setCell_other h.own hne _) hne _) hne _, h.len, hb⟩
theorem OneF.ended {w : World} {A : Option Addr} {n c : Nat} {ia : Option Addr} {mx ic : Nat} {rb : Nat} {st : Rd} {tb : Nat} {nm : ByteArray} {va : Option Addr} {k vc : Nat} {cols : List Col} {x y z : Int} {W W' : World} (h : OneF w A n c ia mx ic rb st tb nm va k vc cols x y z W) (hk : k ≤ 1000) (hg : W.grownBy W' (some rb)) :
   Below w.heap.size w W' ∧ W'.heap[w.heap.size]? = some (.cells #[.slice A n c, .slice ia mx ic] 36) ∧ W'.heap[w.heap.size + 1]? = some (.cells #[.slice none 0 0, .slice none 0 0] 36) ∧ W'.heap[tb]? = some (.cells #[.string nm, .slice va k vc, .int .i64 x, .int .i64 y, .int .i64 z] 25) ∧ ReadTab W' ⟨nm, va, k, vc, x, y, z⟩ cols := by
 have hb := h.htb
 have hr := h.box.hrb
 have ho : W'.ownsRow (rb + 1) 42 3 (.slice va k vc) k (cols.map colL).flatten := h.own.kept hg (Or.inr fun e => by have := (h.own.lt _ e).1; omega)
 refine ⟨h.box.below.grown hg h.box.below.size (fun b e => by cases e; omega), (hg.block _ (heap_lt h.box.arg) (fun e => by have := Option.some.inj e; omega)).trans h.box.arg, (hg.block _ (heap_lt h.box.ans) (fun e => by have := Option.some.inj e; omega)).trans h.box.ans, (hg.block _ (heap_lt h.tab) (fun e => by have := Option.some.inj e; omega)).trans h.tab, ?_⟩
 have hl := h.len
 obtain ⟨h1, h2, h3⟩ := (RowsAt.of_own ho).cells (K := 3) (by omega) (fun u hu => by obtain ⟨q, _, rfl⟩ := List.mem_map.1 hu; rfl) (by rw [List.length_map]; omega)
 exact ⟨h1, hl.symm, by show cols.length ≤ vc; omega, fun e => (h3 e).2, by omega⟩
theorem step_col (w : World) {ops : Array Oper} {o : Oper} {a : Act} {K : Act → World → Prop} {Q : Exit → Act → World → Prop} {E : Prop} (hgd : o.guard = none) (s x : Operand)
   (ho : o.op = .call { callee := .builtin .append, args := #[s, x], argTypes := #[23, 23] }) (base : Nat) (v : Value) (n : Nat) (xs : List Value) (hv : a.eval s = v) (hown : w.ownsRow base 42 3 v n xs)
   (b c : Nat) (t : Col) (hx : a.eval x = .slice (some ⟨b, 0, none⟩) 1 c) (hq : w.heap[b]? = some (.cells (colL t).toArray 42)) (hl : n ≤ 2000) (hbase : base ≤ w.heap.size)
   (h : ∀ v' w', w'.ownsRow base 42 3 v' (n + 1) (xs ++ colL t) → w.grownBy w' v.ownBlock → (v'.ownBlock = v.ownBlock ∨ v'.ownBlock = some w.heap.size) → K (a.put o.dst v') w') :
   if Region.wanted o (yielded ops a.tmps) = true then Oper.wp Tryz.prog o a w K Q else E := by
 have hw : Region.wanted o (yielded ops a.tmps) = true := by simp [Region.wanted, hgd]
 rw [if_pos hw]
 obtain ⟨i0, hi0, hz0, hz1, hz2⟩ := info_parts info25
 obtain ⟨v', w', hrun, g2, g3, _, g5⟩ := run_append_own_at (P := Tryz.prog) w base 23 o.type 42 i0 _ 3 32 Tryz.underlying23 hi0 hz0 hz1 hz2 rfl (by omega) v n xs hown ⟨b, 0, none⟩ 1 c (colL t) rfl
   (fun j u hj => by
     rw [Addr.add_lit, Nat.zero_add, cell_of_row w b j _ _ _ hq]
     simpa using hj)
   (fun u hu => by
     unfold colL at hu
     simp only [List.mem_cons, List.mem_nil_iff, or_false] at hu
     rcases hu with rfl | rfl | rfl <;> rfl) (by unfold maxLen; omega) (by omega) hbase
 unfold Oper.wp
 simp only [execOp, ho, resolve, invoke, builtin, Sem.run_bind, Sem.run_pure, Result.andThen_ok, List.map_toArray, List.map_cons, List.map_nil, hv, hx, hrun]
 exact h v' w' g2 g3 g5
def EntP (w : World) (r : Option (List PT × List PX)) (e : Ending) (w' : World) : Prop := Below w.heap.size w w' ∧
 ((r = none ∧ ∃ (p1 : Option Addr) (p2 p3 : Nat) (p4 : Option Addr) (p5 p6 : Nat) (er : Int), er ≠ 0 ∧ e = .returned (.tuple #[.agg #[.slice p1 p2 p3, .slice p4 p5 p6], .int .i64 er])) ∨
  (∃ (A ia : Option Addr) (c ic h : Nat) (ts : List (Tab × List Col)) (xs : List (Idx × List Int)), r = some (ts.map ptOf, xs.map pxOf) ∧ e = .returned (.tuple #[.agg #[.slice A ts.length c, .slice ia xs.length ic], .int .i64 0]) ∧ OwnS w.heap.size h (.slice A ts.length c) (.slice ia xs.length ic) ts xs w'))
def oneT (T : List PT) (X : List PX) (nm : ByteArray) (st : Rd) : Option (List PT × List PX) := match tabF nm st with
 | none => none
 | some t => if errT T t = 0 then some (putT T t, X) else none
end Go.Proofs.YtcgpflkaejbkhaaGreatDoor
namespace Go.Proofs.YtcgpflkaejbkhaaGreatDoor
open Go.RowKit

structure OneX (w : World) (A : Option Addr) (n c : Nat) (ia : Option Addr) (mx ic : Nat) (rb : Nat) (st : Rd) (tb : Nat) (nm tn : ByteArray) (va : Option Addr) (k vc : Nat) (pl : List Int) (x y z : Int) (W : World) : Prop where
 box : OneK w A n c ia mx ic rb st W
 tab : W.heap[tb]? = some (.cells #[.string nm, .string tn, .slice va k vc, .int .i64 x, .int .i64 y, .int .i64 z] 28)
 own : W.ownsRow (rb + 1) 3 1 (.slice va k vc) k (pl.map (Value.int .i64))
 len : pl.length = k
 htb : rb < tb
theorem OneX.ne {w : World} {A : Option Addr} {n c : Nat} {ia : Option Addr} {mx ic : Nat} {rb : Nat} {st : Rd} {tb : Nat} {nm tn : ByteArray} {va : Option Addr} {k vc : Nat} {pl : List Int} {x y z : Int} {W : World} (h : OneX w A n c ia mx ic rb st tb nm tn va k vc pl x y z W) : (Value.slice va k vc).ownBlock ≠ some tb := by
 intro e
 obtain ⟨_, h2⟩ := h.own
 rcases h2 with ⟨h3, _⟩ | ⟨g, cap, cur, h3, _, h4, _⟩
 · cases h3; cases e
 · cases h3
   have := Option.some.inj e
   dsimp only at this
   subst this
   have := h4.symm.trans h.tab
   cases this
theorem OneX.keep {w : World} {A : Option Addr} {n c : Nat} {ia : Option Addr} {mx ic : Nat} {rb : Nat} {st : Rd} {tb : Nat} {nm tn : ByteArray} {va : Option Addr} {k vc : Nat} {pl : List Int} {x y z : Int} {W W' : World} (h : OneX w A n c ia mx ic rb st tb nm tn va k vc pl x y z W) (hB : Below W.heap.size W W') : OneX w A n c ia mx ic rb st tb nm tn va k vc pl x y z W' :=
 ⟨h.box.keep hB, (hB.block _ (heap_lt h.tab)).trans h.tab, own_kept h.own hB (Nat.le_refl _), h.len, h.htb⟩
theorem OneX.read {w : World} {A : Option Addr} {n c : Nat} {ia : Option Addr} {mx ic : Nat} {rb : Nat} {st st' : Rd} {tb : Nat} {nm tn : ByteArray} {va : Option Addr} {k vc : Nat} {pl : List Int} {x y z : Int} {W W' : World} (h : OneX w A n c ia mx ic rb st tb nm tn va k vc pl x y z W) (hg : W.grownBy W' (some rb)) (hr : RdAt W' rb st') : OneX w A n c ia mx ic rb st' tb nm tn va k vc pl x y z W' := by
 have hb := h.htb
 exact ⟨h.box.read hg hr, (hg.block _ (heap_lt h.tab) (fun e => by have := Option.some.inj e; omega)).trans h.tab, h.own.kept hg (Or.inr fun e => by have := (h.own.lt _ e).1; omega), h.len, hb⟩
theorem OneX.more {w : World} {A : Option Addr} {n c : Nat} {ia : Option Addr} {mx ic : Nat} {rb : Nat} {st : Rd} {tb : Nat} {nm tn : ByteArray} {va : Option Addr} {k vc : Nat} {pl : List Int} {x y z : Int} {W w6 : World} {O : Obj} {g cap : Nat} {p : Int} (h : OneX w A n c ia mx ic rb st tb nm tn va k vc pl x y z W)
   (hown : w6.ownsRow (rb + 1) 3 1 (.slice (some ⟨g, 0, none⟩) (k + 1) cap) (k + 1) (pl.map (Value.int .i64) ++ [.int .i64 p])) (hg : (W.alloc O).grownBy w6 (Value.slice va k vc).ownBlock) :
   OneX w A n c ia mx ic rb st tb nm tn (some ⟨g, 0, none⟩) (k + 1) cap (pl ++ [p]) x y z (w6.setCell ⟨tb, 2, none⟩ (.slice (some ⟨g, 0, none⟩) (k + 1) cap)) ∧ w6.heap[tb]? = some (.cells #[.string nm, .string tn, .slice va k vc, .int .i64 x, .int .i64 y, .int .i64 z] 28) := by
 have h5 := h.keep (below1 W O)
 have hne := h5.ne
 have hgt : ∀ j, (Value.slice va k vc).ownBlock = some j → rb < j := fun j e => by have := (h5.own.lt _ e).1; omega
 have ht6 := (hg.block _ (heap_lt h5.tab) (fun e => hne e.symm)).trans h5.tab
 have hk6 := h5.box.grown hg hgt
 have hset := grown_set w6 tb 2 (.slice (some ⟨g, 0, none⟩) (k + 1) cap)
 have hb := h.htb
 refine ⟨⟨hk6.grown hset (fun j e => by cases e; exact hb), ?_, ?_, by rw [List.length_append, h.len]; rfl, hb⟩, ht6⟩
 · rw [setCell_eq_setRow w6 _ 2 _ 28 _ _ ht6]
   exact setRow_heap w6 _ _ _ 28 _ ht6
 · have hne6 : (Value.slice (some ⟨g, 0, none⟩) (k + 1) cap).ownBlock ≠ some tb := by
     intro e
     have := Option.some.inj e
     dsimp only at this
     subst this
     obtain ⟨_, h2⟩ := hown
     rcases h2 with ⟨h3, _⟩ | ⟨g', cap', cur, h3, _, h4, _⟩
     · cases h3
     · cases h3
       have := h4.symm.trans ht6
       cases this
   have := ownsRow_setCell_other hown (a := ⟨tb, 2, none⟩) hne6 (.slice (some ⟨g, 0, none⟩) (k + 1) cap)
   rw [List.map_append]
   exact this
theorem OneX.fields {w : World} {A : Option Addr} {n c : Nat} {ia : Option Addr} {mx ic : Nat} {rb : Nat} {st : Rd} {tb : Nat} {nm tn : ByteArray} {va : Option Addr} {k vc : Nat} {pl : List Int} {x0 y0 z0 : Int} {W : World} (h : OneX w A n c ia mx ic rb st tb nm tn va k vc pl x0 y0 z0 W) (x y z : Int) :
   OneX w A n c ia mx ic rb st tb nm tn va k vc pl x y z (((W.setCell ⟨tb, 3, none⟩ (.int .i64 x)).setCell ⟨tb, 4, none⟩ (.int .i64 y)).setCell ⟨tb, 5, none⟩ (.int .i64 z)) := by
 have hne := h.ne
 have hb := h.htb
 have t1 : (W.setCell ⟨tb, 3, none⟩ (.int .i64 x)).heap[tb]? = some (.cells #[.string nm, .string tn, .slice va k vc, .int .i64 x, .int .i64 y0, .int .i64 z0] 28) := by
   rw [setCell_eq_setRow W _ 3 _ 28 _ _ h.tab]
   exact setRow_heap W _ _ _ 28 _ h.tab
 have t2 : ((W.setCell ⟨tb, 3, none⟩ (.int .i64 x)).setCell ⟨tb, 4, none⟩ (.int .i64 y)).heap[tb]? = some (.cells #[.string nm, .string tn, .slice va k vc, .int .i64 x, .int .i64 y, .int .i64 z0] 28) := by
   rw [setCell_eq_setRow _ _ 4 _ 28 _ _ t1]
   exact setRow_heap _ _ _ _ 28 _ t1
 have t3 : (((W.setCell ⟨tb, 3, none⟩ (.int .i64 x)).setCell ⟨tb, 4, none⟩ (.int .i64 y)).setCell ⟨tb, 5, none⟩ (.int .i64 z)).heap[tb]? = some (.cells #[.string nm, .string tn, .slice va k vc, .int .i64 x, .int .i64 y, .int .i64 z] 28) := by
   rw [setCell_eq_setRow _ _ 5 _ 28 _ _ t2]
   exact setRow_heap _ _ _ _ 28 _ t2
 have hr : ∀ j, some tb = some j → rb < j := fun j e => by cases e; exact hb
 exact ⟨((h.box.grown (grown_set _ _ _ _) hr).grown (grown_set _ _ _ _) hr).grown (grown_set _ _ _ _) hr, t3, ownsRow_setCell_other (ownsRow_setCell_other (ownsRow_setCell_other h.own hne _) hne _) hne _, h.len, hb⟩
theorem OneX.ended {w : World} {A : Option Addr} {n c : Nat} {ia : Option Addr} {mx ic : Nat} {rb : Nat} {st : Rd} {tb : Nat} {nm tn : ByteArray} {va : Option Addr} {k vc : Nat} {pl : List Int} {x y z : Int} {W W' : World} (h : OneX w A n c ia mx ic rb st tb nm tn va k vc pl x y z W) (hk : k ≤ 1000) (hg : W.grownBy W' (some rb)) :
   Below w.heap.size w W' ∧ W'.heap[w.heap.size]? = some (.cells #[.slice A n c, .slice ia mx ic] 36) ∧ W'.heap[w.heap.size + 1]? = some (.cells #[.slice none 0 0, .slice none 0 0] 36) ∧ W'.heap[tb]? = some (.cells #[.string nm, .string tn, .slice va k vc, .int .i64 x, .int .i64 y, .int .i64 z] 28) ∧ ReadIdx W' ⟨nm, tn, va, k, vc, x, y, z⟩ pl := by
 have hb := h.htb
 have hr := h.box.hrb
 have ho : W'.ownsRow (rb + 1) 3 1 (.slice va k vc) k (pl.map (Value.int .i64)) := h.own.kept hg (Or.inr fun e => by have := (h.own.lt _ e).1; omega)
 refine ⟨h.box.below.grown hg h.box.below.size (fun b e => by cases e; omega), (hg.block _ (heap_lt h.box.arg) (fun e => by have := Option.some.inj e; omega)).trans h.box.arg, (hg.block _ (heap_lt h.box.ans) (fun e => by have := Option.some.inj e; omega)).trans h.box.ans, (hg.block _ (heap_lt h.tab) (fun e => by have := Option.some.inj e; omega)).trans h.tab, ?_⟩
 have hl := h.len
 obtain ⟨h1, h2⟩ := ho
 rcases h2 with ⟨h3, h4⟩ | ⟨g, cap, cur, h3, h4, h5, h6, h7, h8, h9⟩
 · cases h3
   have : pl = [] := List.length_eq_zero_iff.1 (by omega)
   subst this
   exact ⟨⟨by unfold maxLen; simp, Or.inl rfl⟩, rfl, Nat.zero_le _, fun _ => rfl, by simp⟩
 · cases h3
   refine ⟨⟨by unfold maxLen; omega, Or.inr ⟨g, 0, rfl, heap_lt h5, fun j u hj => ?_⟩⟩, hl.symm, by show pl.length ≤ vc; omega, (fun e => by cases e), by omega⟩
   have hj2 : (pl.map (Value.int .i64))[j]? = some (.int .i64 u) := by rw [List.getElem?_map, hj]; rfl
   rw [← h9, List.getElem?_take] at hj2
   rw [Nat.zero_add, cell_of_row _ g j _ _ _ h5]
   split at hj2
   · rw [← Array.getElem?_toList]; exact hj2
   · cases hj2
theorem step_int (w : World) {ops : Array Oper} {o : Oper} {a : Act} {K : Act → World → Prop} {Q : Exit → Act → World → Prop} {E : Prop} (hgd : o.guard = none) (s x : Operand)
   (ho : o.op = .call { callee := .builtin .append, args := #[s, x], argTypes := #[26, 26] }) (base : Nat) (v : Value) (n : Nat) (xs : List Value) (hv : a.eval s = v) (hown : w.ownsRow base 3 1 v n xs)
   (b c : Nat) (z : Int) (hx : a.eval x = .slice (some ⟨b, 0, none⟩) 1 c) (hq : w.heap[b]? = some (.cells #[.int .i64 z] 3)) (hl : n ≤ 2000) (hbase : base ≤ w.heap.size)
   (h : ∀ v' w', w'.ownsRow base 3 1 v' (n + 1) (xs ++ [.int .i64 z]) → w.grownBy w' v.ownBlock → (v'.ownBlock = v.ownBlock ∨ v'.ownBlock = some w.heap.size) → K (a.put o.dst v') w') :
   if Region.wanted o (yielded ops a.tmps) = true then Oper.wp Tryz.prog o a w K Q else E := by
 have hw : Region.wanted o (yielded ops a.tmps) = true := by simp [Region.wanted, hgd]
 rw [if_pos hw]
 obtain ⟨i0, hi0, hz0, hz1, hz2⟩ := info_parts info3
 obtain ⟨v', w', hrun, g2, g3, _, g5⟩ := run_append_own_at (P := Tryz.prog) w base 26 o.type 3 i0 _ 1 8 Tryz.underlying26 hi0 hz0 hz1 hz2 rfl (by omega) v n xs hown ⟨b, 0, none⟩ 1 c [.int .i64 z] rfl
   (fun j u hj => by
     rw [Addr.add_lit, Nat.zero_add, cell_of_row w b j _ _ _ hq]
     simpa using hj)
   (fun u hu => by
     rw [List.mem_singleton.1 hu]
     rfl) (by unfold maxLen; omega) (by omega) hbase
 unfold Oper.wp
 simp only [execOp, ho, resolve, invoke, builtin, Sem.run_bind, Sem.run_pure, Result.andThen_ok, List.map_toArray, List.map_cons, List.map_nil, hv, hx, hrun]
 exact h v' w' g2 g3 g5
def oneX (T : List PT) (X : List PX) (nm : ByteArray) (st : Rd) : Option (List PT × List PX) := match idxF nm st with
 | none => none
 | some t => if errX T X t = 0 then some (T, putX X t) else none
end Go.Proofs.YtcgpflkaejbkhaaGreatDoor
namespace Go.Proofs.YtcgpflkaejbkhaaGreatDoor
open Go.RowKit

theorem dt_c3 (S : ByteArray) (e : Int) (st : Rd) (w : World) (h : DocR S e st) : Calls Tryz.prog 83 #[.agg #[.string S, .int .i64 e], .int .i64 3] w (DocStep (cnS 3 st) (.int .i64 (cnV 3 st : Nat)) w) := dt_count 3 (by omega) S e st w h
theorem dt_c6 (S : ByteArray) (e : Int) (st : Rd) (w : World) (h : DocR S e st) : Calls Tryz.prog 83 #[.agg #[.string S, .int .i64 e], .int .i64 6] w (DocStep (cnS 6 st) (.int .i64 (cnV 6 st : Nat)) w) := dt_count 6 (by omega) S e st w h
theorem dt_c1600 (S : ByteArray) (e : Int) (st : Rd) (w : World) (h : DocR S e st) : Calls Tryz.prog 83 #[.agg #[.string S, .int .i64 e], .int .i64 1600] w (DocStep (cnS 1600 st) (.int .i64 (cnV 1600 st : Nat)) w) := dt_count 1600 (by omega) S e st w h
theorem dt_t12 (S : ByteArray) (e : Int) (st : Rd) (w : World) (h : DocR S e st) : Calls Tryz.prog 84 #[.agg #[.string S, .int .i64 e], .int .i64 12] w (DocStep (txS 12 st) (.string (txV 12 st)) w) := dt_text 12 (by omega) S e st w h
theorem dt_end (S : ByteArray) (e : Int) (st : Rd) (w : World) (h : DocR S e st) : Calls Tryz.prog 87 #[.agg #[.string S, .int .i64 e]] w (fun en w' => ∃ er : Int, en = .returned (.agg #[.string S, .int .i64 er]) ∧ (er == 0) = endR st ∧ Below w.heap.size w w') := (rend S e st w h).mono fun _ _ ⟨er, h1, h2, h3⟩ => ⟨er, h1, by
 by_cases h : er = 0
 · rw [beq_iff_eq.2 h, h2.1 h]
 · rw [beq_eq_false_iff_ne.2 h]
   cases hE : endR st with
   | false => rfl
   | true => exact absurd (h2.2 hE) h, h3⟩
theorem DocR.gone {S : ByteArray} {e : Int} {st : Rd} (h : DocR S e st) (he : e ≠ 0) : st = none := by
 cases st with
 | none => rfl
 | some l => exact absurd h.2.1 he
structure RTk (w : World) (rb : Nat) (S : ByteArray) (er : Int) (nm : ByteArray) (va : Option Addr) (k vc : Nat) (cols : List Col) (x y z : Int) (W : World) : Prop where
 below : Below w.heap.size w W
 ans : W.heap[w.heap.size + 1]? = some (.cells #[.string ⟨#[]⟩, .slice none 0 0, .int .i64 0, .int .i64 0, .int .i64 0] 25)
 tab : W.heap[w.heap.size + 2]? = some (.cells #[.string nm, .slice va k vc, .int .i64 x, .int .i64 y, .int .i64 z] 25)
 rd : W.heap[rb]? = some (.cells #[.string S, .int .i64 er] 128)
 own : W.ownsRow (w.heap.size + 3) 42 3 (.slice va k vc) k (cols.map colL).flatten
 len : cols.length = k
 hrb : w.heap.size + 3 ≤ rb
theorem row_ty {W : World} {base : Nat} {ty K : Nat} {v : Value} {k : Nat} {l : List Value} (h : W.ownsRow base ty K v k l) {b : Nat} {cur : Array Value} {t : TypeId} {fr : Nat × Nat} (hb : W.heap[b]? = some (.cells cur t fr)) (ht : t ≠ ty) : v.ownBlock ≠ some b := by
 intro e
 obtain ⟨_, h2⟩ := h
 rcases h2 with ⟨h3, _⟩ | ⟨g, cap, cur', h3, _, h4, _⟩
 · rw [h3] at e; cases e
 · rw [h3] at e
   have := Option.some.inj e
   dsimp only at this
   subst this
   rw [h4] at hb
   cases hb
   exact ht rfl
theorem heap_set_other (W : World) {b c i : Nat} (v : Value) (h : c ≠ b) : (W.setCell ⟨b, i, none⟩ v).heap[c]? = W.heap[c]? := by
 by_cases hc : c < W.heap.size
 · exact (grown_set W b i v).block c hc (fun e => h (Option.some.inj e))
 · have h1 : W.heap[c]? = none := Array.getElem?_eq_none (by omega)
   have h2 : (W.setCell ⟨b, i, none⟩ v).heap.size = W.heap.size := by simp
   rw [h1]
   exact Array.getElem?_eq_none (by omega)
theorem alloc_at (W : World) (O : Obj) (n : Nat) (h : W.heap.size = n) : (W.alloc O).heap[n]? = some O := by subst h; exact heap_alloc_new W O
theorem err_of (S : ByteArray) (er : Int) (W : World) : (Instr.field 128 (.agg #[.string S, .int .i64 er]) 1).run Tryz.prog W = .ok (.int .i64 er) W := by kernel_rfl
variable {w : World} {rb : Nat} {S : ByteArray} {er : Int} {nm : ByteArray} {va : Option Addr} {k vc : Nat} {cols : List Col} {x y z : Int} {W W' : World}
theorem RTk.keep (h : RTk w rb S er nm va k vc cols x y z W) (hB : Below W.heap.size W W') : RTk w rb S er nm va k vc cols x y z W' :=
 ⟨h.below.trans (hB.mono h.below.size), (hB.block _ (heap_lt h.ans)).trans h.ans, (hB.block _ (heap_lt h.tab)).trans h.tab, (hB.block _ (heap_lt h.rd)).trans h.rd, own_kept h.own hB (Nat.le_refl _), h.len, h.hrb⟩
theorem RTk.nrb (h : RTk w rb S er nm va k vc cols x y z W) : (Value.slice va k vc).ownBlock ≠ some rb := row_ty h.own h.rd (by decide)
theorem RTk.ntb (h : RTk w rb S er nm va k vc cols x y z W) : (Value.slice va k vc).ownBlock ≠ some (w.heap.size + 2) := row_ty h.own h.tab (by decide)
theorem RTk.nab (h : RTk w rb S er nm va k vc cols x y z W) : (Value.slice va k vc).ownBlock ≠ some (w.heap.size + 1) := row_ty h.own h.ans (by decide)
theorem RTk.other (h : RTk w rb S er nm va k vc cols x y z W) (cb i : Nat) (v : Value) (h1 : w.heap.size + 3 ≤ cb) (h2 : rb ≠ cb) (h3 : (Value.slice va k vc).ownBlock ≠ some cb) : RTk w rb S er nm va k vc cols x y z (W.setCell ⟨cb, i, none⟩ v) :=
 ⟨h.below.setCell (p := ⟨cb, i, none⟩) (show w.heap.size ≤ cb by omega) v, (heap_set_other W v (by omega)).trans h.ans, (heap_set_other W v (by omega)).trans h.tab, (heap_set_other W v h2).trans h.rd, ownsRow_setCell_other h.own h3 v, h.len, h.hrb⟩
theorem RTk.read (h : RTk w rb S er nm va k vc cols x y z W) (S' : ByteArray) (e' : Int) : RTk w rb S' e' nm va k vc cols x y z ((W.setCell ⟨rb, 0, none⟩ (.string S')).setCell ⟨rb, 1, none⟩ (.int .i64 e')) := by
 have hb := h.hrb
 have t1 : (W.setCell ⟨rb, 0, none⟩ (.string S')).heap[rb]? = some (.cells #[.string S', .int .i64 er] 128) := by
   rw [setCell_eq_setRow W _ 0 _ 128 _ _ h.rd]
   exact setRow_heap W _ _ _ 128 _ h.rd
 have t2 : ((W.setCell ⟨rb, 0, none⟩ (.string S')).setCell ⟨rb, 1, none⟩ (.int .i64 e')).heap[rb]? = some (.cells #[.string S', .int .i64 e'] 128) := by
   rw [setCell_eq_setRow _ _ 1 _ 128 _ _ t1]
   exact setRow_heap _ _ _ _ 128 _ t1
 exact ⟨(h.below.setCell (p := ⟨rb, 0, none⟩) (show w.heap.size ≤ rb by omega) _).setCell (p := ⟨rb, 1, none⟩) (show w.heap.size ≤ rb by omega) _, (heap_set_other _ _ (by omega)).trans ((heap_set_other W _ (by omega)).trans h.ans), (heap_set_other _ _ (by omega)).trans ((heap_set_other W _ (by omega)).trans h.tab), t2, ownsRow_setCell_other (ownsRow_setCell_other h.own h.nrb _) h.nrb _, h.len, hb⟩
theorem RTk.setTab (h : RTk w rb S er nm va k vc cols x y z W) (i : Nat) (v : Value) {x' y' z' : Int} (hi : (#[.string nm, .slice va k vc, .int .i64 x, .int .i64 y, .int .i64 z] : Array Value).setIfInBounds i v = #[.string nm, .slice va k vc, .int .i64 x', .int .i64 y', .int .i64 z']) : RTk w rb S er nm va k vc cols x' y' z' (W.setCell ⟨w.heap.size + 2, i, none⟩ v) := by
 have hb := h.hrb
 have t1 : (W.setCell ⟨w.heap.size + 2, i, none⟩ v).heap[w.heap.size + 2]? = some (.cells #[.string nm, .slice va k vc, .int .i64 x', .int .i64 y', .int .i64 z'] 25) := by
   rw [setCell_eq_setRow W _ i _ 25 _ _ h.tab, ← hi]
   exact setRow_heap W _ _ _ 25 _ h.tab
 exact ⟨h.below.setCell (p := ⟨w.heap.size + 2, i, none⟩) (show w.heap.size ≤ w.heap.size + 2 by omega) _, (heap_set_other W _ (by omega)).trans h.ans, t1, (heap_set_other W _ (by omega)).trans h.rd, ownsRow_setCell_other h.own h.ntb _, h.len, hb⟩
theorem RTk.start {a b c : Obj} {w2 : World} (w : World) (S : ByteArray) (er : Int) (nm : ByteArray) (hb : b = .cells #[.string ⟨#[]⟩, .slice none 0 0, .int .i64 0, .int .i64 0, .int .i64 0] 25) (hc : c = .cells #[.string nm, .slice none 0 0, .int .i64 0, .int .i64 0, .int .i64 0] 25) (hB : Below (((w.alloc a).alloc b).alloc c).heap.size (((w.alloc a).alloc b).alloc c) w2) : RTk w w2.heap.size S er nm none 0 0 [] 0 0 0 (w2.alloc (.cells #[.string S, .int .i64 er] 128)) := by
 subst hb hc
 have h1 : (((w.alloc a).alloc (.cells #[.string ⟨#[]⟩, .slice none 0 0, .int .i64 0, .int .i64 0, .int .i64 0] 25)).alloc (.cells #[.string nm, .slice none 0 0, .int .i64 0, .int .i64 0, .int .i64 0] 25)).heap[w.heap.size + 1]? = some (.cells #[.string ⟨#[]⟩, .slice none 0 0, .int .i64 0, .int .i64 0, .int .i64 0] 25) := by
   rw [heap_alloc_old _ _ (by simp)]
   have h := heap_alloc_new (w.alloc a) (.cells #[.string ⟨#[]⟩, .slice none 0 0, .int .i64 0, .int .i64 0, .int .i64 0] 25)
   rw [World.size_alloc] at h
   exact h
 have h2 : (((w.alloc a).alloc (.cells #[.string ⟨#[]⟩, .slice none 0 0, .int .i64 0, .int .i64 0, .int .i64 0] 25)).alloc (.cells #[.string nm, .slice none 0 0, .int .i64 0, .int .i64 0, .int .i64 0] 25)).heap[w.heap.size + 2]? = some (.cells #[.string nm, .slice none 0 0, .int .i64 0, .int .i64 0, .int .i64 0] 25) := by
   have h := heap_alloc_new ((w.alloc a).alloc (.cells #[.string ⟨#[]⟩, .slice none 0 0, .int .i64 0, .int .i64 0, .int .i64 0] 25)) (.cells #[.string nm, .slice none 0 0, .int .i64 0, .int .i64 0, .int .i64 0] 25)
   rw [World.size_alloc, World.size_alloc] at h
   exact h
 have hs := hB.size
 simp at hs
 exact ⟨((((below1 w _).alloc (by simp) _).alloc (by simp; omega) _).trans (hB.mono (by simp; omega))).alloc (by omega) _, (heap_alloc_old _ _ (by omega)).trans ((hB.block _ (heap_lt h1)).trans h1), (heap_alloc_old _ _ (by omega)).trans ((hB.block _ (heap_lt h2)).trans h2), heap_alloc_new w2 _, World.ownsRow_nil _ _ _ _, rfl, by omega⟩
structure RTc (w : World) (rb : Nat) (S : ByteArray) (er : Int) (nm : ByteArray) (va : Option Addr) (k vc : Nat) (cols : List Col) (cb : Nat) (c : Col) (W : World) : Prop where
 rt : RTk w rb S er nm va k vc cols 0 0 0 W
 col : W.heap[cb]? = some (.cells (colL c).toArray 42)
 ne : (Value.slice va k vc).ownBlock ≠ some cb
 nrb : rb ≠ cb
 hcb : w.heap.size + 3 ≤ cb
variable {cb : Nat} {c : Col}
theorem RTc.start (h : RTk w rb S er nm va k vc cols 0 0 0 W) : RTc w rb S er nm va k vc cols W.heap.size ⟨⟨#[]⟩, 0, false⟩ (W.alloc (.cells (colL ⟨⟨#[]⟩, 0, false⟩).toArray 42)) :=
 ⟨h.keep (below1 W _), heap_alloc_new W _, fun e => by have := (h.own.lt _ e).2; omega, by have := heap_lt h.rd; omega, by have := heap_lt h.rd; have := h.hrb; omega⟩
theorem RTc.keep (h : RTc w rb S er nm va k vc cols cb c W) (hB : Below W.heap.size W W') : RTc w rb S er nm va k vc cols cb c W' :=
 ⟨h.rt.keep hB, (hB.block _ (heap_lt h.col)).trans h.col, h.ne, h.nrb, h.hcb⟩
theorem RTc.read (h : RTc w rb S er nm va k vc cols cb c W) (S' : ByteArray) (e' : Int) : RTc w rb S' e' nm va k vc cols cb c ((W.setCell ⟨rb, 0, none⟩ (.string S')).setCell ⟨rb, 1, none⟩ (.int .i64 e')) :=
 ⟨h.rt.read S' e', (heap_set_other _ _ h.nrb.symm).trans ((heap_set_other _ _ h.nrb.symm).trans h.col), h.ne, h.nrb, h.hcb⟩
theorem RTc.set (h : RTc w rb S er nm va k vc cols cb c W) (i : Nat) (v : Value) {c' : Col} (hi : (colL c).toArray.setIfInBounds i v = (colL c').toArray) : RTc w rb S er nm va k vc cols cb c' (W.setCell ⟨cb, i, none⟩ v) := by
 refine ⟨h.rt.other cb i v h.hcb h.nrb h.ne, ?_, h.ne, h.nrb, h.hcb⟩
 rw [setCell_eq_setRow W _ i _ 42 _ _ h.col, ← hi]
 exact setRow_heap W _ _ _ 42 _ h.col
theorem RTc.more {w6 : World} {O : Obj} {g cap : Nat} (h : RTc w rb S er nm va k vc cols cb c W)
   (hown : w6.ownsRow (w.heap.size + 3) 42 3 (.slice (some ⟨g, 0, none⟩) (k + 1) cap) (k + 1) ((cols.map colL).flatten ++ colL c)) (hg : (W.alloc O).grownBy w6 (Value.slice va k vc).ownBlock) :
   RTk w rb S er nm (some ⟨g, 0, none⟩) (k + 1) cap (cols ++ [c]) 0 0 0 (w6.setCell ⟨w.heap.size + 2, 1, none⟩ (.slice (some ⟨g, 0, none⟩) (k + 1) cap)) ∧ w6.heap[w.heap.size + 2]? = some (.cells #[.string nm, .slice va k vc, .int .i64 0, .int .i64 0, .int .i64 0] 25) := by
 have h5 := h.rt.keep (below1 W O)
 have hb := h5.hrb
 have ht6 := (hg.block _ (heap_lt h5.tab) (fun e => h5.ntb e.symm)).trans h5.tab
 have ha6 := (hg.block _ (heap_lt h5.ans) (fun e => h5.nab e.symm)).trans h5.ans
 have hr6 := (hg.block _ (heap_lt h5.rd) (fun e => h5.nrb e.symm)).trans h5.rd
 have hB6 : Below w.heap.size w w6 := h5.below.grown hg h5.below.size (fun b e => by have := (h5.own.lt b e).1; omega)
 have hne6 : (Value.slice (some ⟨g, 0, none⟩) (k + 1) cap).ownBlock ≠ some (w.heap.size + 2) := row_ty hown ht6 (by decide)
 refine ⟨⟨hB6.setCell (p := ⟨w.heap.size + 2, 1, none⟩) (show w.heap.size ≤ w.heap.size + 2 by omega) _, (heap_set_other _ _ (by omega)).trans ha6, ?_, (heap_set_other _ _ (by omega)).trans hr6, ?_, by rw [List.length_append, h5.len]; rfl, hb⟩, ht6⟩
 · rw [setCell_eq_setRow w6 _ 1 _ 25 _ _ ht6]
   exact setRow_heap w6 _ _ _ 25 _ ht6
 · have := ownsRow_setCell_other hown hne6 (a := ⟨w.heap.size + 2, 1, none⟩) (.slice (some ⟨g, 0, none⟩) (k + 1) cap)
   rw [List.map_append, List.flatten_append]
   simpa using this
theorem RTk.done (h : RTk w rb S er nm va k vc cols x y z W) (hk : k ≤ 1000) (a b d e f : Value) :
   Below w.heap.size w (((((W.setCell ⟨w.heap.size + 1, 0, none⟩ a).setCell ⟨w.heap.size + 1, 1, none⟩ b).setCell ⟨w.heap.size + 1, 2, none⟩ d).setCell ⟨w.heap.size + 1, 3, none⟩ e).setCell ⟨w.heap.size + 1, 4, none⟩ f) ∧
   ReadTab (((((W.setCell ⟨w.heap.size + 1, 0, none⟩ a).setCell ⟨w.heap.size + 1, 1, none⟩ b).setCell ⟨w.heap.size + 1, 2, none⟩ d).setCell ⟨w.heap.size + 1, 3, none⟩ e).setCell ⟨w.heap.size + 1, 4, none⟩ f) ⟨nm, va, k, vc, x, y, z⟩ cols := by
 refine ⟨((((h.below.setCell (p := ⟨w.heap.size + 1, 0, none⟩) (Nat.le_succ _) _).setCell (p := ⟨w.heap.size + 1, 1, none⟩) (Nat.le_succ _) _).setCell (p := ⟨w.heap.size + 1, 2, none⟩) (Nat.le_succ _) _).setCell (p := ⟨w.heap.size + 1, 3, none⟩) (Nat.le_succ _) _).setCell (p := ⟨w.heap.size + 1, 4, none⟩) (Nat.le_succ _) _, ?_⟩
 have ho := ownsRow_setCell_other (a := ⟨w.heap.size + 1, 4, none⟩) (ownsRow_setCell_other (a := ⟨w.heap.size + 1, 3, none⟩) (ownsRow_setCell_other (a := ⟨w.heap.size + 1, 2, none⟩) (ownsRow_setCell_other (a := ⟨w.heap.size + 1, 1, none⟩) (ownsRow_setCell_other (a := ⟨w.heap.size + 1, 0, none⟩) h.own h.nab a) h.nab b) h.nab d) h.nab e) h.nab f
 have hl := h.len
 obtain ⟨h1, h2, h3⟩ := (RowsAt.of_own ho).cells (K := 3) (by omega) (fun u hu => by obtain ⟨q, _, rfl⟩ := List.mem_map.1 hu; rfl) (by rw [List.length_map]; omega)
 exact ⟨h1, hl.symm, by show cols.length ≤ vc; omega, fun e => (h3 e).2, by omega⟩
theorem list_col (w : World) {ops : Array Oper} {rest : List Oper} {o : Oper} {a : Act} {Q : Exit → Act → World → Prop} (hgd : o.guard = none) (s x : Operand)
   (ho : o.op = .call { callee := .builtin .append, args := #[s, x], argTypes := #[23, 23] }) (base : Nat) (v : Value) (n : Nat) (xs : List Value) (hv : a.eval s = v) (hown : w.ownsRow base 42 3 v n xs)
   (b c : Nat) (t : Col) (hx : a.eval x = .slice (some ⟨b, 0, none⟩) 1 c) (hq : w.heap[b]? = some (.cells (colL t).toArray 42)) (hl : n ≤ 2000) (hbase : base ≤ w.heap.size)
   (h : ∀ v' w', w'.ownsRow base 42 3 v' (n + 1) (xs ++ colL t) → w.grownBy w' v.ownBlock → wpList Tryz.prog ops Q rest (a.put o.dst v') w') : wpList Tryz.prog ops Q (o :: rest) a w := by
 refine wpList_plain hgd fun K hK => ?_
 obtain ⟨i0, hi0, hz0, hz1, hz2⟩ := info_parts info25
 obtain ⟨v', w', hrun, g2, g3, _, g5⟩ := run_append_own_at (P := Tryz.prog) w base 23 o.type 42 i0 _ 3 32 Tryz.underlying23 hi0 hz0 hz1 hz2 rfl (by omega) v n xs hown ⟨b, 0, none⟩ 1 c (colL t) rfl
   (fun j u hj => by
     rw [Addr.add_lit, Nat.zero_add, cell_of_row w b j _ _ _ hq]
     simpa using hj)
   (fun u hu => by
     unfold colL at hu
     simp only [List.mem_cons, List.mem_nil_iff, or_false] at hu
     rcases hu with rfl | rfl | rfl <;> rfl) (by unfold maxLen; omega) (by omega) hbase
 unfold Oper.wp
 simp only [execOp, ho, resolve, invoke, builtin, Sem.run_bind, Sem.run_pure, Result.andThen_ok, List.map_toArray, List.map_cons, List.map_nil, hv, hx, hrun]
 exact hK _ _ (h v' w' g2 g3)
def TabP (w : World) (nm : ByteArray) (r : Option PT) (e : Ending) (w' : World) : Prop := ∃ (va : Option Addr) (k vc : Nat) (cols : List Col) (x y z : Int), e = .returned (.tuple #[.agg #[.string nm, .slice va k vc, .int .i64 x, .int .i64 y, .int .i64 z], .bool r.isSome]) ∧ Below w.heap.size w w' ∧ ReadTab w' ⟨nm, va, k, vc, x, y, z⟩ cols ∧ ∀ t, r = some t → ptOf (⟨nm, va, k, vc, x, y, z⟩, cols) = t
end Go.Proofs.YtcgpflkaejbkhaaGreatDoor
