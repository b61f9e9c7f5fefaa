/- The walk of Merge. -/
import Derived.Test.YtcnkghcdjicldaaAdd2
namespace Go.Proofs.Ytcnkghcdjicldaa
open Go.RowKit

/-- what two indexes merge to -/
def MergeYes (a b : DefT) (w : World) (e : Ending) (w' : World) : Prop := ∃ A c, e = .returned (.tuple #[.agg #[.int .i64 a.tab, .slice A ((behR a.cols b.cols).take 3).length c, .bool false], .bool true]) ∧ Ints w' A c ((behR a.cols b.cols).take 3) ∧ Below w.heap.size w w'
def MergeNo (w : World) (e : Ending) (w' : World) : Prop := e = .returned (.tuple #[.agg #[.int .i64 0, .slice none 0 0, .bool false], .bool false]) ∧ Below w.heap.size w w'
set_option maxRecDepth 100000 in
set_option maxHeartbeats 2000000 in
theorem merge_no (a b : DefT) (w : World) (h : a.tab ≠ b.tab) : Calls Try.prog 30 #[.agg a.cells.toArray, .agg b.cells.toArray] w (MergeNo w) := by
  obtain ⟨t, A, c, l⟩ := a
  obtain ⟨t2, A2, c2, l2⟩ := b
  have hne : (t != t2) = true := by simpa using h
  clear h
  show Calls Try.prog 30 #[.agg #[.int .i64 t, .slice A l.length c, .bool false], .agg #[.int .i64 t2, .slice A2 l2.length c2, .bool false]] w _
  go_enter Try.func30, Try.ntmps30
  go_wp2_with fail
  exact bodyPost_ret (v := .tuple #[.agg #[.int .i64 0, .slice none 0 0, .bool false], .bool false]) (by simp [results, Try.results30, go_sem]) rfl ⟨rfl, below3 w _ _ _⟩
theorem heap_three (w : World) {w2 : World} (o1 o2 o3 : Obj) (hB : Below (((w.alloc o1).alloc o2).alloc o3).heap.size (((w.alloc o1).alloc o2).alloc o3) w2) :
    w2.heap[w.heap.size]? = some o1 ∧ w2.heap[w.heap.size + 1 + 1]? = some o3 ∧ Below w.heap.size w w2 ∧ w.heap.size + 2 < w2.heap.size := by
  have hz : (((w.alloc o1).alloc o2).alloc o3).heap.size = w.heap.size + 3 := by simp
  have hs := hB.size
  rw [hz] at hs
  refine ⟨?_, ?_, (below3 w o1 o2 o3).trans (hB.mono (below3 w o1 o2 o3).size), by omega⟩
  · rw [hB.block _ (by rw [hz]; omega)]
    exact ((Below.heap_alloc _ _ _ (by simp; omega)).trans (Below.heap_alloc _ _ _ (by simp))).trans (heap_alloc_new w o1)
  · rw [hB.block _ (by rw [hz]; omega)]
    have := heap_alloc_new ((w.alloc o1).alloc o2) o3
    rwa [World.size_alloc, World.size_alloc] at this
set_option maxRecDepth 100000 in
set_option maxHeartbeats 2000000 in
theorem merge_yes (a b : DefT) (w : World) (h : a.tab = b.tab) (h1 : Ints w a.A a.c a.cols) (h2 : Ints w b.A b.c b.cols) (hl1 : a.cols.length ≤ 100) (hl2 : b.cols.length ≤ 100) : Calls Try.prog 30 #[.agg a.cells.toArray, .agg b.cells.toArray] w (MergeYes a b w) := by
  obtain ⟨t, A, c, l⟩ := a
  obtain ⟨t2, A2, c2, l2⟩ := b
  obtain rfl : t = t2 := h
  have HB := Lib.hid (fun (W : World) (hB : Below w.heap.size w W) => behind_any A A2 c c2 l l2 W (h1.keep hB) (h2.keep hB) hl1 hl2)
  have HBL := Lib.hid (behR_le l l2)
  clear h1 h2 hl1 hl2
  show Calls Try.prog 30 #[.agg #[.int .i64 t, .slice A l.length c, .bool false], .agg #[.int .i64 t, .slice A2 l2.length c2, .bool false]] w _
  unfold MergeYes
  dsimp only
  generalize behR l l2 = zs at HB HBL ⊢
  obtain ⟨z3, hz3⟩ : ∃ z3, z3 = zs.take 3 := ⟨_, rfl⟩
  rw [← hz3]
  have HZ3 := Lib.hid hz3
  clear hz3
  go_enter Try.func30, Try.ntmps30
  go_wp2_with (first
    | (go_at_call 19; (with_reducible refine (HB.out _ ?_).mono ?_); (exact below3 w _ _ _); rintro e w2 ⟨v, rfl, ho, hB⟩)
    | fail)
  have hz := (below3 w (.cells #[.int .i64 t, .slice A l.length c, .bool false] 36) (.cells #[.int .i64 t, .slice A2 l2.length c2, .bool false] 36) (.cells #[.int .i64 0, .slice none 0 0, .bool false] 36)).size
  have q0 := heap_three w (.cells #[.int .i64 t, .slice A l.length c, .bool false] 36) (.cells #[.int .i64 t, .slice A2 l2.length c2, .bool false] 36) (.cells #[.int .i64 0, .slice none 0 0, .bool false] 36) hB
  obtain ⟨qa, qr, hBB, hlt⟩ := q0
  have a0 := cell_of_row _ _ 0 _ _ _ qa
  have r0 := cell_of_row _ _ 0 _ _ _ qr
  have r1 := cell_of_row _ _ 1 _ _ _ qr
  have r2 := cell_of_row _ _ 2 _ _ _ qr
  have g0 := frozen_of_row _ _ 0 _ _ qr
  have g1 := frozen_of_row _ _ 1 _ _ qr
  have g2 := frozen_of_row _ _ 2 _ _ qr
  have hbase : w.heap.size + 1 + 1 < (((w.alloc (.cells #[.int .i64 t, .slice A l.length c, .bool false] 36)).alloc (.cells #[.int .i64 t, .slice A2 l2.length c2, .bool false] 36)).alloc (.cells #[.int .i64 0, .slice none 0 0, .bool false] 36)).heap.size := by simp
  have HO := Lib.hid (And.intro ho hbase)
  obtain ⟨A3, k3, rfl, hI⟩ := ints_own ho rfl
  have HBB := Lib.hid hBB
  have hkk := hI.len
  have hkm := hI.2
  unfold maxLen at hkm
  have hmn : 0 ≤ min (zs.length : Int) 3 := by omega
  have hmx : min (zs.length : Int) 3 ≤ (k3 : Int) := by omega
  have HQ := Lib.hid (show (min (zs.length : Int) 3).toNat = z3.length by rw [HZ3.out, List.length_take]; omega)
  clear hB ho hI qa qr hBB hbase
  go_still_tail 8, (by kernel_rfl)
  change wpList _ _ _ _ _ w2.drew
  go_wp2_with fail
  refine bodyPost_ret (v := .tuple #[.agg #[.int .i64 t, .slice A3 (min (zs.length : Int) 3).toNat k3, .bool false], .bool true]) (by simp [results, Try.results30, go_sem, r0, r1, r2]) rfl ⟨A3, k3, by rw [HQ.out], ?_, ?_⟩
  · have h1 := own_set (j := 2) (u := .bool false) (own_set (j := 1) (u := .slice A3 (min (zs.length : Int) 3).toNat k3) (own_set (j := 0) (u := .int .i64 t) (own_kept HO.out.1 (Below.refl _ _).drew (Nat.le_refl _)) HO.out.2) HO.out.2) HO.out.2
    rw [HZ3.out]
    exact (Ints.of_own h1 rfl rfl).front_min 3
  · exact (((HBB.out.drew.setCell (p := ⟨w.heap.size + 1 + 1, 0, none⟩) (Nat.le_add_right _ 2) _).setCell (p := ⟨w.heap.size + 1 + 1, 1, none⟩) (Nat.le_add_right _ 2) _).setCell (p := ⟨w.heap.size + 1 + 1, 2, none⟩) (Nat.le_add_right _ 2) _)
end Go.Proofs.Ytcnkghcdjicldaa
